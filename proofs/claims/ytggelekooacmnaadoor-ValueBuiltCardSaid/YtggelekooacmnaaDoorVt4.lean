/- Lemmas for: l9 -/
import Derived.Test.YtggelekooacmnaaDoorVt2
import Derived.Test.YtggelekooacmnaaDoorVt3
-- value.check and the Ee wrong, told to the printer as plain functions of valid types
namespace Go.Proofs.YtggelekooacmnaaDoor.Q
open Go.RowKit Go.Proofs.YtggelekooacmnaaDoorW.aJ Go.Proofs.YtggelekooacmnaaDoorW.bu Go.Proofs.YtggelekooacmnaaDoorW.bB
open Go.Proofs.YtggelekooacmnaaDoor.Pure
set_option linter.unusedVariables false
set_option linter.unusedSimpArgs false
/-- a valid type that is not real, decided -/
def vtb : Nat → S24 → Bool
  | 0, _ => false
  | n + 1, t =>
    if t.f0 = 5 then t.f1 == 0 && t.f2 == 0 && t.f3 == 0 && decide (2 ≤ t.f4.length) && decide (t.f4.length ≤ 4) && t.f4.all fun x => vtb n x && x.f0 != 3
    else if t.f0 = 6 then t.f1 == 0 && t.f2 == 0 && decide (1 ≤ t.f3) && decide (t.f3 ≤ 4) && t.f4.length == 1 && t.f4.all fun x => vtb n x && (x.f0 == 1 || x.f0 == 2)
    else t.f4.isEmpty && t.f3 == 0 && (if t.f0 = 2 then decide (-1000 ≤ t.f1) && decide (t.f1 ≤ t.f2) && decide (t.f2 ≤ 1000) else t.f1 == 0 && t.f2 == 0 && (t.f0 == 1 || t.f0 == 3))
theorem vtb_vt (n : Nat) : ∀ {t : S24}, vtb n t = true → Vt n t ∧ t.f0 ≠ 4 := by
  induction n with
  | zero => intro t h; simp [vtb] at h
  | succ n ih =>
    intro t h
    obtain ⟨a0, a1, a2, a3, l⟩ := t
    simp only [vtb] at h
    by_cases h5 : a0 = 5
    · subst h5
      simp only [if_pos] at h
      simp only [Bool.and_eq_true, beq_iff_eq, decide_eq_true_eq, List.all_eq_true, bne_iff_ne] at h
      obtain ⟨⟨⟨⟨⟨rfl, rfl⟩, rfl⟩, h1⟩, h2⟩, h3⟩ := h
      exact ⟨.tup _ l h1 h2 (fun x hx => (ih (h3 x hx).1).1) (fun x hx => ⟨(h3 x hx).2, (ih (h3 x hx).1).2⟩), by simp⟩
    · rw [if_neg h5] at h
      by_cases h6 : a0 = 6
      · subst h6
        simp only [if_pos] at h
        simp only [Bool.and_eq_true, Bool.or_eq_true, beq_iff_eq, decide_eq_true_eq, List.all_eq_true] at h
        obtain ⟨⟨⟨⟨⟨rfl, rfl⟩, h1⟩, h2⟩, h3⟩, h4⟩ := h
        match l, h3, h4 with
        | [x], _, h4 => exact ⟨.lst _ a3 x h1 h2 (ih (h4 x List.mem_cons_self).1).1 (h4 x List.mem_cons_self).2, by simp⟩
      · rw [if_neg h6] at h
        simp only [Bool.and_eq_true, beq_iff_eq, List.isEmpty_iff] at h
        obtain ⟨⟨rfl, rfl⟩, h⟩ := h
        by_cases h2 : a0 = 2
        · subst h2
          simp only [if_pos, Bool.and_eq_true, decide_eq_true_eq] at h
          exact ⟨.int _ _ _ h.1.1 h.1.2 h.2, by simp⟩
        · rw [if_neg h2] at h
          simp only [Bool.and_eq_true, Bool.or_eq_true, beq_iff_eq] at h
          obtain ⟨⟨rfl, rfl⟩, rfl | rfl⟩ := h
          · exact ⟨.bool _, by simp⟩
          · exact ⟨.nat _, by simp⟩
theorem vt_vtb (n : Nat) : ∀ {t : S24}, Vt n t → t.f0 ≠ 4 → vtb n t = true := by
  induction n with
  | zero => intro t h; cases h
  | succ n ih =>
    intro t h h4
    cases h with
    | bool => simp [vtb]
    | int _ lo hi h1 h2 h3 => simp [vtb, h1, h2, h3]
    | nat => simp [vtb]
    | real => exact absurd rfl h4
    | tup _ l h1 h2 h3 h5 =>
      simp only [vtb, if_pos]
      simp only [Bool.and_eq_true, beq_iff_eq, decide_eq_true_eq, List.all_eq_true, bne_iff_ne]
      exact ⟨⟨⟨⟨⟨by first | rfl | trivial, by first | rfl | trivial⟩, by first | rfl | trivial⟩, h1⟩, h2⟩, fun x hx => ⟨ih (h3 x hx) (h5 x hx).2, (h5 x hx).1⟩⟩
    | lst _ m x h1 h2 h3 h5 =>
      have := ih h3 (by omega)
      simp [vtb, h1, h2, this, h5]
def l8.f (a0 a1 a2 a3 : Int) (l : List S24) (v0 : Int) (vs : List S51) : Option Int := if vtb 10 ⟨a0, a1, a2, a3, l⟩ = true then some (chk 10 ⟨a0, a1, a2, a3, l⟩ ⟨v0, vs⟩) else none
def jf.f (a0 a1 a2 a3 : Int) (l : List S24) (v0 : Int) (vs : List S51) : Option Int := if vtb 10 ⟨a0, a1, a2, a3, l⟩ = true then some (chk 10 ⟨a0, a1, a2, a3, l⟩ ⟨v0, vs⟩) else none
theorem l8.calls (a0 a1 a2 a3 : Int) (A : Option Addr) (c : Nat) (l : List S24) (v0 : Int) (B : Option Addr) (d : Nat) (vs : List S51) (r : Int) (w : World) (hA : Kd.C k24 w A l.length l) (hc : l.length ≤ c) (hB : Kd.C k51 w B vs.length vs) (hd : vs.length ≤ d) (h : l8.f a0 a1 a2 a3 l v0 vs = some r) :
    Calls Tryd.prog 78 #[.agg #[.int .i64 a0, .int .i64 a1, .int .i64 a2, .int .i64 a3, .slice A l.length c], .agg #[.int .i64 v0, .slice B vs.length d]] w fun e w' => e = .returned (.int .i64 r) ∧ Below w.heap.size w w' := by
  unfold l8.f at h
  by_cases hv : vtb 10 ⟨a0, a1, a2, a3, l⟩ = true
  · rw [if_pos hv] at h
    obtain rfl := Option.some.inj h
    obtain ⟨h1, h2⟩ := vtb_vt 10 hv
    exact Yf 10 ⟨a0, a1, a2, a3, l⟩ ⟨v0, vs⟩ h1 h2 A c B d w hA hc hB hd
  · rw [if_neg hv] at h; cases h
theorem jf.calls (a0 a1 a2 a3 : Int) (A : Option Addr) (c : Nat) (l : List S24) (v0 : Int) (B : Option Addr) (d : Nat) (vs : List S51) (r : Int) (w : World) (hA : Kd.C k24 w A l.length l) (hc : l.length ≤ c) (hB : Kd.C k51 w B vs.length vs) (hd : vs.length ≤ d) (h : jf.f a0 a1 a2 a3 l v0 vs = some r) :
    Calls Tryd.prog 56 #[.agg #[.int .i64 a0, .int .i64 a1, .int .i64 a2, .int .i64 a3, .slice A l.length c], .agg #[.int .i64 v0, .slice B vs.length d]] w fun e w' => e = .returned (.int .i64 r) ∧ Below w.heap.size w w' := by
  unfold jf.f at h
  by_cases hv : vtb 10 ⟨a0, a1, a2, a3, l⟩ = true
  · rw [if_pos hv] at h
    obtain rfl := Option.some.inj h
    obtain ⟨h1, h2⟩ := vtb_vt 10 hv
    exact Yg 10 ⟨a0, a1, a2, a3, l⟩ ⟨v0, vs⟩ h1 h2 A c B d w hA hc hB hd
  · rw [if_neg hv] at h; cases h
end Go.Proofs.YtggelekooacmnaaDoor.Q
namespace Go.Proofs.YtggelekooacmnaaDoor.Q
open Go.RowKit Go.Proofs.YtggelekooacmnaaDoorW.aJ Go.Proofs.YtggelekooacmnaaDoorW.bu Go.Proofs.YtggelekooacmnaaDoorW.bB
attribute [local go_sem] cZ dh dO dP bX bY dm dn   -- for this text's walks alone
set_option linter.unusedVariables false
set_option linter.unusedSimpArgs false

/-! ### fO: function 76 -/
def fO.f (k : Nat) (ah ak aj ai : Int) (af : List (S24)) : Option (Int) := (iI.f k ah ak aj ai af).bind fun t784 => (if t784 = 0 then (if ah = 4 then (some 8) else (some 0)) else (some t784))
theorem fO.mono : ∀ a0 a1 a2 a3 a4 k, LeO (fO.f k a0 a1 a2 a3 a4) (fO.f (k + 1) a0 a1 a2 a3 a4) := by
 intro a0 a1 a2 a3 a4 k; unfold fO.f; have m0 := @iI.mono; exact mo_
set_option maxHeartbeats 8000000 in
set_option maxRecDepth 100000 in
theorem fO.calls (k : Nat) (ah ak aj ai : Int) (aY : Option Addr) (aT : Nat) (af : List (S24)) (r : Int) (w : World) (dD : Kd.C k24 w aY af.length af) (dX : af.length ≤ aT) (h : fO.f k ah ak aj ai af = some r) :
  Calls Tryd.prog 76 #[.agg #[.int .i64 ah, .int .i64 ak, .int .i64 aj, .int .i64 ai, .slice aY af.length aT]] w fun e w' => e = .returned (.int .i64 r) ∧ Below w.heap.size w w' := by
 have bT := aa.mk dD; have ed := aa.mk dX; clear dD dX; have HB := aa.mk (Below.refl w.heap.size w); have H : ((iI.f k ah ak aj ai af).bind fun t784 => (if t784 = 0 then (if ah = 4 then (some 8) else (some 0)) else (some t784))) = some r := h; clear h; replace H := Option.bind_eq_some_iff.mp H; obtain ⟨t784, A20, H⟩ := H; have A2 := aa.mk A20; clear A20; by_cases c3 : t784 = 0
 focus
  rw [if_pos c3] at H; obtain ⟨kM, mF⟩ := bq_ c3; clear c3; by_cases c4 : ah = 4
  focus
   rw [if_pos c4] at H; obtain ⟨kN, oZ⟩ := bq_ c4; clear c4
  rotate_left
  focus
   rw [if_neg c4] at H; obtain ⟨kN, oZ⟩ := bn_ c4
  rotate_left
 rotate_left 2
 focus
  rw [if_neg c3] at H; obtain ⟨kM, mF⟩ := bn_ c3
 rotate_left
 all_goals
  obtain rfl := Option.some.inj H; go_enter Tryd.func76, Tryd.ntmps76; go_wp2_with (first | ((with_reducible refine aM (N := 1) rfl ?_); refine bx_ ((t5_ ah ak aj ai aY af.length aT)) 24 ?_; intro gb783 hg w5 BK783 _ HB hb; clear hb hg; obtain ⟨EF, hcz6_1, hcz6_2, hcz6_3, hcz6_4, _, _, _, _, _⟩ := bE BK783.out) | ((with_reducible refine ay (f := 12) rfl ?_); refine gl_ (some 5) Tryd.func12 #[.agg (t5_ ah ak aj ai aY af.length aT)] ?_; (with_reducible refine (iI.calls k ah ak aj ai _ _ af t784 _ ?au ?av A2.out).mono ?_); (case au => exact cb_ (Kd.aV bT.out HB.out)); (case av => exact ed.out); rintro e w7 ⟨rfl, hb⟩; refine ⟨_, rfl, ?_⟩; replace BK783 := kb_ BK783 hb; replace HB := aa.mk (ax bl_ hb); (try (obtain ⟨uw, _, _, _, _, _, _, _, _, _⟩ := bE BK783.out))))
  go_ret; exact ⟨re_, bl_⟩


/-! ### gX: function 61 -/
def gX.f (k : Nat) (ah ak aj ai : Int) (af : List (S24)) (bf : Int) (aC : List (S51)) : Option (Int) := (fO.f k ah ak aj ai af).bind fun t791 => (if t791 = 0 then ((l8.f ah ak aj ai af bf aC).bind fun t792 => (some t792)) else (some t791))
theorem gX.mono : ∀ a0 a1 a2 a3 a4 a5 a6 k, LeO (gX.f k a0 a1 a2 a3 a4 a5 a6) (gX.f (k + 1) a0 a1 a2 a3 a4 a5 a6) := by
 intro a0 a1 a2 a3 a4 a5 a6 k; unfold gX.f; have m0 := @fO.mono; exact mo_
set_option maxHeartbeats 8000000 in
set_option maxRecDepth 100000 in
theorem gX.calls (k : Nat) (ah ak aj ai : Int) (aY : Option Addr) (aT : Nat) (af : List (S24)) (bf : Int) (dW : Option Addr) (dE : Nat) (aC : List (S51)) (r : Int) (w : World) (dD : Kd.C k24 w aY af.length af) (dX : af.length ≤ aT) (iW : Kd.C k51 w dW aC.length aC) (jB : aC.length ≤ dE) (h : gX.f k ah ak aj ai af bf aC = some r) :
  Calls Tryd.prog 61 #[.agg #[.int .i64 ah, .int .i64 ak, .int .i64 aj, .int .i64 ai, .slice aY af.length aT], .agg #[.int .i64 bf, .slice dW aC.length dE]] w fun e w' => e = .returned (.int .i64 r) ∧ Below w.heap.size w w' := by
 have bT := aa.mk dD; have ed := aa.mk dX; clear dD dX; have jw := aa.mk iW; have lK := aa.mk jB; clear iW jB; have HB := aa.mk (Below.refl w.heap.size w); have H : ((fO.f k ah ak aj ai af).bind fun t791 => (if t791 = 0 then ((l8.f ah ak aj ai af bf aC).bind fun t792 => (some t792)) else (some t791))) = some r := h; clear h; replace H := Option.bind_eq_some_iff.mp H; obtain ⟨t791, A30, H⟩ := H; have A3 := aa.mk A30; clear A30; by_cases c4 : t791 = 0
 focus
  rw [if_pos c4] at H; obtain ⟨kN, oZ⟩ := bq_ c4; clear c4; replace H := Option.bind_eq_some_iff.mp H; obtain ⟨t792, A50, H⟩ := H; have A5 := aa.mk A50; clear A50
 rotate_left
 focus
  rw [if_neg c4] at H; obtain ⟨kN, oZ⟩ := bn_ c4
 rotate_left
 all_goals
  obtain rfl := Option.some.inj H; go_enter Tryd.func61, Tryd.ntmps61; go_wp2_with (first | ((with_reducible refine aM (N := 2) rfl ?_); refine bx_ ((t5_ ah ak aj ai aY af.length aT)) 24 ?_; intro gb789 hg w6 J4 _ HB hb; clear hb hg) | ((with_reducible refine aM (N := 3) rfl ?_); refine bx_ ((t2_ bf dW aC.length dE)) 51 ?_; intro gb790 hg w7 BK790 _ HB hb; replace J4 := kb_ J4 hb; clear hb hg; obtain ⟨qy, uY, AJ, Fh, CQ, _, _, _, _, _⟩ := bE J4.out) | ((with_reducible refine ay (f := 76) rfl ?_); refine gl_ (some 7) Tryd.func76 #[.agg (t5_ ah ak aj ai aY af.length aT)] ?_; (with_reducible refine (fO.calls k ah ak aj ai _ _ af t791 _ ?au ?av A3.out).mono ?_); (case au => exact cb_ (Kd.aV bT.out HB.out)); (case av => exact ed.out); rintro e w10 ⟨rfl, hb⟩; refine ⟨_, rfl, ?_⟩; replace J4 := kb_ J4 hb; replace BK790 := kb_ BK790 hb; replace HB := aa.mk (ax bl_ hb); (try (obtain ⟨xL, ED, EE, OU, JC, _, _, _, _, _⟩ := bE J4.out; obtain ⟨pq, rZ, _, _⟩ := dS BK790.out))) | ((with_reducible refine ay (f := 78) rfl ?_); refine gl_ (some 13) Tryd.func78 #[.agg (t5_ ah ak aj ai aY af.length aT), .agg (t2_ bf dW aC.length dE)] ?_; (with_reducible refine (l8.calls ah ak aj ai _ _ af bf _ _ aC t792 _ ?au ?av ?bO ?bQ A5.out).mono ?_); (case au => exact cb_ (Kd.aV bT.out HB.out)); (case av => exact ed.out); (case bO => exact cb_ (Kd.aV jw.out HB.out)); (case bQ => exact lK.out); rintro e w13 ⟨rfl, hb⟩; refine ⟨_, rfl, ?_⟩; replace HB := aa.mk (ax bl_ hb)))
  go_ret; exact ⟨re_, bl_⟩


/-! ### dJ: function 83 -/
mutual
def dJ.l0 : Nat → List (S24) → Int → Int → Int → List (S51) → Option (Int × (List (S51)))
 | 0, _, _, _, _, _ => none
 | k + 1, x20, x21, x22, VK, PY => if x22 < x21 then (if 0 ≤ x22 then (if x22 < (x20.length : Int) then ((dJ.f k ((ag x20 x22).f0) ((ag x20 x22).f1) ((ag x20 x22).f2) ((ag x20 x22).f3) ((ag x20 x22).f4)).bind fun bt798 => (if PY.length < 4398046511104 then (dJ.l0 k x20 x21 (wrap64 (x22 + 1)) VK (PY ++ [(⟨bt798.1, bt798.2⟩ : S51)])) else (none))) else (none)) else (none)) else (some (VK, PY))
def dJ.f : Nat → Int → Int → Int → Int → List (S24) → Option (Int × (List (S51)))
 | 0, _, _, _, _, _ => none
 | k + 1, ah, ak, aj, ai, af => if ah = 2 then (some (mx ak (mn 0 aj), ([] : List (S51)))) else (if ah = 5 then (dJ.l0 k af (af.length : Int) 0 0 ([] : List (S51))) else (some (0, ([] : List (S51)))))
end
theorem dJ.iH : ∀ k, (∀ y0 y1 y2 y3 y4, LeO (dJ.f k y0 y1 y2 y3 y4) (dJ.f (k + 1) y0 y1 y2 y3 y4)) ∧ (∀ y0 y1 y2 y3 y4, LeO (dJ.l0 k y0 y1 y2 y3 y4) (dJ.l0 (k + 1) y0 y1 y2 y3 y4))
 | 0 => ⟨fun _ _ _ _ _ r h => by simp [dJ.f] at h, fun _ _ _ _ _ r h => by simp [dJ.l0] at h⟩
 | k + 1 => by
  obtain ⟨ih0, ih1⟩ := dJ.iH k; refine ⟨?_, ?_⟩
  ·intro y0 y1 y2 y3 y4; unfold dJ.f; exact mo_
  ·intro y0 y1 y2 y3 y4; unfold dJ.l0; exact mo_
theorem dJ.mono : ∀ a0 a1 a2 a3 a4 k, LeO (dJ.f k a0 a1 a2 a3 a4) (dJ.f (k + 1) a0 a1 a2 a3 a4) := by
 intro a0 a1 a2 a3 a4 k; obtain ⟨ih0, ih1⟩ := dJ.iH k; exact ih0 a0 a1 a2 a3 a4
def dJ.T9 : Bool × List (List Nat × List Nat) := (true, [([], []), ([0], [0]), ([], []), ([2], [2]), ([3], [3]), ([1, 4, 3], [1, 4]), ([0, 1, 2, 3, 4, 5], []), ([6, 5, 5, 0, 1, 2, 3, 4, 5], [5, 6])])
def dJ.B9 : List Nat := [0, 1, 0, 4, 12, 31, 63, 127]
theorem dJ.tab9 : jX .any (opsOf Tryd.f83 9) = dJ.T9 := by kernel_rfl
theorem dJ.bits9 : jK dJ.T9.2 dJ.B9 = true := by kernel_rfl
set_option maxHeartbeats 8000000 in
set_option maxRecDepth 100000 in
theorem dJ.calls (k : Nat) : ∀ (ah ak aj ai : Int) (aY : Option Addr) (aT : Nat) (af : List (S24)) (r1 : Int) (r2 : List (S51)) (w : World) (dD : Kd.C k24 w aY af.length af) (dX : af.length ≤ aT) (h : dJ.f k ah ak aj ai af = some (r1, r2)),
  Calls Tryd.prog 83 #[.agg #[.int .i64 ah, .int .i64 ak, .int .i64 aj, .int .i64 ai, .slice aY af.length aT]] w fun e w' => ∃ v1_ : Value, e = .returned (.agg #[.int .i64 r1, v1_]) ∧ Kd.R k51 51 w' w.heap.size (fun _ => True) v1_ r2 ∧ Below w.heap.size w w' := by
 induction k using Nat.strongRecOn with
 | _ k ih =>
 intro ah ak aj ai aY aT af r1 r2 w dD dX h; cases k with
 | zero => exact absurd h (by simp [dJ.f])
 | succ k =>
 simp only [dJ.f] at h; have bT := aa.mk dD; clear dD dX; have HB := aa.mk (Below.refl w.heap.size w); have H : (if ah = 2 then (some (mx ak (mn 0 aj), ([] : List (S51)))) else (if ah = 5 then (dJ.l0 k af (af.length : Int) 0 0 ([] : List (S51))) else (some (0, ([] : List (S51)))))) = some (r1, r2) := h; clear h; by_cases c2 : ah = 2
 focus
  rw [if_pos c2] at H; obtain ⟨uW, c2b1⟩ := bq_ c2; clear c2; obtain ⟨ji3, yt⟩ : ∃ j_ : Int, (mn 0 aj) = j_ := ⟨_, rfl⟩; replace H : (some (mx ak (ji3), ([] : List (S51)))) = some (r1, r2) := by (rw [yt] at H; exact H)
  (try (skip))
  (try (skip))
  have hji3_ : (if aj < 0 then aj else 0) = ji3 := yt; obtain ⟨ji4, zb⟩ : ∃ j_ : Int, (mx ak (ji3)) = j_ := ⟨_, rfl⟩; replace H : (some (ji4, ([] : List (S51)))) = some (r1, r2) := by (rw [zb] at H; exact H)
  have hji4_ : (if ak < (ji3) then (ji3) else ak) = ji4 := zb; simp only [Option.some.injEq, Prod.mk.injEq] at H; obtain ⟨rfl, rfl⟩ := H
 rotate_left
 focus
  rw [if_neg c2] at H; obtain ⟨uW, c2b1⟩ := bn_ c2; by_cases c14 : ah = 5
  focus
   rw [if_pos c14] at H; obtain ⟨vQ, JD⟩ := bq_ c14; clear c14; have H' := aa.mk H; clear H
  rotate_left
  focus
   rw [if_neg c14] at H; obtain ⟨vQ, JD⟩ := bn_ c14; simp only [Option.some.injEq, Prod.mk.injEq] at H; obtain ⟨rfl, rfl⟩ := H
  rotate_left
 rotate_left 2
 all_goals
  go_enter Tryd.func83, Tryd.ntmps83; go_wp2_with (first | ((with_reducible refine aM (N := 1) rfl ?_); refine bx_ ((t5_ ah ak aj ai aY af.length aT)) 24 ?_; intro gb793 hg w15 pz _ HB hb; clear hb hg) | ((with_reducible refine aM (N := 2) rfl ?_); refine bx_ ((t2_ 0 none 0 0)) 51 ?_; intro tQ hg w16 qD GW794 HB hb; have GE794 := GW794; replace pz := kb_ pz hb; clear hb hg) | ((with_reducible refine aM (N := 3) rfl ?_); refine bx_ ((t2_ 0 none 0 0)) 51 ?_; intro vX hg w17 nG GW795 HB hb; have GE795 := GW795; have YA := nl_ pz hg; have Q0 := nl_ qD hg; replace pz := kb_ pz hb; replace qD := kb_ qD hb; clear hb hg; obtain ⟨Cc, zl, EH, _, EI, _, _, _, _, _⟩ := bE pz.out; (try (have hnc50 := Q0.out; obtain ⟨hcz51_0, hcz51_1, hfz51_0, _⟩ := dS nG.out; obtain ⟨JQ, JR, JS, JU⟩ := dS qD.out))))
 ·refine bodyPost_ret (results_cell_row rfl _ _ tQ 51 (t2_ ji4 none 0 0) (0, 0) _ rfl b5_ Tryd.underlying51 rfl (by kernel_rfl)) rfl ?_
  exact ⟨_, by rfl, by exact Kd.jy _ _ _ _ _, bl_⟩
 ·go_loopg [22] k (fun kq v22 w' => ∃ (eD : Int) (qX : List (S51)) (qQ : Value), v22 = .int .i64 eD ∧ aa (dJ.l0 kq af (af.length : Int) eD 0 qX = some (r1, r2)) ∧ aa (kq ≤ k) ∧ aa (Kd.R k51 51 w' w.heap.size (fun k_ => k_ ≠ tQ ∧ k_ ≠ vX) qQ qX) ∧ aa (w'.heap[gb793]? = some (.cells #[.int .i64 ah, .int .i64 ak, .int .i64 aj, .int .i64 ai, (.slice aY af.length aT)] 24 (0, 0))) ∧ aa (w'.heap[tQ]? = some (.cells #[.int .i64 0, (.slice none 0 0)] 51 (0, 0))) ∧ aa (w'.heap[vX]? = some (.cells #[.int .i64 0, qQ] 51 (0, 0))) ∧ aa (Below w.heap.size w w'))
  case atStart => exact ⟨(0), (([] : List (S51))), (.slice none 0 0), rs_, H', ⟨Nat.le_refl _⟩, ⟨by exact Kd.jy _ _ _ _ _⟩, ⟨bk_⟩, ⟨bk_⟩, ⟨bk_⟩, ⟨bl_⟩⟩
  case round =>
   clear H'; (try clear c1); (try clear c2); (try clear uW); (try clear c2b1); (try clear p2); (try clear c8); (try clear c9); (try clear c11); (try clear c14); (try clear vQ); (try clear JD); (try clear c18); (try clear c19); (try clear o8 ql vM xK zg VL VM VN hfz10_3 hfz10_4); (try clear pq rZ PZ P5); (try clear zF zG VO VP); (try clear Cc zl EH EI); obtain ⟨eD, qX, qQ, rfl, HA, HK1, kG, pz, qD, nG, HB⟩ := hrel; cases gk with
   | zero => exact absurd HA.out (by simp [dJ.l0])
   | succ k1 =>
    have H := HA.out; clear HA; simp only [dJ.l0] at H; by_cases c21 : eD < (af.length : Int)
    ·rw [if_pos c21] at H; clear c21; by_cases c22 : 0 ≤ eD
     ·rw [if_pos c22] at H; have c22b0 := decide_eq_true c22; clear c22; by_cases c23 : eD < (af.length : Int)
      ·rw [if_pos c23] at H; have Bq := decide_eq_true c23; clear c23; replace H := Option.bind_eq_some_iff.mp H; obtain ⟨⟨t798, t799⟩, A240, H⟩ := H; (try dsimp only at H)
       have A24 := aa.mk A240; clear A240; by_cases c25 : qX.length < 4398046511104
       ·rw [if_pos c25] at H; have LMc25 := aa.mk c25; clear c25; obtain ⟨y802, hy802⟩ : ∃ y_ : List (S51), y_ = (qX ++ [(⟨t798, t799⟩ : S51)]) := ⟨_, rfl⟩; replace H : (dJ.l0 k1 af (af.length : Int) (wrap64 (eD + 1)) 0 y802) = some (r1, r2) := by (rw [hy802]; with_reducible exact H)
        have Ny802 := aa.mk hy802; clear hy802; have H' := aa.mk H; clear H; have p796 : 0 ≤ (eD : Int) := dt_; have q796 : eD < (af.length : Int) := dt_; obtain ⟨ad796, uy, uz, e796, VQ, VR, VS, VT, VU, VV, VW⟩ := gu bT.out eD p796 q796; cases e796; replace VQ := hc_ HB VQ; replace VR := hc_ HB VR; replace VS := hc_ HB VS; replace VT := hc_ HB VT; replace VU := hc_ HB VU; have HR796_4 := aa.mk VW; have HC796_4 := aa.mk VV; clear VW VV; replace p796 := eq_true p796; replace q796 := eq_true q796; try go_wp2_with (((with_reducible refine aM (N := 5) rfl ?_); refine bx_ ((t5_ 0 0 0 0 none 0 0)) 24 ?_; intro iP hg w26 lq GW797 HB hb; have GE797 := GW797; have AL := nl_ pz hg; have AO := nl_ qD hg; have AP := nl_ nG hg; replace kG := aa.mk (Kd.dH (pR_ kG.out) hb); replace pz := kb_ pz hb; replace qD := kb_ qD hb; replace nG := kb_ nG hb; clear hb hg; obtain ⟨zh, zi, BZ, Ca, Cb, hfz30_0, hfz30_1, hfz30_2, hfz30_3, hfz30_4⟩ := bE lq.out))
        have n0_ : aa (Kd.R k51 51 (((((w26.setCell ⟨iP, 0, none⟩ (.int .i64 ((ag af eD).f0))).setCell ⟨iP, 1, none⟩ (.int .i64 ((ag af eD).f1))).setCell ⟨iP, 2, none⟩ (.int .i64 ((ag af eD).f2))).setCell ⟨iP, 3, none⟩ (.int .i64 ((ag af eD).f3))).setCell ⟨iP, 4, none⟩ (.slice uy ((ag af eD).f4).length uz)) w.heap.size (fun k_ => k_ ≠ tQ ∧ k_ ≠ vX) qQ qX) := ⟨by exact Kd.aX (Kd.bL (p := ⟨iP, 4, none⟩) (Kd.bL (p := ⟨iP, 3, none⟩) (Kd.bL (p := ⟨iP, 2, none⟩) (Kd.bL (p := ⟨iP, 1, none⟩) (Kd.bL (p := ⟨iP, 0, none⟩) (Kd.ko kG.out lq.out (by decide)) (fun _ hk => hk.2) (.int .i64 ((ag af eD).f0))) (fun _ hk => hk.2) (.int .i64 ((ag af eD).f1))) (fun _ hk => hk.2) (.int .i64 ((ag af eD).f2))) (fun _ hk => hk.2) (.int .i64 ((ag af eD).f3))) (fun _ hk => hk.2) (.slice uy ((ag af eD).f4).length uz)) (fun _ hk => ⟨hk.1.1, hk.1.2⟩)⟩; have n1_ : aa ((((((w26.setCell ⟨iP, 0, none⟩ (.int .i64 ((ag af eD).f0))).setCell ⟨iP, 1, none⟩ (.int .i64 ((ag af eD).f1))).setCell ⟨iP, 2, none⟩ (.int .i64 ((ag af eD).f2))).setCell ⟨iP, 3, none⟩ (.int .i64 ((ag af eD).f3))).setCell ⟨iP, 4, none⟩ (.slice uy ((ag af eD).f4).length uz)).heap[gb793]? = some (.cells (t5_ ah ak aj ai (some ad796) af.length aT) 24 (0, 0))) := ⟨by refine bP ?_ AL.out _; refine bP ?_ AL.out _; refine bP ?_ AL.out _; refine bP ?_ AL.out _; refine bP ?_ AL.out _; exact pz.out⟩; have n2_ : aa ((((((w26.setCell ⟨iP, 0, none⟩ (.int .i64 ((ag af eD).f0))).setCell ⟨iP, 1, none⟩ (.int .i64 ((ag af eD).f1))).setCell ⟨iP, 2, none⟩ (.int .i64 ((ag af eD).f2))).setCell ⟨iP, 3, none⟩ (.int .i64 ((ag af eD).f3))).setCell ⟨iP, 4, none⟩ (.slice uy ((ag af eD).f4).length uz)).heap[tQ]? = some (.cells (t2_ 0 none 0 0) 51 (0, 0))) := ⟨by refine bP ?_ AO.out _; refine bP ?_ AO.out _; refine bP ?_ AO.out _; refine bP ?_ AO.out _; refine bP ?_ AO.out _; exact qD.out⟩; have n3_ : aa ((((((w26.setCell ⟨iP, 0, none⟩ (.int .i64 ((ag af eD).f0))).setCell ⟨iP, 1, none⟩ (.int .i64 ((ag af eD).f1))).setCell ⟨iP, 2, none⟩ (.int .i64 ((ag af eD).f2))).setCell ⟨iP, 3, none⟩ (.int .i64 ((ag af eD).f3))).setCell ⟨iP, 4, none⟩ (.slice uy ((ag af eD).f4).length uz)).heap[vX]? = some (.cells #[.int .i64 0, qQ] 51 (0, 0))) := ⟨by refine bP ?_ AP.out _; refine bP ?_ AP.out _; refine bP ?_ AP.out _; refine bP ?_ AP.out _; refine bP ?_ AP.out _; exact nG.out⟩; have n4_ : aa ((((((w26.setCell ⟨iP, 0, none⟩ (.int .i64 ((ag af eD).f0))).setCell ⟨iP, 1, none⟩ (.int .i64 ((ag af eD).f1))).setCell ⟨iP, 2, none⟩ (.int .i64 ((ag af eD).f2))).setCell ⟨iP, 3, none⟩ (.int .i64 ((ag af eD).f3))).setCell ⟨iP, 4, none⟩ (.slice uy ((ag af eD).f4).length uz)).heap[iP]? = some (.cells (t5_ ((ag af eD).f0) ((ag af eD).f1) ((ag af eD).f2) ((ag af eD).f3) uy ((ag af eD).f4).length uz) 24 (0, 0))) := ⟨by refine eP (cs := (t5_ ((ag af eD).f0) ((ag af eD).f1) ((ag af eD).f2) ((ag af eD).f3) none 0 0)) ?_ 4 _ rfl; refine eP (cs := (t5_ ((ag af eD).f0) ((ag af eD).f1) ((ag af eD).f2) 0 none 0 0)) ?_ 3 _ rfl; refine eP (cs := (t5_ ((ag af eD).f0) ((ag af eD).f1) 0 0 none 0 0)) ?_ 2 _ rfl; refine eP (cs := (t5_ ((ag af eD).f0) 0 0 0 none 0 0)) ?_ 1 _ rfl; refine eP (cs := (t5_ 0 0 0 0 none 0 0)) ?_ 0 _ rfl; exact lq.out⟩
        have n5_ : aa (Below w.heap.size w (((((w26.setCell ⟨iP, 0, none⟩ (.int .i64 ((ag af eD).f0))).setCell ⟨iP, 1, none⟩ (.int .i64 ((ag af eD).f1))).setCell ⟨iP, 2, none⟩ (.int .i64 ((ag af eD).f2))).setCell ⟨iP, 3, none⟩ (.int .i64 ((ag af eD).f3))).setCell ⟨iP, 4, none⟩ (.slice uy ((ag af eD).f4).length uz))) := ⟨bl_⟩; generalize (((((w26.setCell ⟨iP, 0, none⟩ (.int .i64 ((ag af eD).f0))).setCell ⟨iP, 1, none⟩ (.int .i64 ((ag af eD).f1))).setCell ⟨iP, 2, none⟩ (.int .i64 ((ag af eD).f2))).setCell ⟨iP, 3, none⟩ (.int .i64 ((ag af eD).f3))).setCell ⟨iP, 4, none⟩ (.slice uy ((ag af eD).f4).length uz)) = w31 at n0_ n1_ n2_ n3_ n4_ n5_ ⊢
        have kG := n0_; have pz := n1_; have qD := n2_; have nG := n3_; have lq := n4_; have HB := n5_; clear n0_ n1_ n2_ n3_ n4_ n5_; replace kG := aa.mk (Kd.oQ kG.out); replace pz := aa.mk (dz pz.out); replace qD := aa.mk (dz qD.out); replace nG := aa.mk (dz nG.out); replace lq := aa.mk (dz lq.out); replace HB := aa.mk (eX HB.out); refine kL (n := 8) (S := fun w' => w'.cell? ⟨vX, 0, none⟩ = some (.int .i64 0) ∧ w'.cell? ⟨vX, 1, none⟩ = some (qQ) ∧ w'.cell? ⟨iP, 0, none⟩ = some (.int .i64 ((ag af eD).f0)) ∧ w'.cell? ⟨iP, 1, none⟩ = some (.int .i64 ((ag af eD).f1)) ∧ w'.cell? ⟨iP, 2, none⟩ = some (.int .i64 ((ag af eD).f2)) ∧ w'.cell? ⟨iP, 3, none⟩ = some (.int .i64 ((ag af eD).f3)) ∧ w'.cell? ⟨iP, 4, none⟩ = some (.slice uy ((ag af eD).f4).length uz)) (ds := [7]) #[false, false, false, false, false, false, false, false] (by kernel_rfl) rfl rfl ⟨ci_ nG, ci_ nG, ci_ lq, ci_ lq, ci_ lq, ci_ lq, ci_ lq⟩ (fun hHeld => ?_); refine iG dJ.tab9 dJ.bits9 (fun HT_ HW_ => ?_)
        generalize w31.drew = w32 at kG pz qD nG lq HB hHeld ⊢
        refine pu_ HT_ 0 26 (bm 8 1) ?_
        refine ta_ HT_ HW_ 1 27 (bm 8 3) hHeld ?_
        refine ta_ HT_ HW_ 2 28 (bm 8 7) hHeld ?_
        refine jW (i := 3) (N := some 29) #[true, true, true, true, false, false, false, false] rfl rfl (fB HT_.out (by kernel_rfl)) (by decide) (fun K hK => ?_)
        refine mf Tryd.func83 (by kernel_rfl) rfl #[.agg (t5_ ((ag af eD).f0) ((ag af eD).f1) ((ag af eD).f2) ((ag af eD).f3) uy ((ag af eD).f4).length uz)] (by rfl) rfl rfl mp_ ?_
        with_reducible refine (ih k1 (by have := HK1.out; omega) ((ag af eD).f0) ((ag af eD).f1) ((ag af eD).f2) ((ag af eD).f3) _ _ ((ag af eD).f4) t798 t799 _ ?au ?av A24.out).mono ?_
        (case au => exact cb_ (Kd.aV HR796_4.out HB.out))
        (case av => exact HC796_4.out)
        rintro e w33 ⟨v800, rfl, ho0, hb⟩
        refine ⟨_, rfl, ?_⟩
        have HO801 := aa.mk (Kd.bN (Kd.iY (Kd.iY (Kd.eG ho0 (Kd.fK (pR_ kG.out))) (g := tQ) (o := .cells (t2_ 0 none 0 0) 51 (0, 0)) bk_) (g := vX) (o := .cells #[.int .i64 0, qQ] 51 (0, 0)) bk_) (aI bl_)); replace kG := aa.mk (Kd.fI (pR_ kG.out) (Kd.dI ho0) hb); replace pz := kb_ pz hb; replace qD := kb_ qD hb; replace nG := kb_ nG hb; replace lq := kb_ lq hb; replace HB := aa.mk (ax bl_ hb); obtain ⟨Ao35, co35, eo35⟩ := Kd.bF HO801.out; (subst eo35)
        refine hK.out _ _ ⟨ci_ nG, ci_ nG, ci_ lq, ci_ lq, ci_ lq, ci_ lq, ci_ lq⟩ (fun hHeld => ?_)
        clear hK K; refine jd (a' := ?_) ?_ ?_
        rotate_left
        ·show Act.put _ (some 29) _ = _
         simp only [Act.put, List.setIfInBounds_toArray, List.set_cons_zero, List.set_cons_succ, gM, iE]; rfl
        refine jW (i := 4) (N := some 30) #[true, true, true, true, true, false, false, false] rfl rfl (fB HT_.out (by kernel_rfl)) (by decide) (fun K hK => ?_)
        refine wK (w1 := ?_) (v := ?_) (by rfl) rfl ?_ ?_
        rotate_left 2
        ·go_simp; constructor
         ·rfl
         ·rfl
        refine hK.out _ _ ⟨(bH (eU nG.out _) 0).trans rfl, (bH (eU nG.out _) 1).trans rfl, (bH (eU lq.out _) 0).trans rfl, (bH (eU lq.out _) 1).trans rfl, (bH (eU lq.out _) 2).trans rfl, (bH (eU lq.out _) 3).trans rfl, (bH (eU lq.out _) 4).trans rfl⟩ (fun hHeld => ?_)
        clear hK K; refine jd (a' := ?_) ?_ ?_
        rotate_left
        ·show Act.put _ (some 30) _ = _
         simp only [Act.put, List.setIfInBounds_toArray, List.set_cons_zero, List.set_cons_succ, gM, iE]; rfl
        refine jW (i := 5) (N := some 31) #[true, true, true, true, true, true, false, false] rfl rfl (fB HT_.out (by kernel_rfl)) (by decide) (fun K hK => ?_)
        refine Kd.qM k51 (w0 := w) w.heap.size (by rfl) (.tmp 27) (.tmp 30) 49 51 (.agg #[(.int .i64 0), (.slice none 0 0)]) 32 rfl Tryd.underlying49 yn rfl (by decide) (by omega) qQ qX (⟨t798, t799⟩ : S51) [.int .i64 t798, .slice Ao35 t799.length co35] (fun k_ => k_ ≠ tQ ∧ k_ ≠ vX) (fun k_ => ((fun k_ => k_ ≠ tQ ∧ k_ ≠ vX)) k_ ∧ some k_ ≠ (qQ : Value).ownBlock) rfl rfl ?aP (fun _ hk => hk) ?aF ?aO ?aB ?aS ?aL ?_
        (case aP => exact vL _ _ _ (⟨t798, t799⟩ : S51) (Kd.aX (HO801.out) (fun k_ hk => ⟨⟨hk.1.2, hk.2⟩, hk.1.1.2⟩)))
        (case aB => exact bl_)
        (case aF => exact (fun k_ hk => ⟨Kd.fo (g := tQ) (o := .cells (t2_ 0 none 0 0) 51 (0, 0)) bk_ k_ hk, Kd.fo (g := vX) (o := .cells #[.int .i64 0, qQ] 51 (0, 0)) bk_ k_ hk⟩))
        (case aO => exact (by exact Kd.aX kG.out (fun _ hk => ⟨hk.1.1, hk.1.2⟩)))
        (case aS => exact (aI bl_))
        (case aL => have := LMc25.out; omega)
        intro v803 w34 ho hb hg hat; rw [← Ny802.out] at ho; have HO804 := aa.mk (ho); replace pz := aa.mk (eF (g := gb793) (o := .cells (t5_ ah ak aj ai (some ad796) af.length aT) 24 (0, 0)) bk_ hg (Kd.nY kG.out pz.out (by decide))); replace qD := aa.mk (eF (g := tQ) (o := .cells (t2_ 0 none 0 0) 51 (0, 0)) bk_ hg (Kd.pQ kG.out (fun _ hk => hk.1.1))); replace nG := aa.mk (eF (g := vX) (o := .cells #[.int .i64 0, qQ] 51 (0, 0)) bk_ hg (Kd.pQ kG.out (fun _ hk => hk.1.2))); replace lq := aa.mk (eF (g := iP) (o := .cells (t5_ ((ag af eD).f0) ((ag af eD).f1) ((ag af eD).f2) ((ag af eD).f3) uy ((ag af eD).f4).length uz) 24 (0, 0)) bk_ hg (Kd.nY kG.out lq.out (by decide))); replace HB := aa.mk (hb); clear kG HO801; clear ho hb hg hat; obtain ⟨Ao36, co36, eo36⟩ := Kd.bF HO804.out; (subst eo36)
        refine hK.out _ _ ⟨ci_ nG, ci_ nG, ci_ lq, ci_ lq, ci_ lq, ci_ lq, ci_ lq⟩ (fun hHeld => ?_)
        clear hK K; refine jd (a' := ?_) ?_ ?_
        rotate_left
        ·show Act.put _ (some 31) _ = _
         simp only [Act.put, List.setIfInBounds_toArray, List.set_cons_zero, List.set_cons_succ, gM, iE]; rfl
        refine pu_ HT_ 6 32 (bm 8 127) ?_
        refine tJ (i := 7) (N := none) #[true, true, true, true, true, true, true, true] rfl rfl (fB HT_.out (by kernel_rfl)) (by decide) (fun K hK => ?_)
        have hfs37 := fF nG.out 1; refine qB (w1 := ?_) (by rfl) rfl ?_ ?_
        rotate_left
        ·go_simp; rfl
        refine hK.out _ _ ?_
        clear hK K; refine mH (jT HT_.out (by kernel_rfl)) ?_
        try go_wp2
        go_roundg k1
        case measure => have := HK1.out; omega
        case rel => exact ⟨(wrap64 (eD + 1)), (y802), (.slice Ao36 y802.length co36), rs_, H', ⟨by have := HK1.out; omega⟩, ⟨by exact Kd.aX (Kd.bL (p := ⟨vX, 1, none⟩) (Kd.aX HO804.out (fun k_ hk => (⟨hk, by exact hk.2⟩ : _ ∧ k_ ≠ vX))) (fun _ hk => hk.2) (.slice Ao36 y802.length co36)) (fun _ hk => ⟨hk.1.1, hk.1.2⟩)⟩, ⟨by refine bP ?_ YA.out _; exact pz.out⟩, ⟨by refine bP ?_ Q0.out _; exact qD.out⟩, ⟨by refine eP (cs := #[.int .i64 0, qQ]) ?_ 1 _ rfl; exact nG.out⟩, ⟨bl_⟩⟩
       ·rw [if_neg c25] at H; exact absurd H (by simp)
      ·rw [if_neg c23] at H; exact absurd H (by simp)
     ·rw [if_neg c22] at H; exact absurd H (by simp)
    ·rw [if_neg c21] at H; have uQ := decide_eq_false c21; clear c21; simp only [Option.some.injEq, Prod.mk.injEq] at H; obtain ⟨rfl, rfl⟩ := H; obtain ⟨hcz40_0, hcz40_1, _, _⟩ := dS nG.out; obtain ⟨VX, VY, hfz42_0, hfz42_1⟩ := dS qD.out; obtain ⟨Ao43, co43, eo43⟩ := Kd.bF kG.out; subst eo43; go_wp2; refine bodyPost_ret (results_cell_row rfl _ _ tQ 51 (t2_ 0 Ao43 qX.length co43) (0, 0) _ rfl b5_ Tryd.underlying51 rfl (by kernel_rfl)) rfl ?_
     exact ⟨_, re_, by exact Kd.aX (Kd.bL (p := ⟨tQ, 1, none⟩) (Kd.bL (p := ⟨tQ, 0, none⟩) (Kd.aX kG.out (fun k_ hk => (⟨hk, by exact hk.1⟩ : _ ∧ k_ ≠ tQ))) (fun _ hk => hk.2) (.int .i64 0)) (fun _ hk => hk.2) (.slice Ao43 qX.length co43)) (fun _ hk => trivial), bl_⟩
 ·refine bodyPost_ret (results_cell_row rfl _ _ tQ 51 (t2_ 0 none 0 0) (0, 0) _ rfl b5_ Tryd.underlying51 rfl (by kernel_rfl)) rfl ?_
  exact ⟨_, re_, by exact Kd.jy _ _ _ _ _, bl_⟩


/-! ### aN: function 75 -/
mutual
def aN.l0 : Nat → List Int → List (S51) → Int → Int → Int → Int → Int → Int → List (S24) → Option (List Int)
 | 0, _, _, _, _, _, _, _, _, _ => none
 | k + 1, x5, x16, x17, x18, Cq, Cr, Cs, zH, jC => if x18 < x17 then (if 0 ≤ x18 then (if x18 < (x16.length : Int) then (if x18 < (jC.length : Int) then ((aN.f k ((ag jC x18).f0) ((ag jC x18).f1) ((ag jC x18).f2) ((ag jC x18).f3) ((ag jC x18).f4) ((bq x16 x18).f0) ((bq x16 x18).f1)).bind fun t810 => (if x5.length + t810.length < 17592186044416 then (aN.l0 k (x5 ++ t810) x16 x17 (wrap64 (x18 + 1)) Cq Cr Cs zH jC) else (none))) else (none)) else (none)) else (none)) else (some x5)
def aN.l1 : Nat → List Int → List (S51) → Int → Int → Int → Int → Int → Int → List (S24) → Int → List (S51) → Option (List Int)
 | 0, _, _, _, _, _, _, _, _, _, _, _ => none
 | k + 1, x8, x41, x42, x43, Cq, Cr, Cs, zH, jC, x807000, VZ => if x43 < x42 then (if 0 ≤ x43 then (if x43 < (x41.length : Int) then (if 0 < (jC.length : Int) then ((aN.f k ((ag jC 0).f0) ((ag jC 0).f1) ((ag jC 0).f2) ((ag jC 0).f3) ((ag jC 0).f4) ((bq x41 x43).f0) ((bq x41 x43).f1)).bind fun t822 => (if x8.length + t822.length < 17592186044416 then (aN.l1 k (x8 ++ t822) x41 x42 (wrap64 (x43 + 1)) Cq Cr Cs zH jC x807000 VZ) else (none))) else (none)) else (none)) else (none)) else (aN.l2 k x8 (wrap64 (zH - (VZ.length : Int))) 0 Cq Cr Cs zH jC)
def aN.l2 : Nat → List Int → Int → Int → Int → Int → Int → Int → List (S24) → Option (List Int)
 | 0, _, _, _, _, _, _, _, _ => none
 | k + 1, x8, x61, x62, Cq, Cr, Cs, zH, jC => if x62 < x61 then (if 0 < (jC.length : Int) then ((dJ.f k ((ag jC 0).f0) ((ag jC 0).f1) ((ag jC 0).f2) ((ag jC 0).f3) ((ag jC 0).f4)).bind fun bt830 => ((aN.f k ((ag jC 0).f0) ((ag jC 0).f1) ((ag jC 0).f2) ((ag jC 0).f3) ((ag jC 0).f4) bt830.1 bt830.2).bind fun t834 => (if x8.length + t834.length < 17592186044416 then (aN.l2 k (x8 ++ t834) x61 (wrap64 (x62 + 1)) Cq Cr Cs zH jC) else (none)))) else (none)) else (some x8)
def aN.f : Nat → Int → Int → Int → Int → List (S24) → Int → List (S51) → Option (List Int)
 | 0, _, _, _, _, _, _, _ => none
 | k + 1, ah, ak, aj, ai, af, bf, aC => if ah = 5 then (aN.l0 k ([] : List Int) aC (aC.length : Int) 0 ah ak aj ai af) else (if ah = 6 then (aN.l1 k (([(aC.length : Int)] : List Int)) aC (aC.length : Int) 0 ah ak aj ai af bf aC) else (some (([bf] : List Int))))
end
theorem aN.iH : ∀ k, (∀ y0 y1 y2 y3 y4 y5 y6, LeO (aN.f k y0 y1 y2 y3 y4 y5 y6) (aN.f (k + 1) y0 y1 y2 y3 y4 y5 y6)) ∧ (∀ y0 y1 y2 y3 y4 y5 y6 y7 y8, LeO (aN.l0 k y0 y1 y2 y3 y4 y5 y6 y7 y8) (aN.l0 (k + 1) y0 y1 y2 y3 y4 y5 y6 y7 y8)) ∧ (∀ y0 y1 y2 y3 y4 y5 y6 y7 y8 y9 y10, LeO (aN.l1 k y0 y1 y2 y3 y4 y5 y6 y7 y8 y9 y10) (aN.l1 (k + 1) y0 y1 y2 y3 y4 y5 y6 y7 y8 y9 y10)) ∧ (∀ y0 y1 y2 y3 y4 y5 y6 y7, LeO (aN.l2 k y0 y1 y2 y3 y4 y5 y6 y7) (aN.l2 (k + 1) y0 y1 y2 y3 y4 y5 y6 y7))
 | 0 => ⟨fun _ _ _ _ _ _ _ r h => by simp [aN.f] at h, fun _ _ _ _ _ _ _ _ _ r h => by simp [aN.l0] at h, fun _ _ _ _ _ _ _ _ _ _ _ r h => by simp [aN.l1] at h, fun _ _ _ _ _ _ _ _ r h => by simp [aN.l2] at h⟩
 | k + 1 => by
  obtain ⟨ih0, ih1, ih2, ih3⟩ := aN.iH k; refine ⟨?_, ?_, ?_, ?_⟩
  ·intro y0 y1 y2 y3 y4 y5 y6; unfold aN.f; exact mo_
  ·intro y0 y1 y2 y3 y4 y5 y6 y7 y8; unfold aN.l0; exact mo_
  ·intro y0 y1 y2 y3 y4 y5 y6 y7 y8 y9 y10; unfold aN.l1; exact mo_
  ·intro y0 y1 y2 y3 y4 y5 y6 y7; unfold aN.l2; have m0 := @dJ.mono; exact mo_
theorem aN.mono : ∀ a0 a1 a2 a3 a4 a5 a6 k, LeO (aN.f k a0 a1 a2 a3 a4 a5 a6) (aN.f (k + 1) a0 a1 a2 a3 a4 a5 a6) := by
 intro a0 a1 a2 a3 a4 a5 a6 k; obtain ⟨ih0, ih1, ih2, ih3⟩ := aN.iH k; exact ih0 a0 a1 a2 a3 a4 a5 a6
def aN.T7 : Bool × List (List Nat × List Nat) := (true, [([], []), ([], []), ([1], [1]), ([], []), ([2, 3], [2, 3]), ([4], [4]), ([], []), ([5, 6], [5, 6]), ([0, 7, 7], [0, 7]), ([8, 8, 0, 1, 2, 3, 4, 5, 6, 7, 8], [0, 8])])
def aN.B7 : List Nat := [0, 0, 2, 0, 14, 30, 0, 126, 255, 511]
theorem aN.tab7 : jX .any (opsOf Tryd.f75 7) = aN.T7 := by kernel_rfl
theorem aN.Nj : jK aN.T7.2 aN.B7 = true := by kernel_rfl
def aN.T15 : Bool × List (List Nat × List Nat) := (true, [([], []), ([], []), ([1], [1]), ([2], [2]), ([3], [3]), ([], []), ([4, 5], [4, 5]), ([0, 6, 6], [0, 6]), ([7, 7, 0, 1, 2, 3, 4, 5, 6, 7], [0, 7])])
def aN.B15 : List Nat := [0, 0, 2, 6, 14, 0, 62, 127, 255]
theorem aN.tab15 : jX .any (opsOf Tryd.f75 15) = aN.T15 := by kernel_rfl
theorem aN.R3 : jK aN.T15.2 aN.B15 = true := by kernel_rfl
def aN.T19 : Bool × List (List Nat × List Nat) := (true, [([], []), ([], []), ([1], [1]), ([2], [2]), ([3], [3]), ([], []), ([5], [5]), ([6], [6]), ([7], [7]), ([8], [8]), ([4, 9, 9], [4, 9]), ([0, 10, 10], [0, 10]), ([11, 11, 0, 1, 2, 3, 4, 5, 6, 7, 8, 9, 10, 11], [0, 11])])
def aN.B19 : List Nat := [0, 0, 2, 6, 14, 0, 32, 96, 224, 480, 1022, 2047, 4095]
theorem aN.tab19 : jX .any (opsOf Tryd.f75 19) = aN.T19 := by kernel_rfl
theorem aN.bits19 : jK aN.T19.2 aN.B19 = true := by kernel_rfl
set_option maxHeartbeats 8000000 in
set_option maxRecDepth 100000 in
theorem aN.calls (k : Nat) : ∀ (ah ak aj ai : Int) (aY : Option Addr) (aT : Nat) (af : List (S24)) (bf : Int) (dW : Option Addr) (dE : Nat) (aC : List (S51)) (r : List Int) (w : World) (dD : Kd.C k24 w aY af.length af) (dX : af.length ≤ aT) (iW : Kd.C k51 w dW aC.length aC) (jB : aC.length ≤ dE) (h : aN.f k ah ak aj ai af bf aC = some r),
  Calls Tryd.prog 75 #[.agg #[.int .i64 ah, .int .i64 ak, .int .i64 aj, .int .i64 ai, .slice aY af.length aT], .agg #[.int .i64 bf, .slice dW aC.length dE]] w fun e w' => ∃ v0_ : Value, e = .returned (v0_) ∧ Kd.R (Kd.int .i64) 3 w' w.heap.size (fun _ => True) v0_ r ∧ Below w.heap.size w w' := by
 induction k using Nat.strongRecOn with
 | _ k ih =>
 intro ah ak aj ai aY aT af bf dW dE aC r w dD dX iW jB h; cases k with
 | zero => exact absurd h (by simp [aN.f])
 | succ k =>
 simp only [aN.f] at h; have bT := aa.mk dD; clear dD dX; have jw := aa.mk iW; clear iW jB; have HB := aa.mk (Below.refl w.heap.size w); have H := h; unfold aN.f at H; clear h; by_cases c3 : ah = 5
 ·rw [if_pos c3] at H; obtain ⟨kM, mF⟩ := bq_ c3; clear c3; have H' := aa.mk H; clear H; go_enter Tryd.func75, Tryd.ntmps75; go_wp2_with (first | ((with_reducible refine aM (N := 2) rfl ?_); refine bx_ ((t5_ ah ak aj ai aY af.length aT)) 24 ?_; intro mU hg w4 dL _ HB hb; clear hb hg) | ((with_reducible refine aM (N := 3) rfl ?_); refine bx_ ((t2_ bf dW aC.length dE)) 51 ?_; intro yu hg w5 je _ HB hb; replace dL := kb_ dL hb; clear hb hg; obtain ⟨RL, _, _, _, _, _, _, _, _, _⟩ := bE dL.out; obtain ⟨_, Fj, _, _⟩ := dS je.out))
  go_loopg [5, 18] k (fun kq v5 v18 w' => ∃ (cz : List Int) (fZ : Int), v18 = .int .i64 fZ ∧ aa (aN.l0 kq cz aC (aC.length : Int) fZ ah ak aj ai af = some r) ∧ aa (kq ≤ k) ∧ aa (Kd.R (Kd.int .i64) 3 w' w.heap.size (fun _ => True) v5 cz) ∧ aa (w'.heap[mU]? = some (.cells #[.int .i64 ah, .int .i64 ak, .int .i64 aj, .int .i64 ai, (.slice aY af.length aT)] 24 (0, 0))) ∧ aa (w'.heap[yu]? = some (.cells #[.int .i64 bf, (.slice dW aC.length dE)] 51 (0, 0))) ∧ aa (Below w.heap.size w w'))
  case atStart => exact ⟨(([] : List Int)), (0), rs_, H', ⟨Nat.le_refl _⟩, ⟨by exact Kd.jy _ _ _ _ _⟩, ⟨bk_⟩, ⟨bk_⟩, ⟨bl_⟩⟩
  case round =>
   clear H'; obtain ⟨cz, fZ, rfl, HA, HK1, fE, dL, je, HB⟩ := hrel; cases gk with
   | zero => exact absurd HA.out (by simp [aN.l0])
   | succ k1 =>
    have H := HA.out; clear HA; simp only [aN.l0] at H; by_cases c9 : fZ < (aC.length : Int)
    ·rw [if_pos c9] at H; clear c9; by_cases c10 : 0 ≤ fZ
     ·rw [if_pos c10] at H; have pR := decide_eq_true c10; clear c10; by_cases c11 : fZ < (aC.length : Int)
      ·rw [if_pos c11] at H; have Gz := decide_eq_true c11; clear c11; by_cases c12 : fZ < (af.length : Int)
       ·rw [if_pos c12] at H; have wP := decide_eq_true c12; clear c12; replace H := Option.bind_eq_some_iff.mp H; obtain ⟨t810, A130, H⟩ := H; have A13 := aa.mk A130; clear A130; by_cases c14 : cz.length + t810.length < 17592186044416
        ·rw [if_pos c14] at H; have LMc14 := aa.mk c14; clear c14; generalize hy813 : (cz ++ t810) = y813 at H; replace hy813 := hy813.symm; have Ny813 := aa.mk hy813; clear hy813; have H' := aa.mk H; clear H; have p807 : 0 ≤ (fZ : Int) := dt_; have q807 : fZ < (aC.length : Int) := dt_; obtain ⟨ad807, uZ, u6, e807, V3, V4, V5, V6⟩ := rW jw.out fZ p807 q807; cases e807; replace V3 := hc_ HB V3; replace V4 := hc_ HB V4; have HR807_1 := aa.mk V6; have HC807_1 := aa.mk V5; clear V6 V5; replace p807 := eq_true p807; replace q807 := eq_true q807; try go_wp2_with (((with_reducible refine aM (N := 7) rfl ?_); refine bx_ ((t2_ 0 none 0 0)) 51 ?_; intro qE hg w15 qY GW808 HB hb; have GE808 := GW808; have Q3 := nl_ dL hg; have Q4 := nl_ je hg; replace fE := aa.mk (Kd.dH (pR_ fE.out) hb); replace dL := kb_ dL hb; replace je := kb_ je hb; clear hb hg; obtain ⟨vR, uD, JM, JN⟩ := dS qY.out))
         have n0_ : aa (Kd.R (Kd.int .i64) 3 ((w15.setCell ⟨qE, 0, none⟩ (.int .i64 ((bq aC fZ).f0))).setCell ⟨qE, 1, none⟩ (.slice uZ ((bq aC fZ).f1).length u6)) w.heap.size (fun _ => True) u5 cz) := ⟨by exact Kd.aX (Kd.bL (p := ⟨qE, 1, none⟩) (Kd.bL (p := ⟨qE, 0, none⟩) (Kd.ko fE.out qY.out (by decide)) (fun _ hk => hk.2) (.int .i64 ((bq aC fZ).f0))) (fun _ hk => hk.2) (.slice uZ ((bq aC fZ).f1).length u6)) (fun _ hk => trivial)⟩; have n1_ : aa (((w15.setCell ⟨qE, 0, none⟩ (.int .i64 ((bq aC fZ).f0))).setCell ⟨qE, 1, none⟩ (.slice uZ ((bq aC fZ).f1).length u6)).heap[mU]? = some (.cells (t5_ ah ak aj ai aY af.length aT) 24 (0, 0))) := ⟨by refine bP ?_ Q3.out _; refine bP ?_ Q3.out _; exact dL.out⟩; have n2_ : aa (((w15.setCell ⟨qE, 0, none⟩ (.int .i64 ((bq aC fZ).f0))).setCell ⟨qE, 1, none⟩ (.slice uZ ((bq aC fZ).f1).length u6)).heap[yu]? = some (.cells (t2_ bf (some ad807) aC.length dE) 51 (0, 0))) := ⟨by refine bP ?_ Q4.out _; refine bP ?_ Q4.out _; exact je.out⟩; have n3_ : aa (((w15.setCell ⟨qE, 0, none⟩ (.int .i64 ((bq aC fZ).f0))).setCell ⟨qE, 1, none⟩ (.slice uZ ((bq aC fZ).f1).length u6)).heap[qE]? = some (.cells (t2_ ((bq aC fZ).f0) uZ ((bq aC fZ).f1).length u6) 51 (0, 0))) := ⟨by refine eP (cs := (t2_ ((bq aC fZ).f0) none 0 0)) ?_ 1 _ rfl; refine eP (cs := (t2_ 0 none 0 0)) ?_ 0 _ rfl; exact qY.out⟩; have n4_ : aa (Below w.heap.size w ((w15.setCell ⟨qE, 0, none⟩ (.int .i64 ((bq aC fZ).f0))).setCell ⟨qE, 1, none⟩ (.slice uZ ((bq aC fZ).f1).length u6))) := ⟨bl_⟩; generalize ((w15.setCell ⟨qE, 0, none⟩ (.int .i64 ((bq aC fZ).f0))).setCell ⟨qE, 1, none⟩ (.slice uZ ((bq aC fZ).f1).length u6)) = w19 at n0_ n1_ n2_ n3_ n4_ ⊢
         have fE := n0_; have dL := n1_; have je := n2_; have qY := n3_; have HB := n4_; clear n0_ n1_ n2_ n3_ n4_; replace fE := aa.mk (Kd.oQ fE.out); replace dL := aa.mk (dz dL.out); replace je := aa.mk (dz je.out); replace qY := aa.mk (dz qY.out); replace HB := aa.mk (eX HB.out); have p809 : 0 ≤ (fZ : Int) := dt_; have q809 : fZ < (af.length : Int) := dt_; obtain ⟨yw, A809_4, c809_4, e809, J5, J6, J7, J8, J9, V7, V8⟩ := gu bT.out fZ p809 q809; have P6 := J9; have P7 := J8; have P8 := J7; have P9 := J6; have Qa := J5; cases e809; replace J5 := hc_ HB J5; replace J6 := hc_ HB J6; replace J7 := hc_ HB J7; replace J8 := hc_ HB J8; replace J9 := hc_ HB J9; have V9 := aa.mk V8; have HC809_4 := aa.mk V7; clear V8 V7; replace q809 := eq_true q809; refine kL (n := 10) (S := fun w' => w'.cell? ⟨mU, 0, none⟩ = some (.int .i64 ah) ∧ w'.cell? ⟨mU, 1, none⟩ = some (.int .i64 ak) ∧ w'.cell? ⟨mU, 2, none⟩ = some (.int .i64 aj) ∧ w'.cell? ⟨mU, 3, none⟩ = some (.int .i64 ai) ∧ w'.cell? ⟨mU, 4, none⟩ = some (.slice (some yw) af.length aT) ∧ w'.cell? ⟨qE, 0, none⟩ = some (.int .i64 ((bq aC fZ).f0)) ∧ w'.cell? ⟨qE, 1, none⟩ = some (.slice uZ ((bq aC fZ).f1).length u6) ∧ w'.cell? (yw.add ((fZ).toNat * 5)) = some (.int .i64 ((ag af fZ).f0)) ∧ w'.cell? ⟨(yw.add ((fZ).toNat * 5)).block, (yw.add ((fZ).toNat * 5)).off + 1, none⟩ = some (.int .i64 ((ag af fZ).f1)) ∧ w'.cell? ⟨(yw.add ((fZ).toNat * 5)).block, (yw.add ((fZ).toNat * 5)).off + 2, none⟩ = some (.int .i64 ((ag af fZ).f2)) ∧ w'.cell? ⟨(yw.add ((fZ).toNat * 5)).block, (yw.add ((fZ).toNat * 5)).off + 3, none⟩ = some (.int .i64 ((ag af fZ).f3)) ∧ w'.cell? ⟨(yw.add ((fZ).toNat * 5)).block, (yw.add ((fZ).toNat * 5)).off + 4, none⟩ = some (.slice A809_4 ((ag af fZ).f4).length c809_4)) (ds := []) #[false, false, false, false, false, false, false, false, false, false] (by kernel_rfl) rfl rfl ⟨ci_ dL, ci_ dL, ci_ dL, ci_ dL, ci_ dL, ci_ qY, ci_ qY, (hc_ HB Qa), (hc_ HB P9), (hc_ HB P8), (hc_ HB P7), (hc_ HB P6)⟩ (fun hHeld => ?_); refine iG aN.tab7 aN.Nj (fun HT_ HW_ => ?_)
         generalize w19.drew = w20 at fE dL je qY HB V9 J5 J6 J7 J8 J9 hHeld ⊢
         refine pu_ HT_ 0 23 (bm 10 1) ?_
         refine pu_ HT_ 1 24 (bm 10 3) ?_
         refine pu_ HT_ 3 26 (bm 10 11) ?_
         refine ta_ HT_ HW_ 2 25 (bm 10 15) hHeld ?_
         refine pu_ HT_ 4 27 (bm 10 31) ?_
         refine ta_ HT_ HW_ 5 28 (bm 10 63) hHeld ?_
         refine ta_ HT_ HW_ 6 29 (bm 10 127) hHeld ?_
         refine jW (i := 7) (N := some 30) #[true, true, true, true, true, true, true, true, false, false] rfl rfl (fB HT_.out (by kernel_rfl)) (by decide) (fun K hK => ?_)
         refine mf Tryd.func75 (by kernel_rfl) rfl #[.agg (t5_ ((ag af fZ).f0) ((ag af fZ).f1) ((ag af fZ).f2) ((ag af fZ).f3) A809_4 ((ag af fZ).f4).length c809_4), .agg (t2_ ((bq aC fZ).f0) uZ ((bq aC fZ).f1).length u6)] (by rfl) rfl rfl mp_ ?_
         with_reducible refine (ih k1 (by have := HK1.out; omega) ((ag af fZ).f0) ((ag af fZ).f1) ((ag af fZ).f2) ((ag af fZ).f3) _ _ ((ag af fZ).f4) ((bq aC fZ).f0) _ _ ((bq aC fZ).f1) t810 _ ?au ?av ?bO ?bQ A13.out).mono ?_
         (case au => exact cb_ (Kd.aV V9.out HB.out))
         (case av => exact HC809_4.out)
         (case bO => exact cb_ (Kd.aV HR807_1.out HB.out))
         (case bQ => exact HC807_1.out)
         rintro e w21 ⟨v811, rfl, ho0, hb⟩
         refine ⟨_, rfl, ?_⟩
         have HO812 := aa.mk (Kd.bN (Kd.eG ho0 (Kd.fK (pR_ fE.out))) (aI bl_)); replace fE := aa.mk (Kd.fI (pR_ fE.out) (Kd.dI ho0) hb); replace dL := kb_ dL hb; replace je := kb_ je hb; replace qY := kb_ qY hb; replace HB := aa.mk (ax bl_ hb); obtain ⟨xh, wC, CK⟩ := Kd.bF HO812.out; (subst CK); refine hK.out _ _ ⟨ci_ dL, ci_ dL, ci_ dL, ci_ dL, ci_ dL, ci_ qY, ci_ qY, (hc_ HB Qa), (hc_ HB P9), (hc_ HB P8), (hc_ HB P7), (hc_ HB P6)⟩ (fun hHeld => ?_)
         clear hK K; refine jd (a' := ?_) ?_ ?_
         rotate_left
         ·show Act.put _ (some 30) _ = _
          simp only [Act.put, List.setIfInBounds_toArray, List.set_cons_zero, List.set_cons_succ, gM, iE]; rfl
         refine jW (i := 8) (N := some 31) #[true, true, true, true, true, true, true, true, true, false] rfl rfl (fB HT_.out (by kernel_rfl)) (by decide) (fun K hK => ?_)
         refine Kd.qV (Kd.int .i64) (w0 := w) w.heap.size (by rfl) (.tmp 23) (.tmp 30) 29 3 (.int .i64 0) 8 rfl Tryd.underlying29 info3 rfl (by decide) (by omega) u5 cz t810 _ _ _ (fun k_ => some k_ ≠ (.slice xh t810.length wC : Value).ownBlock) (fun _ => False) rfl rfl ?aO ?aR (fun _ _ h => h) (fun _ h => h.elim) ?aF ?aB ?aS ?aL ?_
         (case aR => exact cb_ ((Kd.aZ HO812.out).2.2))
         (case aB => exact bl_)
         (case aF => exact (fun k_ hk => Kd.fresh' (Kd.fK (pR_ HO812.out)) k_ hk))
         (case aO => exact (by exact Kd.aX fE.out (fun _ hk => hk.2)))
         (case aS => exact (aI bl_))
         (case aL => have := LMc14.out; omega)
         intro v814 w22 ho hb hg hat; rw [← Ny813.out] at ho; have HO815 := aa.mk (ho); replace dL := aa.mk (eF (g := mU) (o := .cells (t5_ ah ak aj ai (some yw) af.length aT) 24 (0, 0)) bk_ hg (Kd.nY fE.out dL.out (by decide))); replace je := aa.mk (eF (g := yu) (o := .cells (t2_ bf (some ad807) aC.length dE) 51 (0, 0)) bk_ hg (Kd.nY fE.out je.out (by decide))); replace qY := aa.mk (eF (g := qE) (o := .cells (t2_ ((bq aC fZ).f0) uZ ((bq aC fZ).f1).length u6) 51 (0, 0)) bk_ hg (Kd.nY fE.out qY.out (by decide))); replace HB := aa.mk (hb); clear fE; clear ho hb hg hat; refine hK.out _ _ ⟨ci_ dL, ci_ dL, ci_ dL, ci_ dL, ci_ dL, ci_ qY, ci_ qY, (hc_ HB Qa), (hc_ HB P9), (hc_ HB P8), (hc_ HB P7), (hc_ HB P6)⟩ (fun hHeld => ?_)
         clear hK K; refine jd (a' := ?_) ?_ ?_
         rotate_left
         ·show Act.put _ (some 31) _ = _
          simp only [Act.put, List.setIfInBounds_toArray, List.set_cons_zero, List.set_cons_succ, gM, iE]; rfl
         refine pu_ HT_ 9 5 #[true, true, true, true, true, true, true, true, true, true] ?_
         refine mH (jT HT_.out (by kernel_rfl)) ?_
         try go_wp2
         go_roundg k1
         case measure => have := HK1.out; omega
         case rel => exact ⟨(y813), (wrap64 (fZ + 1)), rs_, H', ⟨by have := HK1.out; omega⟩, ⟨by exact Kd.aX HO815.out (fun _ hk => trivial)⟩, ⟨bk_⟩, ⟨bk_⟩, ⟨bl_⟩⟩
        ·rw [if_neg c14] at H; exact absurd H (by simp)
       ·rw [if_neg c12] at H; exact absurd H (by simp)
      ·rw [if_neg c11] at H; exact absurd H (by simp)
     ·rw [if_neg c10] at H; exact absurd H (by simp)
    ·rw [if_neg c9] at H; have qH := decide_eq_false c9; clear c9; obtain rfl := Option.some.inj H; go_wp2; go_ret; exact ⟨_, re_, pR_ fE.out, bl_⟩
 ·rw [if_neg c3] at H; obtain ⟨kM, mF⟩ := bn_ c3; by_cases c24 : ah = 6
  ·rw [if_pos c24] at H; obtain ⟨Ah, MW⟩ := bq_ c24; clear c24; generalize hy816 : (([(aC.length : Int)] : List Int)) = y816 at H; replace hy816 := hy816.symm; have Ny816 := aa.mk hy816; clear hy816; have H' := aa.mk H; clear H; go_enter Tryd.func75, Tryd.ntmps75; go_wp2_with (first | ((with_reducible refine aM (N := 2) rfl ?_); refine bx_ ((t5_ ah ak aj ai aY af.length aT)) 24 ?_; intro mU hg w25 dL _ HB hb; clear hb hg) | ((with_reducible refine aM (N := 3) rfl ?_); refine bx_ ((t2_ bf dW aC.length dE)) 51 ?_; intro yu hg w26 je _ HB hb; replace dL := kb_ dL hb; clear hb hg; obtain ⟨JY, _, _, _, _, _, _, _, _, _⟩ := bE dL.out; obtain ⟨_, EU, _, _⟩ := dS je.out) | ((with_reducible refine aM (N := 39) rfl ?_); refine Kd.nM (Kd.int .i64) _ 3 ?hg (N := 39) ?hd (xs := ([(aC.length : Int)] : List Int)) (inner := [.int .i64 (aC.length : Int)]) (ok := fun _ => True) (okp := fun _ => True) ?hr ?hp (fun _ hk => hk) trivial (Below.refl _ _) (Nat.le_refl _) (by simp) ?_; (case hd => rfl); (case hg => rfl); (case hr => (go_simp; done)); (case hp => exact (dB.one (show Kd.M (Kd.int .i64) _ _ _ (aC.length : Int) [.int .i64 (aC.length : Int)] from rfl) (dB.none _ _))); intro v817 w30 ho31 hb hg_ iy; clear hg_ iy; (rw [← Ny816.out] at ho31); have HO818 := aa.mk (Kd.bN ho31 (aI bl_)); replace dL := kb_ dL hb; replace je := kb_ je hb; replace HB := aa.mk (ax bl_ hb); clear hb ho31; obtain ⟨_, Qb, _, _⟩ := dS je.out))
   go_loopg [8, 43] k (fun kq v8 v43 w' => ∃ (jI : List Int) (ky : Int), v43 = .int .i64 ky ∧ aa (aN.l1 kq jI aC (aC.length : Int) ky ah ak aj ai af bf aC = some r) ∧ aa (kq ≤ k) ∧ aa (Kd.R (Kd.int .i64) 3 w' w.heap.size (fun _ => True) v8 jI) ∧ aa (w'.heap[mU]? = some (.cells #[.int .i64 ah, .int .i64 ak, .int .i64 aj, .int .i64 ai, (.slice aY af.length aT)] 24 (0, 0))) ∧ aa (w'.heap[yu]? = some (.cells #[.int .i64 bf, (.slice dW aC.length dE)] 51 (0, 0))) ∧ aa (Below w.heap.size w w'))
   case atStart => exact ⟨(y816), (0), rs_, H', ⟨Nat.le_refl _⟩, ⟨pR_ HO818.out⟩, ⟨bk_⟩, ⟨bk_⟩, ⟨bl_⟩⟩
   case round =>
    clear H'; obtain ⟨jI, ky, rfl, HA, HK1, nI, dL, je, HB⟩ := hrel; cases gk with
    | zero => exact absurd HA.out (by simp [aN.l1])
    | succ k1 =>
     have H := HA.out; clear HA; simp only [aN.l1] at H; by_cases c33 : ky < (aC.length : Int)
     ·rw [if_pos c33] at H; clear c33; by_cases c34 : 0 ≤ ky
      ·rw [if_pos c34] at H; have c34b0 := decide_eq_true c34; clear c34; by_cases c35 : ky < (aC.length : Int)
       ·rw [if_pos c35] at H; have c35b0 := decide_eq_true c35; clear c35; by_cases c36 : 0 < (af.length : Int)
        ·rw [if_pos c36] at H; have GI := decide_eq_true c36; clear c36; replace H := Option.bind_eq_some_iff.mp H; obtain ⟨t822, A370, H⟩ := H; have A37 := aa.mk A370; clear A370; by_cases c38 : jI.length + t822.length < 17592186044416
         ·rw [if_pos c38] at H; have LMc38 := aa.mk c38; clear c38; generalize hy825 : (jI ++ t822) = y825 at H; replace hy825 := hy825.symm; have Ny825 := aa.mk hy825; clear hy825; have H' := aa.mk H; clear H; have p819 : 0 ≤ (ky : Int) := dt_; have q819 : ky < (aC.length : Int) := dt_; obtain ⟨ad819, vk, vo, e819, Wd, We, Wh, Wi⟩ := rW jw.out ky p819 q819; cases e819; replace Wd := hc_ HB Wd; replace We := hc_ HB We; have HR819_1 := aa.mk Wi; have HC819_1 := aa.mk Wh; clear Wi Wh; replace p819 := eq_true p819; replace q819 := eq_true q819; try go_wp2_with (((with_reducible refine aM (N := 10) rfl ?_); refine bx_ ((t2_ 0 none 0 0)) 51 ?_; intro qF hg w39 qZ GW820 HB hb; have GE820 := GW820; have Q5 := nl_ dL hg; have Q6 := nl_ je hg; replace nI := aa.mk (Kd.dH (pR_ nI.out) hb); replace dL := kb_ dL hb; replace je := kb_ je hb; clear hb hg; obtain ⟨VX, VY, hfz42_0, hfz42_1⟩ := dS qZ.out))
          have n0_ : aa (Kd.R (Kd.int .i64) 3 ((w39.setCell ⟨qF, 0, none⟩ (.int .i64 ((bq aC ky).f0))).setCell ⟨qF, 1, none⟩ (.slice vk ((bq aC ky).f1).length vo)) w.heap.size (fun _ => True) u8 jI) := ⟨by exact Kd.aX (Kd.bL (p := ⟨qF, 1, none⟩) (Kd.bL (p := ⟨qF, 0, none⟩) (Kd.ko nI.out qZ.out (by decide)) (fun _ hk => hk.2) (.int .i64 ((bq aC ky).f0))) (fun _ hk => hk.2) (.slice vk ((bq aC ky).f1).length vo)) (fun _ hk => trivial)⟩; have n1_ : aa (((w39.setCell ⟨qF, 0, none⟩ (.int .i64 ((bq aC ky).f0))).setCell ⟨qF, 1, none⟩ (.slice vk ((bq aC ky).f1).length vo)).heap[mU]? = some (.cells (t5_ ah ak aj ai aY af.length aT) 24 (0, 0))) := ⟨by refine bP ?_ Q5.out _; refine bP ?_ Q5.out _; exact dL.out⟩; have n2_ : aa (((w39.setCell ⟨qF, 0, none⟩ (.int .i64 ((bq aC ky).f0))).setCell ⟨qF, 1, none⟩ (.slice vk ((bq aC ky).f1).length vo)).heap[yu]? = some (.cells (t2_ bf (some ad819) aC.length dE) 51 (0, 0))) := ⟨by refine bP ?_ Q6.out _; refine bP ?_ Q6.out _; exact je.out⟩; have n3_ : aa (((w39.setCell ⟨qF, 0, none⟩ (.int .i64 ((bq aC ky).f0))).setCell ⟨qF, 1, none⟩ (.slice vk ((bq aC ky).f1).length vo)).heap[qF]? = some (.cells (t2_ ((bq aC ky).f0) vk ((bq aC ky).f1).length vo) 51 (0, 0))) := ⟨by refine eP (cs := (t2_ ((bq aC ky).f0) none 0 0)) ?_ 1 _ rfl; refine eP (cs := (t2_ 0 none 0 0)) ?_ 0 _ rfl; exact qZ.out⟩; have n4_ : aa (Below w.heap.size w ((w39.setCell ⟨qF, 0, none⟩ (.int .i64 ((bq aC ky).f0))).setCell ⟨qF, 1, none⟩ (.slice vk ((bq aC ky).f1).length vo))) := ⟨bl_⟩; generalize ((w39.setCell ⟨qF, 0, none⟩ (.int .i64 ((bq aC ky).f0))).setCell ⟨qF, 1, none⟩ (.slice vk ((bq aC ky).f1).length vo)) = w43 at n0_ n1_ n2_ n3_ n4_ ⊢
          have nI := n0_; have dL := n1_; have je := n2_; have qZ := n3_; have HB := n4_; clear n0_ n1_ n2_ n3_ n4_; replace nI := aa.mk (Kd.oQ nI.out); replace dL := aa.mk (dz dL.out); replace je := aa.mk (dz je.out); replace qZ := aa.mk (dz qZ.out); replace HB := aa.mk (eX HB.out); have p821 : 0 ≤ (0 : Int) := (by omega); have q821 : 0 < (af.length : Int) := dt_; obtain ⟨yx, A821_4, c821_4, e821, Fp, Fq, Fs, Fu, Fv, Wj, Wl⟩ := gu bT.out 0 p821 q821; have Kg := Fv; (try simp only [z0_, Nat.zero_mul, Addr.add_zero'] at Kg); have Kh := Fu; (try simp only [z0_, Nat.zero_mul, Addr.add_zero'] at Kh); have Ki := Fs; (try simp only [z0_, Nat.zero_mul, Addr.add_zero'] at Ki); have Kj := Fq; (try simp only [z0_, Nat.zero_mul, Addr.add_zero'] at Kj); have Kk := Fp; (try simp only [z0_, Nat.zero_mul, Addr.add_zero'] at Kk); cases e821; have qi821 : (0 < af.length) = True := eq_true (by omega); (try simp only [z0_, Nat.zero_mul, Addr.add_zero'] at Fp Fq Fs Fu Fv); replace Fp := hc_ HB Fp; replace Fq := hc_ HB Fq; replace Fs := hc_ HB Fs; replace Fu := hc_ HB Fu; replace Fv := hc_ HB Fv; have Wm := aa.mk Wl; have HC821_4 := aa.mk Wj; clear Wl Wj; refine kL (n := 9) (S := fun w' => w'.cell? ⟨mU, 0, none⟩ = some (.int .i64 ah) ∧ w'.cell? ⟨mU, 1, none⟩ = some (.int .i64 ak) ∧ w'.cell? ⟨mU, 2, none⟩ = some (.int .i64 aj) ∧ w'.cell? ⟨mU, 3, none⟩ = some (.int .i64 ai) ∧ w'.cell? ⟨mU, 4, none⟩ = some (.slice (some yx) af.length aT) ∧ w'.cell? ⟨qF, 0, none⟩ = some (.int .i64 ((bq aC ky).f0)) ∧ w'.cell? ⟨qF, 1, none⟩ = some (.slice vk ((bq aC ky).f1).length vo) ∧ w'.cell? yx = some (.int .i64 ((ag af 0).f0)) ∧ w'.cell? ⟨yx.block, yx.off + 1, none⟩ = some (.int .i64 ((ag af 0).f1)) ∧ w'.cell? ⟨yx.block, yx.off + 2, none⟩ = some (.int .i64 ((ag af 0).f2)) ∧ w'.cell? ⟨yx.block, yx.off + 3, none⟩ = some (.int .i64 ((ag af 0).f3)) ∧ w'.cell? ⟨yx.block, yx.off + 4, none⟩ = some (.slice A821_4 ((ag af 0).f4).length c821_4)) (ds := []) #[false, false, false, false, false, false, false, false, false] (by kernel_rfl) rfl rfl ⟨ci_ dL, ci_ dL, ci_ dL, ci_ dL, ci_ dL, ci_ qZ, ci_ qZ, (hc_ HB Kk), (hc_ HB Kj), (hc_ HB Ki), (hc_ HB Kh), (hc_ HB Kg)⟩ (fun hHeld => ?_); refine iG aN.tab15 aN.R3 (fun HT_ HW_ => ?_)
          generalize w43.drew = w44 at nI dL je qZ HB Wm Fp Fq Fs Fu Fv hHeld ⊢
          refine pu_ HT_ 0 47 (bm 9 1) ?_
          refine pu_ HT_ 1 48 (bm 9 3) ?_
          refine ta_ HT_ HW_ 2 49 (bm 9 7) hHeld ?_
          refine pu_ HT_ 3 50 (bm 9 15) ?_
          refine ta_ HT_ HW_ 4 51 (bm 9 31) hHeld ?_
          refine ta_ HT_ HW_ 5 52 (bm 9 63) hHeld ?_
          refine jW (i := 6) (N := some 53) #[true, true, true, true, true, true, true, false, false] rfl rfl (fB HT_.out (by kernel_rfl)) (by decide) (fun K hK => ?_)
          refine mf Tryd.func75 (by kernel_rfl) rfl #[.agg (t5_ ((ag af 0).f0) ((ag af 0).f1) ((ag af 0).f2) ((ag af 0).f3) A821_4 ((ag af 0).f4).length c821_4), .agg (t2_ ((bq aC ky).f0) vk ((bq aC ky).f1).length vo)] (by rfl) rfl rfl mp_ ?_
          with_reducible refine (ih k1 (by have := HK1.out; omega) ((ag af 0).f0) ((ag af 0).f1) ((ag af 0).f2) ((ag af 0).f3) _ _ ((ag af 0).f4) ((bq aC ky).f0) _ _ ((bq aC ky).f1) t822 _ ?au ?av ?bO ?bQ A37.out).mono ?_
          (case au => exact cb_ (Kd.aV Wm.out HB.out))
          (case av => exact HC821_4.out)
          (case bO => exact cb_ (Kd.aV HR819_1.out HB.out))
          (case bQ => exact HC819_1.out)
          rintro e w45 ⟨v823, rfl, ho0, hb⟩
          refine ⟨_, rfl, ?_⟩
          have HO824 := aa.mk (Kd.bN (Kd.eG ho0 (Kd.fK (pR_ nI.out))) (aI bl_)); replace nI := aa.mk (Kd.fI (pR_ nI.out) (Kd.dI ho0) hb); replace dL := kb_ dL hb; replace je := kb_ je hb; replace qZ := kb_ qZ hb; replace HB := aa.mk (ax bl_ hb); obtain ⟨Ao47, co47, eo47⟩ := Kd.bF HO824.out; (subst eo47); refine hK.out _ _ ⟨ci_ dL, ci_ dL, ci_ dL, ci_ dL, ci_ dL, ci_ qZ, ci_ qZ, (hc_ HB Kk), (hc_ HB Kj), (hc_ HB Ki), (hc_ HB Kh), (hc_ HB Kg)⟩ (fun hHeld => ?_)
          clear hK K; refine jd (a' := ?_) ?_ ?_
          rotate_left
          ·show Act.put _ (some 53) _ = _
           simp only [Act.put, List.setIfInBounds_toArray, List.set_cons_zero, List.set_cons_succ, gM, iE]; rfl
          refine jW (i := 7) (N := some 54) #[true, true, true, true, true, true, true, true, false] rfl rfl (fB HT_.out (by kernel_rfl)) (by decide) (fun K hK => ?_)
          refine Kd.qV (Kd.int .i64) (w0 := w) w.heap.size (by rfl) (.tmp 47) (.tmp 53) 29 3 (.int .i64 0) 8 rfl Tryd.underlying29 info3 rfl (by decide) (by omega) u8 jI t822 _ _ _ (fun k_ => some k_ ≠ (.slice Ao47 t822.length co47 : Value).ownBlock) (fun _ => False) rfl rfl ?aO ?aR (fun _ _ h => h) (fun _ h => h.elim) ?aF ?aB ?aS ?aL ?_
          (case aR => exact cb_ ((Kd.aZ HO824.out).2.2))
          (case aB => exact bl_)
          (case aF => exact (fun k_ hk => Kd.fresh' (Kd.fK (pR_ HO824.out)) k_ hk))
          (case aO => exact (by exact Kd.aX nI.out (fun _ hk => hk.2)))
          (case aS => exact (aI bl_))
          (case aL => have := LMc38.out; omega)
          intro v826 w46 ho hb hg hat; rw [← Ny825.out] at ho; have HO827 := aa.mk (ho); replace dL := aa.mk (eF (g := mU) (o := .cells (t5_ ah ak aj ai (some yx) af.length aT) 24 (0, 0)) bk_ hg (Kd.nY nI.out dL.out (by decide))); replace je := aa.mk (eF (g := yu) (o := .cells (t2_ bf (some ad819) aC.length dE) 51 (0, 0)) bk_ hg (Kd.nY nI.out je.out (by decide))); replace qZ := aa.mk (eF (g := qF) (o := .cells (t2_ ((bq aC ky).f0) vk ((bq aC ky).f1).length vo) 51 (0, 0)) bk_ hg (Kd.nY nI.out qZ.out (by decide))); replace HB := aa.mk (hb); clear nI; clear ho hb hg hat; refine hK.out _ _ ⟨ci_ dL, ci_ dL, ci_ dL, ci_ dL, ci_ dL, ci_ qZ, ci_ qZ, (hc_ HB Kk), (hc_ HB Kj), (hc_ HB Ki), (hc_ HB Kh), (hc_ HB Kg)⟩ (fun hHeld => ?_)
          clear hK K; refine jd (a' := ?_) ?_ ?_
          rotate_left
          ·show Act.put _ (some 54) _ = _
           simp only [Act.put, List.setIfInBounds_toArray, List.set_cons_zero, List.set_cons_succ, gM, iE]; rfl
          refine pu_ HT_ 8 8 #[true, true, true, true, true, true, true, true, true] ?_
          refine mH (jT HT_.out (by kernel_rfl)) ?_
          try go_wp2
          go_roundg k1
          case measure => have := HK1.out; omega
          case rel => exact ⟨(y825), (wrap64 (ky + 1)), rs_, H', ⟨by have := HK1.out; omega⟩, ⟨by exact Kd.aX HO827.out (fun _ hk => trivial)⟩, ⟨bk_⟩, ⟨bk_⟩, ⟨bl_⟩⟩
         ·rw [if_neg c38] at H; exact absurd H (by simp)
        ·rw [if_neg c36] at H; exact absurd H (by simp)
       ·rw [if_neg c35] at H; exact absurd H (by simp)
      ·rw [if_neg c34] at H; exact absurd H (by simp)
     ·rw [if_neg c33] at H; have DI := decide_eq_false c33; clear c33; have H' := aa.mk H; clear H; obtain ⟨_, _, _, hcz49_3, _, _, _, _, _, _⟩ := bE dL.out; obtain ⟨_, hcz50_1, _, _⟩ := dS je.out; go_wp2; go_loopg [8, 62] k1 (fun kq v8 v62 w' => ∃ (x8_2 : List Int) (Nk : Int), v62 = .int .i64 Nk ∧ aa (aN.l2 kq x8_2 (wrap64 (ai - (aC.length : Int))) Nk ah ak aj ai af = some r) ∧ aa (kq ≤ k1) ∧ aa (Kd.R (Kd.int .i64) 3 w' w.heap.size (fun _ => True) v8 x8_2) ∧ aa (w'.heap[mU]? = some (.cells #[.int .i64 ah, .int .i64 ak, .int .i64 aj, .int .i64 ai, (.slice aY af.length aT)] 24 (0, 0))) ∧ aa (w'.heap[yu]? = some (.cells #[.int .i64 bf, (.slice dW aC.length dE)] 51 (0, 0))) ∧ aa (Below w.heap.size w w'))
      case atStart => exact ⟨(jI), (0), rs_, H', ⟨Nat.le_refl _⟩, ⟨pR_ nI.out⟩, ⟨bk_⟩, ⟨bk_⟩, ⟨bl_⟩⟩
      case round =>
       clear H'; obtain ⟨x8_2, Nk, rfl, HA, HK2, nI, dL, je, HB⟩ := hrel; cases gk with
       | zero => exact absurd HA.out (by simp [aN.l2])
       | succ k2 =>
        have H := HA.out; clear HA; simp only [aN.l2] at H; by_cases c51 : Nk < (wrap64 (ai - (aC.length : Int)))
        ·rw [if_pos c51] at H; have c51b0 := decide_eq_true c51; clear c51; by_cases c52 : 0 < (af.length : Int)
         ·rw [if_pos c52] at H; have c52b0 := decide_eq_true c52; clear c52; replace H := Option.bind_eq_some_iff.mp H; obtain ⟨⟨t830, t831⟩, A530, H⟩ := H; (try dsimp only at H); have A53 := aa.mk A530; clear A530; replace H := Option.bind_eq_some_iff.mp H; obtain ⟨t834, A540, H⟩ := H; have A54 := aa.mk A540; clear A540; by_cases c55 : x8_2.length + t834.length < 17592186044416
          ·rw [if_pos c55] at H; have LMc55 := aa.mk c55; clear c55; generalize hy837 : (x8_2 ++ t834) = y837 at H; replace hy837 := hy837.symm; have Ny837 := aa.mk hy837; clear hy837; have H' := aa.mk H; clear H; try go_wp2
           replace nI := aa.mk (Kd.oQ nI.out); replace dL := aa.mk (dz dL.out); replace je := aa.mk (dz je.out); replace HB := aa.mk (eX HB.out); have p828 : 0 ≤ (0 : Int) := (by omega); have q828 : 0 < (af.length : Int) := dt_; obtain ⟨oM, Nl, Nn, e828, Fw, Fx, Fy, Fz, Ct, Wn, Wo⟩ := gu bT.out 0 p828 q828; have FB := Ct; (try simp only [z0_, Nat.zero_mul, Addr.add_zero'] at FB); have FC := Fz; (try simp only [z0_, Nat.zero_mul, Addr.add_zero'] at FC); have FD := Fy; (try simp only [z0_, Nat.zero_mul, Addr.add_zero'] at FD); have FE := Fx; (try simp only [z0_, Nat.zero_mul, Addr.add_zero'] at FE); have FH := Fw; (try simp only [z0_, Nat.zero_mul, Addr.add_zero'] at FH); cases e828; have qi828 : (0 < af.length) = True := eq_true (by omega); (try simp only [z0_, Nat.zero_mul, Addr.add_zero'] at Fw Fx Fy Fz Ct); replace Fw := hc_ HB Fw; replace Fx := hc_ HB Fx; replace Fy := hc_ HB Fy; replace Fz := hc_ HB Fz; replace Ct := hc_ HB Ct; have Wp := aa.mk Wo; have HC828_4 := aa.mk Wn; clear Wo Wn; have p829 : 0 ≤ (0 : Int) := (by omega); have q829 : 0 < (af.length : Int) := dt_; obtain ⟨ad829, A829_4, c829_4, e829, FI, FJ, FL, FM, Cu, Wq, Ws⟩ := gu bT.out 0 p829 q829; have FN := Cu; (try simp only [z0_, Nat.zero_mul, Addr.add_zero'] at FN); have FO := FM; (try simp only [z0_, Nat.zero_mul, Addr.add_zero'] at FO); have FP := FL; (try simp only [z0_, Nat.zero_mul, Addr.add_zero'] at FP); have FQ := FJ; (try simp only [z0_, Nat.zero_mul, Addr.add_zero'] at FQ); have FR := FI; (try simp only [z0_, Nat.zero_mul, Addr.add_zero'] at FR); obtain rfl : oM = ad829 := (by injection e829); (try simp only [z0_, Nat.zero_mul, Addr.add_zero'] at FI FJ FL FM Cu); replace FI := hc_ HB FI; replace FJ := hc_ HB FJ; replace FL := hc_ HB FL; replace FM := hc_ HB FM; replace Cu := hc_ HB Cu; have Wt := aa.mk Ws; have HC829_4 := aa.mk Wq; clear Ws Wq; have ea_ := Option.some.inj (Ct.symm.trans Cu); injection ea_ with ea_ en_ ec_
           subst ea_; subst ec_; clear en_; refine kL (n := 13) (S := fun w' => w'.cell? ⟨mU, 0, none⟩ = some (.int .i64 ah) ∧ w'.cell? ⟨mU, 1, none⟩ = some (.int .i64 ak) ∧ w'.cell? ⟨mU, 2, none⟩ = some (.int .i64 aj) ∧ w'.cell? ⟨mU, 3, none⟩ = some (.int .i64 ai) ∧ w'.cell? ⟨mU, 4, none⟩ = some (.slice (some oM) af.length aT) ∧ w'.cell? oM = some (.int .i64 ((ag af 0).f0)) ∧ w'.cell? ⟨oM.block, oM.off + 1, none⟩ = some (.int .i64 ((ag af 0).f1)) ∧ w'.cell? ⟨oM.block, oM.off + 2, none⟩ = some (.int .i64 ((ag af 0).f2)) ∧ w'.cell? ⟨oM.block, oM.off + 3, none⟩ = some (.int .i64 ((ag af 0).f3)) ∧ w'.cell? ⟨oM.block, oM.off + 4, none⟩ = some (.slice Nl ((ag af 0).f4).length Nn) ∧ w'.cell? oM = some (.int .i64 ((ag af 0).f0)) ∧ w'.cell? ⟨oM.block, oM.off + 1, none⟩ = some (.int .i64 ((ag af 0).f1)) ∧ w'.cell? ⟨oM.block, oM.off + 2, none⟩ = some (.int .i64 ((ag af 0).f2)) ∧ w'.cell? ⟨oM.block, oM.off + 3, none⟩ = some (.int .i64 ((ag af 0).f3)) ∧ w'.cell? ⟨oM.block, oM.off + 4, none⟩ = some (.slice Nl ((ag af 0).f4).length Nn)) (ds := []) #[false, false, false, false, false, false, false, false, false, false, false, false, false] (by kernel_rfl) rfl rfl ⟨ci_ dL, ci_ dL, ci_ dL, ci_ dL, ci_ dL, (hc_ HB FH), (hc_ HB FE), (hc_ HB FD), (hc_ HB FC), (hc_ HB FB), (hc_ HB FR), (hc_ HB FQ), (hc_ HB FP), (hc_ HB FO), (hc_ HB FN)⟩ (fun hHeld => ?_); refine iG aN.tab19 aN.bits19 (fun HT_ HW_ => ?_)
           generalize wr.drew = w56 at nI dL je HB Wp Wt Fw Fx Fy Fz Ct FI FJ FL FM Cu hHeld ⊢
           refine pu_ HT_ 0 64 (bm 13 1) ?_
           refine pu_ HT_ 1 65 (bm 13 3) ?_
           refine pu_ HT_ 5 69 (bm 13 35) ?_
           refine ta_ HT_ HW_ 2 66 (bm 13 39) hHeld ?_
           refine pu_ HT_ 3 67 (bm 13 47) ?_
           refine ta_ HT_ HW_ 4 68 (bm 13 63) hHeld ?_
           refine ta_ HT_ HW_ 6 70 (bm 13 127) hHeld ?_
           refine pu_ HT_ 7 71 (bm 13 255) ?_
           refine ta_ HT_ HW_ 8 72 (bm 13 511) hHeld ?_
           refine jW (i := 9) (N := some 73) #[true, true, true, true, true, true, true, true, true, true, false, false, false] rfl rfl (fB HT_.out (by kernel_rfl)) (by decide) (fun K hK => ?_)
           refine mf Tryd.func83 (by kernel_rfl) rfl #[.agg (t5_ ((ag af 0).f0) ((ag af 0).f1) ((ag af 0).f2) ((ag af 0).f3) Nl ((ag af 0).f4).length Nn)] (by rfl) rfl rfl mp_ ?_
           with_reducible refine (dJ.calls k2 ((ag af 0).f0) ((ag af 0).f1) ((ag af 0).f2) ((ag af 0).f3) _ _ ((ag af 0).f4) t830 t831 _ ?au ?av A53.out).mono ?_
           (case au => exact cb_ (Kd.aV Wt.out HB.out))
           (case av => exact HC829_4.out)
           rintro e w57 ⟨v832, rfl, ho0, hb⟩
           refine ⟨_, rfl, ?_⟩
           have HO833 := aa.mk (Kd.bN (Kd.iY ho0 (g := yu) (o := .cells (t2_ bf dW aC.length dE) 51 (0, 0)) bk_) (aI bl_)); replace nI := aa.mk (Kd.dH (pR_ nI.out) hb); replace dL := kb_ dL hb; replace je := kb_ je hb; replace HB := aa.mk (ax bl_ hb); obtain ⟨Ao58, co58, eo58⟩ := Kd.bF HO833.out; (subst eo58); refine hK.out _ _ ⟨ci_ dL, ci_ dL, ci_ dL, ci_ dL, ci_ dL, (hc_ HB FH), (hc_ HB FE), (hc_ HB FD), (hc_ HB FC), (hc_ HB FB), (hc_ HB FR), (hc_ HB FQ), (hc_ HB FP), (hc_ HB FO), (hc_ HB FN)⟩ (fun hHeld => ?_)
           clear hK K; refine jd (a' := ?_) ?_ ?_
           rotate_left
           ·show Act.put _ (some 73) _ = _
            simp only [Act.put, List.setIfInBounds_toArray, List.set_cons_zero, List.set_cons_succ, gM, iE]; rfl
           refine jW (i := 10) (N := some 74) #[true, true, true, true, true, true, true, true, true, true, true, false, false] rfl rfl (fB HT_.out (by kernel_rfl)) (by decide) (fun K hK => ?_)
           refine mf Tryd.func75 (by kernel_rfl) rfl #[.agg (t5_ ((ag af 0).f0) ((ag af 0).f1) ((ag af 0).f2) ((ag af 0).f3) Nl ((ag af 0).f4).length Nn), .agg (t2_ t830 Ao58 t831.length co58)] (by rfl) rfl rfl mp_ ?_
           with_reducible refine (ih k2 (by have := HK1.out; have := HK2.out; omega) ((ag af 0).f0) ((ag af 0).f1) ((ag af 0).f2) ((ag af 0).f3) _ _ ((ag af 0).f4) t830 _ _ t831 t834 _ ?au ?av ?bO ?bQ A54.out).mono ?_
           (case au => exact cb_ (Kd.aV Wp.out HB.out))
           (case av => exact HC828_4.out)
           (case bO => exact cb_ ((Kd.aZ HO833.out).2.2))
           (case bQ => exact (Kd.aZ HO833.out).2.1)
           rintro e w59 ⟨v835, rfl, ho0, hb⟩
           refine ⟨_, rfl, ?_⟩
           have HO836 := aa.mk (Kd.bN (Kd.eG ho0 (Kd.fK (pR_ nI.out))) (aI bl_)); replace nI := aa.mk (Kd.fI (pR_ nI.out) (Kd.dI ho0) hb); replace dL := kb_ dL hb; replace je := kb_ je hb; replace HB := aa.mk (ax bl_ hb); obtain ⟨o5, o6, eo61⟩ := Kd.bF HO836.out; (subst eo61); refine hK.out _ _ ⟨ci_ dL, ci_ dL, ci_ dL, ci_ dL, ci_ dL, (hc_ HB FH), (hc_ HB FE), (hc_ HB FD), (hc_ HB FC), (hc_ HB FB), (hc_ HB FR), (hc_ HB FQ), (hc_ HB FP), (hc_ HB FO), (hc_ HB FN)⟩ (fun hHeld => ?_)
           clear hK K; refine jd (a' := ?_) ?_ ?_
           rotate_left
           ·show Act.put _ (some 74) _ = _
            simp only [Act.put, List.setIfInBounds_toArray, List.set_cons_zero, List.set_cons_succ, gM, iE]; rfl
           refine jW (i := 11) (N := some 75) #[true, true, true, true, true, true, true, true, true, true, true, true, false] rfl rfl (fB HT_.out (by kernel_rfl)) (by decide) (fun K hK => ?_)
           refine Kd.qV (Kd.int .i64) (w0 := w) w.heap.size (by rfl) (.tmp 64) (.tmp 74) 29 3 (.int .i64 0) 8 rfl Tryd.underlying29 info3 rfl (by decide) (by omega) u8 x8_2 t834 _ _ _ (fun k_ => some k_ ≠ (.slice o5 t834.length o6 : Value).ownBlock) (fun _ => False) rfl rfl ?aO ?aR (fun _ _ h => h) (fun _ h => h.elim) ?aF ?aB ?aS ?aL ?_
           (case aR => exact cb_ ((Kd.aZ HO836.out).2.2))
           (case aB => exact bl_)
           (case aF => exact (fun k_ hk => Kd.fresh' (Kd.fK (pR_ HO836.out)) k_ hk))
           (case aO => exact (by exact Kd.aX nI.out (fun _ hk => hk.2)))
           (case aS => exact (aI bl_))
           (case aL => have := LMc55.out; omega)
           intro v838 w60 ho hb hg hat; rw [← Ny837.out] at ho; have HO839 := aa.mk (ho); replace dL := aa.mk (eF (g := mU) (o := .cells (t5_ ah ak aj ai (some oM) af.length aT) 24 (0, 0)) bk_ hg (Kd.nY nI.out dL.out (by decide))); replace je := aa.mk (eF (g := yu) (o := .cells (t2_ bf dW aC.length dE) 51 (0, 0)) bk_ hg (Kd.nY nI.out je.out (by decide))); replace HB := aa.mk (hb); clear nI; clear ho hb hg hat; refine hK.out _ _ ⟨ci_ dL, ci_ dL, ci_ dL, ci_ dL, ci_ dL, (hc_ HB FH), (hc_ HB FE), (hc_ HB FD), (hc_ HB FC), (hc_ HB FB), (hc_ HB FR), (hc_ HB FQ), (hc_ HB FP), (hc_ HB FO), (hc_ HB FN)⟩ (fun hHeld => ?_)
           clear hK K; refine jd (a' := ?_) ?_ ?_
           rotate_left
           ·show Act.put _ (some 75) _ = _
            simp only [Act.put, List.setIfInBounds_toArray, List.set_cons_zero, List.set_cons_succ, gM, iE]; rfl
           refine pu_ HT_ 12 8 #[true, true, true, true, true, true, true, true, true, true, true, true, true] ?_
           refine mH (jT HT_.out (by kernel_rfl)) ?_
           try go_wp2
           go_roundg k2
           case measure => have := HK1.out; have := HK2.out; omega
           case rel => exact ⟨(y837), (wrap64 (Nk + 1)), rs_, H', ⟨by have := HK1.out; have := HK2.out; omega⟩, ⟨by exact Kd.aX HO839.out (fun _ hk => trivial)⟩, ⟨bk_⟩, ⟨bk_⟩, ⟨bl_⟩⟩
          ·rw [if_neg c55] at H; exact absurd H (by simp)
         ·rw [if_neg c52] at H; exact absurd H (by simp)
        ·rw [if_neg c51] at H; have c51b0 := decide_eq_false c51; clear c51; obtain rfl := Option.some.inj H; go_wp2; go_ret; exact ⟨_, re_, pR_ nI.out, bl_⟩
  ·rw [if_neg c24] at H; obtain ⟨Ah, MW⟩ := bn_ c24; generalize hy840 : (([bf] : List Int)) = y840 at H; replace hy840 := hy840.symm; have Ny840 := aa.mk hy840; clear hy840; obtain rfl := Option.some.inj H; go_enter Tryd.func75, Tryd.ntmps75; go_wp2_with (first | ((with_reducible refine aM (N := 2) rfl ?_); refine bx_ ((t5_ ah ak aj ai aY af.length aT)) 24 ?_; intro mU hg w62 dL _ HB hb; clear hb hg) | ((with_reducible refine aM (N := 3) rfl ?_); refine bx_ ((t2_ bf dW aC.length dE)) 51 ?_; intro yu hg w63 je _ HB hb; replace dL := kb_ dL hb; clear hb hg; obtain ⟨hcz65_0, _, _, _, _, _, _, _, _, _⟩ := bE dL.out; obtain ⟨JV, _, _, _⟩ := dS je.out) | ((with_reducible refine aM (N := 80) rfl ?_); refine Kd.nM (Kd.int .i64) _ 3 ?hg (N := 80) ?hd (xs := ([bf] : List Int)) (inner := [.int .i64 bf]) (ok := fun _ => True) (okp := fun _ => True) ?hr ?hp (fun _ hk => hk) trivial (Below.refl _ _) (Nat.le_refl _) (by simp) ?_; (case hd => rfl); (case hg => rfl); (case hr => (go_simp; done)); (case hp => exact (dB.one (show Kd.M (Kd.int .i64) _ _ _ bf [.int .i64 bf] from rfl) (dB.none _ _))); intro v841 w67 ho68 hb hg_ iy; clear hg_ iy; (rw [← Ny840.out] at ho68); have HO842 := aa.mk (Kd.bN ho68 (aI bl_)); replace HB := aa.mk (ax bl_ hb); clear hb ho68))
   go_ret; exact ⟨_, re_, pR_ HO842.out, bl_⟩


/-! ### eZ: function 57 -/
def eZ.f (k : Nat) (ah ak aj ai : Int) (af : List (S24)) (bf : Int) (aC : List (S51)) : Option (List Int × Int) := (gX.f k ah ak aj ai af bf aC).bind fun t845 => (if t845 = 0 then ((aN.f k ah ak aj ai af bf aC).bind fun t846 => (some (t846, 0))) else (some (([] : List Int), t845)))
theorem eZ.mono : ∀ a0 a1 a2 a3 a4 a5 a6 k, LeO (eZ.f k a0 a1 a2 a3 a4 a5 a6) (eZ.f (k + 1) a0 a1 a2 a3 a4 a5 a6) := by
 intro a0 a1 a2 a3 a4 a5 a6 k; unfold eZ.f; have m0 := @gX.mono; have m1 := @aN.mono; exact mo_
set_option maxHeartbeats 8000000 in
set_option maxRecDepth 100000 in
theorem eZ.calls (k : Nat) (ah ak aj ai : Int) (aY : Option Addr) (aT : Nat) (af : List (S24)) (bf : Int) (dW : Option Addr) (dE : Nat) (aC : List (S51)) (r1 : List Int) (r2 : Int) (w : World) (dD : Kd.C k24 w aY af.length af) (dX : af.length ≤ aT) (iW : Kd.C k51 w dW aC.length aC) (jB : aC.length ≤ dE) (h : eZ.f k ah ak aj ai af bf aC = some (r1, r2)) :
  Calls Tryd.prog 57 #[.agg #[.int .i64 ah, .int .i64 ak, .int .i64 aj, .int .i64 ai, .slice aY af.length aT], .agg #[.int .i64 bf, .slice dW aC.length dE]] w fun e w' => ∃ v0_ : Value, e = .returned (.tuple #[v0_, .int .i64 r2]) ∧ Kd.R (Kd.int .i64) 3 w' w.heap.size (fun _ => True) v0_ r1 ∧ Below w.heap.size w w' := by
 have bT := aa.mk dD; have ed := aa.mk dX; clear dD dX; have jw := aa.mk iW; have lK := aa.mk jB; clear iW jB; have HB := aa.mk (Below.refl w.heap.size w); have H : ((gX.f k ah ak aj ai af bf aC).bind fun t845 => (if t845 = 0 then ((aN.f k ah ak aj ai af bf aC).bind fun t846 => (some (t846, 0))) else (some (([] : List Int), t845)))) = some (r1, r2) := h; clear h; replace H := Option.bind_eq_some_iff.mp H; obtain ⟨t845, A30, H⟩ := H; have A3 := aa.mk A30; clear A30; by_cases c4 : t845 = 0
 focus
  rw [if_pos c4] at H; obtain ⟨kN, oZ⟩ := bq_ c4; clear c4; replace H := Option.bind_eq_some_iff.mp H; obtain ⟨t846, A50, H⟩ := H; have A5 := aa.mk A50; clear A50
 rotate_left
 focus
  rw [if_neg c4] at H; obtain ⟨kN, oZ⟩ := bn_ c4
 rotate_left
 all_goals
  simp only [Option.some.injEq, Prod.mk.injEq] at H; obtain ⟨rfl, rfl⟩ := H; go_enter Tryd.func57, Tryd.ntmps57; go_wp2_with (first | ((with_reducible refine aM (N := 2) rfl ?_); refine bx_ ((t5_ ah ak aj ai aY af.length aT)) 24 ?_; intro gb843 hg w6 Kl _ HB hb; clear hb hg) | ((with_reducible refine aM (N := 3) rfl ?_); refine bx_ ((t2_ bf dW aC.length dE)) 51 ?_; intro gb844 hg w7 BK844 _ HB hb; replace Kl := kb_ Kl hb; clear hb hg; obtain ⟨qy, uY, AJ, Fh, CQ, _, _, _, _, _⟩ := bE Kl.out; obtain ⟨o8, ql, _, _⟩ := dS BK844.out) | ((with_reducible refine ay (f := 61) rfl ?_); refine gl_ (some 9) Tryd.func61 #[.agg (t5_ ah ak aj ai aY af.length aT), .agg (t2_ bf dW aC.length dE)] ?_; (with_reducible refine (gX.calls k ah ak aj ai _ _ af bf _ _ aC t845 _ ?au ?av ?bO ?bQ A3.out).mono ?_); (case au => exact cb_ (Kd.aV bT.out HB.out)); (case av => exact ed.out); (case bO => exact cb_ (Kd.aV jw.out HB.out)); (case bQ => exact lK.out); rintro e w11 ⟨rfl, hb⟩; refine ⟨_, rfl, ?_⟩; replace Kl := kb_ Kl hb; replace BK844 := kb_ BK844 hb; replace HB := aa.mk (ax bl_ hb); (try (obtain ⟨pq, rZ, Ci, Cj, zm, _, _, _, _, _⟩ := bE Kl.out; obtain ⟨zF, zG, _, _⟩ := dS BK844.out))) | ((with_reducible refine ay (f := 75) rfl ?_); refine gl_ (some 15) Tryd.func75 #[.agg (t5_ ah ak aj ai aY af.length aT), .agg (t2_ bf dW aC.length dE)] ?_; (with_reducible refine (aN.calls k ah ak aj ai _ _ af bf _ _ aC t846 _ ?au ?av ?bO ?bQ A5.out).mono ?_); (case au => exact cb_ (Kd.aV bT.out HB.out)); (case av => exact ed.out); (case bO => exact cb_ (Kd.aV jw.out HB.out)); (case bQ => exact lK.out); rintro e w14 ⟨v847, rfl, ho0, hb⟩; refine ⟨_, rfl, ?_⟩; have HO848 := aa.mk (Kd.bN ho0 (aI bl_)); replace HB := aa.mk (ax bl_ hb)))
  go_ret2
 ·exact ⟨_, re_, pR_ HO848.out, bl_⟩
 ·exact ⟨_, re_, by exact Kd.jy _ _ _ _ _, bl_⟩


/-! ### jH: function 81 -/
def jH.f (ah ak aj ai : Int) (af : List (S24)) (a1 : Int) : Option (Int × Int × Int × Int × (List (S24))) := if ah = 6 then (if 0 < (af.length : Int) then (some ((ag af 0).f0, (ag af 0).f1, (ag af 0).f2, (ag af 0).f3, (ag af 0).f4)) else (none)) else (if 0 ≤ a1 then (if a1 < (af.length : Int) then (some ((ag af a1).f0, (ag af a1).f1, (ag af a1).f2, (ag af a1).f3, (ag af a1).f4)) else (none)) else (none))
set_option maxHeartbeats 8000000 in
set_option maxRecDepth 100000 in
theorem jH.calls (ah ak aj ai : Int) (lu : Nat → Prop) (aY : Option Addr) (aT : Nat) (af : List (S24)) (a1 r1 r2 r3 r4 : Int) (r5 : List (S24)) (w : World) (hs0_4 : Kd.V k24 24 w w.heap.size (fun k_ => lu k_) (.slice aY af.length aT) af) (h : jH.f ah ak aj ai af a1 = some (r1, r2, r3, r4, r5)) :
  Calls Tryd.prog 81 #[.agg #[.int .i64 ah, .int .i64 ak, .int .i64 aj, .int .i64 ai, .slice aY af.length aT], .int .i64 a1] w fun e w' => ∃ v4_ : Value, e = .returned (.agg #[.int .i64 r1, .int .i64 r2, .int .i64 r3, .int .i64 r4, v4_]) ∧ Kd.V k24 24 w' w.heap.size (fun k_ => (lu k_ ∨ w.heap.size ≤ k_)) v4_ r5 ∧ Below w.heap.size w w' := by
 have ou := aa.mk (show Kd.V k24 24 w w.heap.size (fun k_ => (lu k_ ∨ w.heap.size ≤ k_)) (.slice aY af.length aT) af from Kd.eB hs0_4 (fun k_ hk => .inl hk)); have HB := aa.mk (Below.refl w.heap.size w); have H := h; unfold jH.f at H; clear h; by_cases c3 : ah = 6
 ·rw [if_pos c3] at H; obtain ⟨kM, mF⟩ := bq_ c3; clear c3; by_cases c4 : 0 < (af.length : Int)
  ·rw [if_pos c4] at H; have kN := decide_eq_true c4; clear c4; simp only [Option.some.injEq, Prod.mk.injEq] at H; obtain ⟨rfl, rfl, rfl, rfl, rfl⟩ := H; go_enter Tryd.func81, Tryd.ntmps81; go_wp2_with (first | ((with_reducible refine aM (N := 2) rfl ?_); refine bx_ ((t5_ ah ak aj ai aY af.length aT)) 24 ?_; intro gb785 hg w5 GM _ HB hb; replace ou := aa.mk (Kd.gP (Kd.iw (pV_ ou.out) gb785 (Nat.le_of_eq hg.symm)) hb); clear hb hg) | ((with_reducible refine aM (N := 4) rfl ?_); refine bx_ ((t5_ 0 0 0 0 none 0 0)) 24 ?_; intro rf hg w6 BK786 GW786 HB hb; have GE786 := GW786; replace ou := aa.mk (Kd.gP (Kd.iw (pV_ ou.out) rf (Nat.le_of_eq hg.symm)) hb); replace GM := kb_ GM hb; clear hb hg; obtain ⟨uw, _, _, _, hcz8_4, _, _, _, _, _⟩ := bE GM.out; have p787 : 0 ≤ (0 : Int) := (by omega); have q787 : 0 < (af.length : Int) := dt_; obtain ⟨ad787, A787_4, c787_4, e787, hx787_0, hx787_1, hx787_2, hx787_3, Wu, _, _⟩ := gu (Kd.kZ ou.out).2.2 0 p787 q787; cases e787; obtain ⟨ce787, hce787, hMe787, hcc787⟩ := Kd.V_get ou.out z24 0 p787 (by exact q787); obtain ⟨ua787_4, uc787_4, rfl, Qc, Qd⟩ := DC hMe787; have Km := hcc787 4 _ rfl; rw [uT _ _ 4 (by omega)] at Km; replace Km := Option.some.inj (Km.symm.trans Wu); injection Km with hva_ hvn_ hvc_; rw [hva_] at Qd; rw [hvc_] at Qc; have HL787_4 := aa.mk (show Kd.V k24 24 _ w.heap.size _ _ ((ag af 0).f4) from Kd.uV Qc Qd); clear hva_ hvn_ hvc_ Qd Qc; clear hcc787 hce787; have qi787 : (0 < af.length) = True := eq_true (by omega); (try simp only [z0_, Nat.zero_mul, Addr.add_zero'] at hx787_0); (try simp only [z0_, Nat.zero_mul, Addr.add_zero'] at hx787_1); (try simp only [z0_, Nat.zero_mul, Addr.add_zero'] at hx787_2); (try simp only [z0_, Nat.zero_mul, Addr.add_zero'] at hx787_3); (try simp only [z0_, Nat.zero_mul, Addr.add_zero'] at Wu); obtain ⟨qy, uY, AJ, Fh, CQ, hfz9_0, hfz9_1, hfz9_2, hfz9_3, hfz9_4⟩ := bE BK786.out))
   refine bodyPost_ret (results_cell_row rfl _ _ rf 24 (t5_ ((ag af 0).f0) ((ag af 0).f1) ((ag af 0).f2) ((ag af 0).f3) A787_4 ((ag af 0).f4).length c787_4) (0, 0) _ rfl b5_ Tryd.underlying24 rfl (by kernel_rfl)) rfl ?_
   exact ⟨_, re_, by exact Kd.eB (Kd.jk (p := ⟨rf, 4, none⟩) (Kd.jk (p := ⟨rf, 3, none⟩) (Kd.jk (p := ⟨rf, 2, none⟩) (Kd.jk (p := ⟨rf, 1, none⟩) (Kd.jk (p := ⟨rf, 0, none⟩) (Kd.eB HL787_4.out (fun k_ hk => (⟨hk, by exact hk.2⟩ : _ ∧ k_ ≠ rf))) (fun _ hk => hk.2) (.int .i64 ((ag af 0).f0))) (fun _ hk => hk.2) (.int .i64 ((ag af 0).f1))) (fun _ hk => hk.2) (.int .i64 ((ag af 0).f2))) (fun _ hk => hk.2) (.int .i64 ((ag af 0).f3))) (fun _ hk => hk.2) (.slice A787_4 ((ag af 0).f4).length c787_4)) (fun _ hk => hk.1.1.1), bl_⟩
  ·rw [if_neg c4] at H; exact absurd H (by simp)
 ·rw [if_neg c3] at H; obtain ⟨kM, mF⟩ := bn_ c3; by_cases c10 : 0 ≤ a1
  ·rw [if_pos c10] at H; have pR := decide_eq_true c10; clear c10; by_cases c11 : a1 < (af.length : Int)
   ·rw [if_pos c11] at H; have Gz := decide_eq_true c11; clear c11; simp only [Option.some.injEq, Prod.mk.injEq] at H; obtain ⟨rfl, rfl, rfl, rfl, rfl⟩ := H; go_enter Tryd.func81, Tryd.ntmps81; go_wp2_with (first | ((with_reducible refine aM (N := 2) rfl ?_); refine bx_ ((t5_ ah ak aj ai aY af.length aT)) 24 ?_; intro gb785 hg w12 GM _ HB hb; replace ou := aa.mk (Kd.gP (Kd.iw (pV_ ou.out) gb785 (Nat.le_of_eq hg.symm)) hb); clear hb hg) | ((with_reducible refine aM (N := 4) rfl ?_); refine bx_ ((t5_ 0 0 0 0 none 0 0)) 24 ?_; intro rf hg w13 BK786 GW786 HB hb; have GE786 := GW786; replace ou := aa.mk (Kd.gP (Kd.iw (pV_ ou.out) rf (Nat.le_of_eq hg.symm)) hb); replace GM := kb_ GM hb; clear hb hg; obtain ⟨Qe, _, _, _, Vs, _, _, _, _, _⟩ := bE GM.out; have p788 : 0 ≤ (a1 : Int) := dt_; have q788 : a1 < (af.length : Int) := dt_; obtain ⟨ad788, A788_4, c788_4, e788, hx788_0, hx788_1, hx788_2, hx788_3, hx788_4, _, _⟩ := gu (Kd.kZ ou.out).2.2 a1 p788 q788; cases e788; obtain ⟨ce788, hce788, hMe788, hcc788⟩ := Kd.V_get ou.out z24 a1 p788 (by exact q788); obtain ⟨ua788_4, uc788_4, rfl, Qf, Qg⟩ := DC hMe788; have Kn := hcc788 4 _ rfl; rw [uT _ _ 4 (by omega)] at Kn; replace Kn := Option.some.inj (Kn.symm.trans hx788_4); injection Kn with hva_ hvn_ hvc_; rw [hva_] at Qg; rw [hvc_] at Qf; have HL788_4 := aa.mk (show Kd.V k24 24 _ w.heap.size _ _ ((ag af a1).f4) from Kd.uV Qf Qg); clear hva_ hvn_ hvc_ Qg Qf; clear hcc788 hce788; replace p788 := eq_true p788; replace q788 := eq_true q788; obtain ⟨qP, rY, uG, zn, zo, Wv, hfz16_1, hfz16_2, hfz16_3, hfz16_4⟩ := bE BK786.out))
    refine bodyPost_ret (results_cell_row rfl _ _ rf 24 (t5_ ((ag af a1).f0) ((ag af a1).f1) ((ag af a1).f2) ((ag af a1).f3) A788_4 ((ag af a1).f4).length c788_4) (0, 0) _ rfl b5_ Tryd.underlying24 rfl (by kernel_rfl)) rfl ?_
    exact ⟨_, re_, by exact Kd.eB (Kd.jk (p := ⟨rf, 4, none⟩) (Kd.jk (p := ⟨rf, 3, none⟩) (Kd.jk (p := ⟨rf, 2, none⟩) (Kd.jk (p := ⟨rf, 1, none⟩) (Kd.jk (p := ⟨rf, 0, none⟩) (Kd.eB HL788_4.out (fun k_ hk => (⟨hk, by exact hk.2⟩ : _ ∧ k_ ≠ rf))) (fun _ hk => hk.2) (.int .i64 ((ag af a1).f0))) (fun _ hk => hk.2) (.int .i64 ((ag af a1).f1))) (fun _ hk => hk.2) (.int .i64 ((ag af a1).f2))) (fun _ hk => hk.2) (.int .i64 ((ag af a1).f3))) (fun _ hk => hk.2) (.slice A788_4 ((ag af a1).f4).length c788_4)) (fun _ hk => hk.1.1.1), bl_⟩
   ·rw [if_neg c11] at H; exact absurd H (by simp)
  ·rw [if_neg c10] at H; exact absurd H (by simp)


/-! ### bJ: function 77 -/
mutual
def bJ.j0 : Nat → List Int → Int → Int → Int → Int → Int → List (S24) → Int → Option (Int × (List (S51)) × List Int × Bool)
 | 0, _, _, _, _, _, _, _, _ => none
 | k + 1, x1, x8, FT, Ko, Kq, xW, Kr, FU => bJ.l0 k x1 x8 x8 0 FT Ko Kq xW Kr FU ([] : List (S51))
def bJ.l0 : Nat → List Int → Int → Int → Int → Int → Int → Int → Int → List (S24) → Int → List (S51) → Option (Int × (List (S51)) × List Int × Bool)
 | 0, _, _, _, _, _, _, _, _, _, _, _ => none
 | k + 1, x1, x8, x47, x48, FT, Ko, Kq, xW, Kr, FU, Kt => if x48 < x47 then ((jH.f FT Ko Kq xW Kr x48).bind fun Np => ((bJ.f k Np.1 Np.2.1 Np.2.2.1 Np.2.2.2.1 Np.2.2.2.2 x1).bind fun bt871 => (if bt871.2.2.2 = true then (if Kt.length < 4398046511104 then (bJ.l0 k bt871.2.2.1 x8 x47 (wrap64 (x48 + 1)) FT Ko Kq xW Kr FU (Kt ++ [(⟨bt871.1, bt871.2.1⟩ : S51)])) else (none)) else (some (0, ([] : List (S51)), ([] : List Int), false))))) else (if FT = 6 then (if (x1.length : Int) < (wrap64 (xW - x8)) then (some (0, ([] : List (S51)), ([] : List Int), false)) else (if 0 ≤ (wrap64 (xW - x8)) then (if (wrap64 (xW - x8)) ≤ (x1.length : Int) then (some (FU, Kt, (x1.drop ((wrap64 (xW - x8)) : Int).toNat), true)) else (none)) else (none))) else (some (FU, Kt, x1, true)))
def bJ.f : Nat → Int → Int → Int → Int → List (S24) → List Int → Option (Int × (List (S51)) × List Int × Bool)
 | 0, _, _, _, _, _, _ => none
 | k + 1, ah, ak, aj, ai, af, l1 => if (l1.length : Int) = 0 then (some (0, ([] : List (S51)), ([] : List Int), false)) else (if ah = 5 then (bJ.j0 k l1 (af.length : Int) ah ak aj ai af 0) else (if ah = 6 then (if 0 < (l1.length : Int) then (if (rd l1 0) < 0 then (some (0, ([] : List (S51)), ([] : List Int), false)) else (if (rd l1 0) > ai then (some (0, ([] : List (S51)), ([] : List Int), false)) else (if 1 ≤ (l1.length : Int) then (bJ.j0 k (l1.drop 1) (rd l1 0) ah ak aj ai af 0) else (none)))) else (none)) else (if 0 < (l1.length : Int) then (if 1 ≤ (l1.length : Int) then (some (rd l1 0, ([] : List (S51)), (l1.drop 1), true)) else (none)) else (none))))
end
theorem bJ.iH : ∀ k, (∀ y0 y1 y2 y3 y4 y5, LeO (bJ.f k y0 y1 y2 y3 y4 y5) (bJ.f (k + 1) y0 y1 y2 y3 y4 y5)) ∧ (∀ y0 y1 y2 y3 y4 y5 y6 y7, LeO (bJ.j0 k y0 y1 y2 y3 y4 y5 y6 y7) (bJ.j0 (k + 1) y0 y1 y2 y3 y4 y5 y6 y7)) ∧ (∀ y0 y1 y2 y3 y4 y5 y6 y7 y8 y9 y10, LeO (bJ.l0 k y0 y1 y2 y3 y4 y5 y6 y7 y8 y9 y10) (bJ.l0 (k + 1) y0 y1 y2 y3 y4 y5 y6 y7 y8 y9 y10))
 | 0 => ⟨fun _ _ _ _ _ _ r h => by simp [bJ.f] at h, fun _ _ _ _ _ _ _ _ r h => by simp [bJ.j0] at h, fun _ _ _ _ _ _ _ _ _ _ _ r h => by simp [bJ.l0] at h⟩
 | k + 1 => by
  obtain ⟨ih0, ih1, ih2⟩ := bJ.iH k; refine ⟨?_, ?_, ?_⟩
  ·intro y0 y1 y2 y3 y4 y5; unfold bJ.f; exact mo_
  ·intro y0 y1 y2 y3 y4 y5 y6 y7; unfold bJ.j0; repeat' (with_reducible exact ih2 _ _ _ _ _ _ _ _ _ _ _)
  ·intro y0 y1 y2 y3 y4 y5 y6 y7 y8 y9 y10; unfold bJ.l0; exact mo_
theorem bJ.mono : ∀ a0 a1 a2 a3 a4 a5 k, LeO (bJ.f k a0 a1 a2 a3 a4 a5) (bJ.f (k + 1) a0 a1 a2 a3 a4 a5) := by
 intro a0 a1 a2 a3 a4 a5 k; obtain ⟨ih0, ih1, ih2⟩ := bJ.iH k; exact ih0 a0 a1 a2 a3 a4 a5
def bJ.T6 : Bool × List (List Nat × List Nat) := (true, [([], []), ([0], [0]), ([1], [1]), ([2], [2]), ([], []), ([4], [4]), ([3, 0, 1, 2, 3], [3]), ([5, 6, 0, 1, 2, 3, 4, 5, 6], [5]), ([7, 0, 1, 2, 3, 4, 5, 6, 7], [])])
def bJ.B6 : List Nat := [0, 1, 3, 7, 0, 16, 15, 127, 255]
theorem bJ.tab6 : jX .any (opsOf Tryd.f77 6) = bJ.T6 := by kernel_rfl
theorem bJ.Nq : jK bJ.T6.2 bJ.B6 = true := by kernel_rfl
set_option maxHeartbeats 8000000 in
set_option maxRecDepth 100000 in
theorem bJ.calls (k : Nat) : ∀ (ah ak aj ai : Int) (lu : Nat → Prop) (aY : Option Addr) (aT : Nat) (af : List (S24)) (P1_ : Nat → Prop) (A1 : Option Addr) (c1 : Nat) (l1 : List Int) (r1 : Int) (r2 : List (S51)) (r3 : List Int) (r4 : Bool) (w : World) (hs0_4 : Kd.V k24 24 w w.heap.size (fun k_ => lu k_) (.slice aY af.length aT) af) (hs1 : Kd.V (Kd.int .i64) 3 w w.heap.size (fun k_ => P1_ k_) (.slice A1 l1.length c1) l1) (h : bJ.f k ah ak aj ai af l1 = some (r1, r2, r3, r4)),
  Calls Tryd.prog 77 #[.agg #[.int .i64 ah, .int .i64 ak, .int .i64 aj, .int .i64 ai, .slice aY af.length aT], .slice A1 l1.length c1] w fun e w' => ∃ v1_ v2_ : Value, e = .returned (.tuple #[.agg #[.int .i64 r1, v1_], v2_, .bool r4]) ∧ Kd.R k51 51 w' w.heap.size (fun k_ => (w.heap.size ≤ k_)) v1_ r2 ∧ Kd.V (Kd.int .i64) 3 w' w.heap.size (fun k_ => ((lu k_ ∨ P1_ k_) ∨ w.heap.size ≤ k_) ∧ some k_ ≠ (v1_ : Value).ownBlock) v2_ r3 ∧ Below w.heap.size w w' := by
 induction k using Nat.strongRecOn with
 | _ k ih =>
 intro ah ak aj ai lu aY aT af P1_ A1 c1 l1 r1 r2 r3 r4 w hs0_4 hs1 h; cases k with
 | zero => exact absurd h (by simp [bJ.f])
 | succ k =>
 simp only [bJ.f] at h; have ou := aa.mk (show Kd.V k24 24 w w.heap.size (fun k_ => ((lu k_ ∨ P1_ k_) ∨ w.heap.size ≤ k_)) (.slice aY af.length aT) af from Kd.eB hs0_4 (fun k_ hk => .inl (.inl hk))); have HO1 := aa.mk (show Kd.V (Kd.int .i64) 3 w w.heap.size (fun k_ => ((lu k_ ∨ P1_ k_) ∨ w.heap.size ≤ k_)) (.slice A1 l1.length c1) l1 from Kd.eB hs1 (fun k_ hk => .inl (.inr hk))); have HB := aa.mk (Below.refl w.heap.size w); have H := h; unfold bJ.f at H; clear h; by_cases c3 : (l1.length : Int) = 0
 ·rw [if_pos c3] at H; obtain ⟨kM, mF⟩ := bq_ c3; clear c3; simp only [Option.some.injEq, Prod.mk.injEq] at H; obtain ⟨rfl, rfl, rfl, rfl⟩ := H; go_enter Tryd.func77, Tryd.ntmps77; go_wp2_with (first | ((with_reducible refine aM (N := 2) rfl ?_); refine bx_ ((t5_ ah ak aj ai aY af.length aT)) 24 ?_; intro kH hg w4 _ _ HB hb; clear hb hg) | ((with_reducible refine aM (N := 4) rfl ?_); refine bx_ ((t2_ 0 none 0 0)) 51 ?_; intro fM hg w5 jQ GW850 HB hb; have GE850 := GW850; clear hb hg; obtain ⟨RL, hcz7_1, hfz7_0, hfz7_1⟩ := dS jQ.out))
  refine bodyPost_ret (qg rfl _ _ fM 51 (t2_ 0 none 0 0) (0, 0) _ rfl b5_ Tryd.underlying51 rfl (by kernel_rfl)) rfl ?_
  exact ⟨_, _, re_, by exact Kd.jy _ _ _ _ _, (by exact Kd.MK _ _ _ _ _), bl_⟩
 ·rw [if_neg c3] at H; obtain ⟨kM, mF⟩ := bn_ c3; have HC8 := aa.mk H; clear H; go_enter Tryd.func77, Tryd.ntmps77; go_upto_block 0 with (first | ((with_reducible refine aM (N := 2) rfl ?_); refine bx_ ((t5_ ah ak aj ai aY af.length aT)) 24 ?_; intro kH hg w9 lD _ HB hb; replace ou := aa.mk (Kd.gP (Kd.iw (pV_ ou.out) kH (Nat.le_of_eq hg.symm)) hb); replace HO1 := aa.mk (Kd.gP (Kd.iw (pV_ HO1.out) kH (Nat.le_of_eq hg.symm)) hb); clear hb hg) | ((with_reducible refine aM (N := 4) rfl ?_); refine bx_ ((t2_ 0 none 0 0)) 51 ?_; intro fM hg w10 jQ GW850 HB hb; have GE850 := GW850; have II := nl_ lD hg; have IJ := ng_ lD hg; replace ou := aa.mk (Kd.gP (Kd.iw (pV_ ou.out) fM (Nat.le_of_eq hg.symm)) hb); replace HO1 := aa.mk (Kd.gP (Kd.iw (pV_ HO1.out) fM (Nat.le_of_eq hg.symm)) hb); replace lD := kb_ lD hb; clear hb hg) | ((with_reducible refine aM (N := 7) rfl ?_); refine bx_ ((t2_ 0 none 0 0)) 51 ?_; intro iX hg w11 nO GW851 HB hb; have GE851 := GW851; have Q7 := nl_ lD hg; have YB := ng_ lD hg; have DL := nl_ jQ hg; have IK := ng_ jQ hg; replace ou := aa.mk (Kd.gP (Kd.iw (pV_ ou.out) iX (Nat.le_of_eq hg.symm)) hb); replace HO1 := aa.mk (Kd.gP (Kd.iw (pV_ HO1.out) iX (Nat.le_of_eq hg.symm)) hb); replace lD := kb_ lD hb; replace jQ := kb_ jQ hb; clear hb hg; have hnb12 := II.out; have hnc12 := IJ.out; have hnb13 := Q7.out; have hnc13 := YB.out; obtain ⟨uF, _, _, xN, xO, _, _, _, _, _⟩ := bE lD.out))
  go_cut [1, 8] (fun v1 v8 wc => ∃ (kq : Nat) (x1_7 : List Int) (x8_7 : Int) (IL : Int), v8 = .int .i64 x8_7 ∧ aa (bJ.j0 kq x1_7 x8_7 ah ak aj ai af 0 = some (r1, r2, r3, r4)) ∧ aa (kq ≤ k) ∧ aa (Kd.V (Kd.int .i64) 3 wc w.heap.size (fun k_ => ((lu k_ ∨ P1_ k_) ∨ w.heap.size ≤ k_) ∧ k_ ≠ kH ∧ k_ ≠ fM ∧ k_ ≠ iX) v1 x1_7) ∧ aa (Kd.V k24 24 wc w.heap.size (fun k_ => ((lu k_ ∨ P1_ k_) ∨ w.heap.size ≤ k_) ∧ k_ ≠ kH ∧ k_ ≠ fM ∧ k_ ≠ iX) (.slice aY af.length aT) af) ∧ aa (wc.heap[kH]? = some (.cells #[.int .i64 ah, .int .i64 ak, .int .i64 aj, .int .i64 ai, (.slice aY af.length aT)] 24 (0, 0))) ∧ aa (wc.heap[fM]? = some (.cells #[.int .i64 IL, (.slice none 0 0)] 51 (0, 0))) ∧ aa (wc.heap[iX]? = some (.cells #[.int .i64 0, (.slice none 0 0)] 51 (0, 0))) ∧ aa (Below w.heap.size w wc))
  case first =>
   have H := HC8.out; clear HC8; by_cases c15 : ah = 5
   ·rw [if_pos c15] at H; obtain ⟨Ag, MS⟩ := bq_ c15; clear c15; (skip); have H' := aa.mk H; clear H; go_wp2; go_meet
    case rel => exact ⟨_, (l1), ((af.length : Int)), (0), rs_, H', ⟨by omega⟩, ⟨by exact Kd.eB HO1.out (fun _ hk => ⟨hk.1.1.1, ⟨hk.1.1.2, ⟨hk.1.2, hk.2⟩⟩⟩)⟩, ⟨by exact Kd.eB ou.out (fun _ hk => ⟨hk.1.1.1, ⟨hk.1.1.2, ⟨hk.1.2, hk.2⟩⟩⟩)⟩, ⟨bk_⟩, ⟨bk_⟩, ⟨bk_⟩, ⟨bl_⟩⟩
   ·rw [if_neg c15] at H; obtain ⟨Ag, MS⟩ := bn_ c15; (skip); by_cases c19 : ah = 6
    ·rw [if_pos c19] at H; obtain ⟨GH, M7⟩ := bq_ c19; clear c19; by_cases c20 : 0 < (l1.length : Int)
     ·rw [if_pos c20] at H; have wR := decide_eq_true c20; clear c20; by_cases c21 : (rd l1 0) < 0
      ·rw [if_pos c21] at H; have uQ := decide_eq_true c21; clear c21; simp only [Option.some.injEq, Prod.mk.injEq] at H; obtain ⟨rfl, rfl, rfl, rfl⟩ := H; have p852 : 0 ≤ (0 : Int) := (by omega); have q852 : 0 < (l1.length : Int) := dt_; obtain ⟨Ku, e852, xX⟩ := Kd.gz (Kd.kZ HO1.out).2.2 0 p852 q852; cases e852; have qi852 : (0 < l1.length) = True := eq_true (by omega); (try rw [show ((0 : Int)).toNat = 0 from rfl] at xX); (try rw [Addr.add_zero'] at xX)
       obtain ⟨BU, BV, Ww, Wx⟩ := dS jQ.out; go_wp2; refine bodyPost_ret (qg rfl _ _ fM 51 (t2_ 0 none 0 0) (0, 0) _ rfl b5_ Tryd.underlying51 rfl (by kernel_rfl)) rfl ?_
       exact ⟨_, _, re_, by exact Kd.jy _ _ _ _ _, (by exact Kd.MK _ _ _ _ _), bl_⟩
      ·rw [if_neg c21] at H; have uQ := decide_eq_false c21; clear c21; by_cases c25 : (rd l1 0) > ai
       ·rw [if_pos c25] at H; have MX : decide (ai < (rd l1 0)) = true := decide_eq_true c25; clear c25; simp only [Option.some.injEq, Prod.mk.injEq] at H; obtain ⟨rfl, rfl, rfl, rfl⟩ := H; have p852 : 0 ≤ (0 : Int) := (by omega); have q852 : 0 < (l1.length : Int) := dt_; obtain ⟨Ku, e852, xX⟩ := Kd.gz (Kd.kZ HO1.out).2.2 0 p852 q852; cases e852; have qi852 : (0 < l1.length) = True := eq_true (by omega); (try rw [show ((0 : Int)).toNat = 0 from rfl] at xX); (try rw [Addr.add_zero'] at xX)
        obtain ⟨zh, zi, hfz30_0, hfz30_1⟩ := dS jQ.out; go_wp2; refine bodyPost_ret (qg rfl _ _ fM 51 (t2_ 0 none 0 0) (0, 0) _ rfl b5_ Tryd.underlying51 rfl (by kernel_rfl)) rfl ?_
        exact ⟨_, _, re_, by exact Kd.jy _ _ _ _ _, (by exact Kd.MK _ _ _ _ _), bl_⟩
       ·rw [if_neg c25] at H; have MX : decide (ai < (rd l1 0)) = false := decide_eq_false c25; clear c25; by_cases c31 : 1 ≤ (l1.length : Int)
        ·rw [if_pos c31] at H; have c31b1 := decide_eq_true c31; clear c31; generalize hy853 : (l1.drop 1) = y853 at H; replace hy853 := hy853.symm; have Ny853 := aa.mk hy853; clear hy853; have H' := aa.mk H; clear H; have p852 : 0 ≤ (0 : Int) := (by omega); have q852 : 0 < (l1.length : Int) := dt_; obtain ⟨Ku, e852, xX⟩ := Kd.gz (Kd.kZ HO1.out).2.2 0 p852 q852; cases e852; have qi852 : (0 < l1.length) = True := eq_true (by omega); (try rw [show ((0 : Int)).toNat = 0 from rfl] at xX); (try rw [Addr.add_zero'] at xX)
         have q35 : (1 : Int) ≤ ((l1.length : Int) : Int) := dt_; obtain ⟨i035, hi035, _, hsz35, _⟩ := info_parts info3; have Qh : l1.length ≤ c1 := (Kd.kZ HO1.out).2.1; have hC35 : Kd.F (Kd.int .i64) _ _ (some Ku) l1.length l1 := (Kd.V_at (base := w.heap.size) HO1.out).2.2; have hcut35 := yY (P := Tryd.prog) 29 3 .i64 Tryd.underlying29 hi035 1 hsz35 (some Ku) l1.length c1 1 (by omega) q35; have hr35 := Kd.Jr (m := (1 : Int).toNat) (c := c1) hC35 (by omega) Qh; obtain ⟨A35, hA35⟩ : ∃ A9_, A9_ = (if c1 = (1 : Int).toNat then (some Ku) else ((some Ku) : Option Addr).map (·.add ((1 : Int).toNat * 1))) := ⟨_, rfl⟩; obtain ⟨c35, hc35⟩ : ∃ c9_, c9_ = c1 - (1 : Int).toNat := ⟨_, rfl⟩; have hy35 : y853.length = l1.length - (1 : Int).toNat := (by rw [Ny853.out, List.length_drop] <;> omega); rw [show (l1).drop (1 : Int).toNat = y853 from Ny853.out.symm] at hr35; replace hr35 : Kd.F (Kd.int .i64) _ _ A35 y853.length y853 := (by rw [hA35]; exact hr35); rw [← hy35, ← hA35, ← hc35] at hcut35; have HO857 := aa.mk (show Kd.V (Kd.int .i64) 3 _ w.heap.size _ (.slice A35 y853.length c35) y853 from Kd.uV (by rw [hy35, hc35]; exact Nat.sub_le_sub_right Qh _) hr35); clear hr35 hC35 Qh hi035 hsz35 hc35; clear hy35 hA35; go_wp2; go_meet
         case rel => exact ⟨_, (y853), (rd l1 0), (0), rs_, H', ⟨by omega⟩, ⟨by exact Kd.eB HO857.out (fun _ hk => ⟨hk.1.1.1, ⟨hk.1.1.2, ⟨hk.1.2, hk.2⟩⟩⟩)⟩, ⟨by exact Kd.eB ou.out (fun _ hk => ⟨hk.1.1.1, ⟨hk.1.1.2, ⟨hk.1.2, hk.2⟩⟩⟩)⟩, ⟨bk_⟩, ⟨bk_⟩, ⟨bk_⟩, ⟨bl_⟩⟩
        ·rw [if_neg c31] at H; exact absurd H (by simp)
     ·rw [if_neg c20] at H; exact absurd H (by simp)
    ·rw [if_neg c19] at H; obtain ⟨GH, M7⟩ := bn_ c19; by_cases c36 : 0 < (l1.length : Int)
     ·rw [if_pos c36] at H; have GI := decide_eq_true c36; clear c36; by_cases c37 : 1 ≤ (l1.length : Int)
      ·rw [if_pos c37] at H; have c37b1 := decide_eq_true c37; clear c37; generalize hy859 : (l1.drop 1) = y859 at H; replace hy859 := hy859.symm; have Ny859 := aa.mk hy859; clear hy859; simp only [Option.some.injEq, Prod.mk.injEq] at H; obtain ⟨rfl, rfl, rfl, rfl⟩ := H; try go_wp2
       replace HO1 := aa.mk (Kd.Ez HO1.out); replace jQ := aa.mk (dz jQ.out); replace HB := aa.mk (eX HB.out); have p858 : 0 ≤ (0 : Int) := (by omega); have q858 : 0 < (l1.length : Int) := dt_; obtain ⟨Nr, e858, Kv⟩ := Kd.gz (Kd.kZ HO1.out).2.2 0 p858 q858; cases e858; have qi858 : (0 < l1.length) = True := eq_true (by omega); (try rw [show ((0 : Int)).toNat = 0 from rfl] at Kv); (try rw [Addr.add_zero'] at Kv)
       have q39 : (1 : Int) ≤ ((l1.length : Int) : Int) := dt_; obtain ⟨i039, hi039, _, hsz39, _⟩ := info_parts info3; have Qi : l1.length ≤ c1 := (Kd.kZ HO1.out).2.1; have hC39 : Kd.F (Kd.int .i64) _ _ (some Nr) l1.length l1 := (Kd.V_at (base := w.heap.size) HO1.out).2.2; have hcut39 := yY (P := Tryd.prog) 29 3 .i64 Tryd.underlying29 hi039 1 hsz39 (some Nr) l1.length c1 1 (by omega) q39; have hr39 := Kd.Jr (m := (1 : Int).toNat) (c := c1) hC39 (by omega) Qi; obtain ⟨A39, hA39⟩ : ∃ A9_, A9_ = (if c1 = (1 : Int).toNat then (some Nr) else ((some Nr) : Option Addr).map (·.add ((1 : Int).toNat * 1))) := ⟨_, rfl⟩; obtain ⟨c39, hc39⟩ : ∃ c9_, c9_ = c1 - (1 : Int).toNat := ⟨_, rfl⟩; have hy39 : y859.length = l1.length - (1 : Int).toNat := (by rw [Ny859.out, List.length_drop] <;> omega); rw [show (l1).drop (1 : Int).toNat = y859 from Ny859.out.symm] at hr39; replace hr39 : Kd.F (Kd.int .i64) _ _ A39 y859.length y859 := (by rw [hA39]; exact hr39); rw [← hy39, ← hA39, ← hc39] at hcut39; have HO863 := aa.mk (show Kd.V (Kd.int .i64) 3 _ w.heap.size _ (.slice A39 y859.length c39) y859 from Kd.uV (by rw [hy39, hc39]; exact Nat.sub_le_sub_right Qi _) hr39); clear hr39 hC39 Qi hi039 hsz39 hc39; clear hy39 hA39; refine kL (n := 9) (S := fun w' => w'.cell? Nr = some (.int .i64 (rd l1 0))) (ds := []) #[false, false, false, false, false, false, false, false, false] (by kernel_rfl) rfl rfl (Kv) (fun hHeld => ?_); refine iG bJ.tab6 bJ.Nq (fun HT_ HW_ => ?_)
       generalize w11.drew = w38 at ou HO1 lD jQ nO HB HO863 Kv hHeld ⊢
       refine pu_ HT_ 0 20 (bm 9 1) ?_
       refine pu_ HT_ 1 21 (bm 9 3) ?_
       refine pu_ HT_ 4 24 (bm 9 19) ?_
       refine pu_ HT_ 5 25 (bm 9 51) ?_
       refine Jm (i := 2) (N := some 22) (v := ?_) (a' := ?_) #[true, true, true, false, true, true, false, false, false] rfl rfl (LM HT_.out HW_.out (by kernel_rfl)) (fun _ _ _ h => h) (Or.inl ⟨by rfl, ?_⟩) hHeld ?_ ?_
       rotate_left
       ·intro w' s0; go_simp; with_reducible rfl
       rotate_left
       ·simp only [Act.put, List.setIfInBounds_toArray, List.set_cons_zero, List.set_cons_succ, gM, iE]; rfl
       refine pu_ HT_ 3 23 (bm 9 63) ?_
       refine jW (i := 6) (N := none) #[true, true, true, true, true, true, true, false, false] rfl rfl (fB HT_.out (by kernel_rfl)) (by decide) (fun K hK => ?_)
       have hs40 : w38.cell? ⟨fM, 0, none⟩ = some (.int .i64 0) := ci_ jQ; have hfs40 := fF jQ.out 0; have hns40_0 := II.out; have hns40_2 := IK.out; have hms40_0 := IJ.out; have hms40_2 := DL.out; have hs41 : w38.cell? ⟨fM, 1, none⟩ = some (.slice none 0 0) := ci_ jQ; have hfs41 := fF jQ.out 1; have hns41_0 := II.out; have hns41_2 := IK.out; have hms41_0 := IJ.out; have hms41_2 := DL.out; refine qB (w1 := ?_) (by rfl) rfl ?_ ?_
       rotate_left
       ·go_simp; rfl
       refine hK.out _ _ (((cell_far (p := ⟨fM, _, none⟩) (by exact Kd.Es (Kd.MN HO1.out (fun _ hk => hk.1.2))) _).trans (((cell_far (p := ⟨fM, _, none⟩) (by exact Kd.Es (Kd.MN HO1.out (fun _ hk => hk.1.2))) _).trans (hHeld))))) (fun hHeld => ?_)
       clear hK K; refine pu_ HT_ 7 5 (bm 9 255) ?_
       refine pu_ HT_ 8 6 #[true, true, true, true, true, true, true, true, true] ?_
       refine mH (jT HT_.out (by kernel_rfl)) ?_
       try go_wp2
       refine bodyPost_ret (qg rfl _ _ fM 51 (t2_ (rd l1 0) none 0 0) (0, 0) _ rfl b5_ Tryd.underlying51 rfl (by kernel_rfl)) rfl ?_
       exact ⟨_, _, re_, by exact Kd.jy _ _ _ _ _, by exact Kd.eB (Kd.jk (p := ⟨fM, 1, none⟩) (Kd.jk (p := ⟨fM, 0, none⟩) (Kd.eB HO863.out (fun k_ hk => (⟨hk, by exact hk.1.2⟩ : _ ∧ k_ ≠ fM))) (fun _ hk => hk.2) (.int .i64 (rd l1 0))) (fun _ hk => hk.2) (.slice none 0 0)) (fun _ hk => ⟨hk.1.1.1.1, (by simp [Value.ownBlock])⟩), bl_⟩
      ·rw [if_neg c37] at H; exact absurd H (by simp)
     ·rw [if_neg c36] at H; exact absurd H (by simp)
  case rest =>
   clear HC8; obtain ⟨kq, x1_7, x8_7, IL, rfl, HA, HJ7, gD, jN, lD, jQ, nO, HB⟩ := hcut; cases kq with
   | zero => exact absurd HA.out (by simp [bJ.j0])
   | succ kj7 =>
    have H := HA.out; clear HA; simp only [bJ.j0] at H; have H' := aa.mk H; clear H; go_wp2; go_loopg [1, 48] kj7 (fun kq v1 v48 w' => ∃ (rM : List Int) (Bz : Int) (nX : Int) (mJ : List (S51)) (iU : Value), v48 = .int .i64 Bz ∧ aa (bJ.l0 kq rM x8_7 x8_7 Bz ah ak aj ai af 0 mJ = some (r1, r2, r3, r4)) ∧ aa (kq ≤ kj7) ∧ aa (Kd.V (Kd.int .i64) 3 w' w.heap.size (fun k_ => ((lu k_ ∨ P1_ k_) ∨ w.heap.size ≤ k_) ∧ some k_ ≠ (iU : Value).ownBlock ∧ k_ ≠ kH ∧ k_ ≠ fM ∧ k_ ≠ iX) v1 rM) ∧ aa (Kd.V k24 24 w' w.heap.size (fun k_ => ((lu k_ ∨ P1_ k_) ∨ w.heap.size ≤ k_) ∧ some k_ ≠ (iU : Value).ownBlock ∧ k_ ≠ kH ∧ k_ ≠ fM ∧ k_ ≠ iX) (.slice aY af.length aT) af) ∧ aa (Kd.R k51 51 w' w.heap.size (fun k_ => (w.heap.size ≤ k_) ∧ k_ ≠ fM ∧ k_ ≠ iX) iU mJ) ∧ aa (w'.heap[kH]? = some (.cells #[.int .i64 ah, .int .i64 ak, .int .i64 aj, .int .i64 ai, (.slice aY af.length aT)] 24 (0, 0))) ∧ aa (w'.heap[fM]? = some (.cells #[.int .i64 nX, (.slice none 0 0)] 51 (0, 0))) ∧ aa (w'.heap[iX]? = some (.cells #[.int .i64 0, iU] 51 (0, 0))) ∧ aa (Below w.heap.size w w'))
    case atStart => exact ⟨(x1_7), (0), (IL), (([] : List (S51))), (.slice none 0 0), rs_, H', ⟨Nat.le_refl _⟩, ⟨by exact Kd.eB gD.out (fun _ hk => ⟨hk.1, ⟨(by simp [Value.ownBlock]), ⟨hk.2.1, ⟨hk.2.2.1, hk.2.2.2⟩⟩⟩⟩)⟩, ⟨by exact Kd.eB jN.out (fun _ hk => ⟨hk.1, ⟨(by simp [Value.ownBlock]), ⟨hk.2.1, ⟨hk.2.2.1, hk.2.2.2⟩⟩⟩⟩)⟩, ⟨by exact Kd.jy _ _ _ _ _⟩, ⟨bk_⟩, ⟨bk_⟩, ⟨bk_⟩, ⟨bl_⟩⟩
    case round =>
     clear H'; obtain ⟨rM, Bz, nX, mJ, iU, rfl, HA, HK2, gD, jN, ib, lD, jQ, nO, HB⟩ := hrel; cases gk with
     | zero => exact absurd HA.out (by simp [bJ.l0])
     | succ k2 =>
      have H := HA.out; clear HA; simp only [bJ.l0] at H; by_cases c42 : Bz < x8_7
      ·rw [if_pos c42] at H; have c42b0 := decide_eq_true c42; clear c42; replace H := Option.bind_eq_some_iff.mp H; obtain ⟨⟨t864, t865, t866, t867, t868⟩, A430, H⟩ := H; (try dsimp only at H); have A43 := aa.mk A430; clear A430; replace H := Option.bind_eq_some_iff.mp H; obtain ⟨⟨xn, o7, t875, t878⟩, A440, H⟩ := H; (try dsimp only at H); have A44 := aa.mk A440; clear A440; by_cases c45 : t878 = true
       ·subst c45; rw [if_pos rfl] at H; by_cases c46 : mJ.length < 4398046511104
        ·rw [if_pos c46] at H; have LMc46 := aa.mk c46; clear c46; generalize hy880 : (mJ ++ [(⟨xn, o7⟩ : S51)]) = y880 at H; replace hy880 := hy880.symm; have Ny880 := aa.mk hy880; clear hy880; have H' := aa.mk H; clear H; obtain ⟨hcz49_0, hcz49_1, hcz49_2, hcz49_3, hcz49_4, _, _, _, _, _⟩ := bE lD.out; go_wp2_with (first | ((with_reducible refine ay (f := 81) rfl ?_); refine gl_ (some 54) Tryd.func81 #[.agg (t5_ ah ak aj ai aY af.length aT), .int .i64 Bz] ?_; (with_reducible refine (jH.calls ah ak aj ai (fun k_ => (((lu k_ ∨ P1_ k_) ∨ w.heap.size ≤ k_) ∧ (some k_ ≠ (iU : Value).ownBlock ∧ (k_ ≠ kH ∧ (k_ ≠ fM ∧ k_ ≠ iX))))) _ _ af Bz t864 t865 t866 t867 t868 _ ?au A43.out).mono ?_); (case au => exact jN.out); rintro e w50 ⟨v869, rfl, ho0, hb⟩; refine ⟨_, rfl, ?_⟩; have rq := aa.mk (Kd.rV (Kd.eB (ok' := fun k_ => ((lu k_ ∨ P1_ k_) ∨ w.heap.size ≤ k_) ∧ some k_ ≠ (iU : Value).ownBlock ∧ k_ ≠ kH ∧ k_ ≠ fM ∧ k_ ≠ iX) ho0 (fun k_ hk_ => ⟨Or.elim hk_ (fun hs_ => hs_.1) (fun hn_ => (.inr (Nat.le_trans (aI bl_) hn_))), Or.elim hk_ (fun hs_ => hs_.2.1) (fun hn_ => (Kd.fresh' (Kd.fK (pR_ ib.out)) k_ hn_)), Or.elim hk_ (fun hs_ => hs_.2.2.1) (fun hn_ => (Kd.fo (g := kH) (o := .cells (t5_ ah ak aj ai aY af.length aT) 24 (0, 0)) bk_ k_ hn_)), Or.elim hk_ (fun hs_ => hs_.2.2.2.1) (fun hn_ => (Kd.fo (g := fM) (o := .cells (t2_ nX none 0 0) 51 (0, 0)) bk_ k_ hn_)), Or.elim hk_ (fun hs_ => hs_.2.2.2.2) (fun hn_ => (Kd.fo (g := iX) (o := .cells #[.int .i64 0, iU] 51 (0, 0)) bk_ k_ hn_))⟩)) (aI bl_)); replace gD := aa.mk (Kd.gP (pV_ gD.out) hb); replace jN := aa.mk (Kd.gP (pV_ jN.out) hb); replace ib := aa.mk (Kd.dH (pR_ ib.out) hb); replace lD := kb_ lD hb; replace jQ := kb_ jQ hb; replace nO := kb_ nO hb; replace HB := aa.mk (ax bl_ hb); obtain ⟨Ao51, co51, eo51⟩ := Kd.uA rq.out; subst eo51; obtain ⟨Ao52, co52, eo52⟩ := Kd.uA gD.out; subst eo52) | ((with_reducible refine ay (f := 77) rfl ?_); refine gl_ (some 56) Tryd.func77 #[.agg (t5_ t864 t865 t866 t867 Ao51 t868.length co51), .slice Ao52 rM.length co52] ?_; (with_reducible refine (ih k2 (by have := HJ7.out; have := HK2.out; omega) t864 t865 t866 t867 (fun k_ => (((lu k_ ∨ P1_ k_) ∨ w.heap.size ≤ k_) ∧ (some k_ ≠ (iU : Value).ownBlock ∧ (k_ ≠ kH ∧ (k_ ≠ fM ∧ k_ ≠ iX))))) _ _ t868 (fun k_ => (((lu k_ ∨ P1_ k_) ∨ w.heap.size ≤ k_) ∧ (some k_ ≠ (iU : Value).ownBlock ∧ (k_ ≠ kH ∧ (k_ ≠ fM ∧ k_ ≠ iX))))) _ _ rM xn o7 t875 true _ ?au ?av A44.out).mono ?_); (case au => exact rq.out); (case av => exact gD.out); rintro e w53 ⟨v873, v876, rfl, ho0, ho1, hb⟩; refine ⟨_, rfl, ?_⟩; have yz := aa.mk (Kd.bN (Kd.iY (Kd.iY (Kd.eG (Kd.CF (M := fun k_ => (w.heap.size ≤ k_)) (Kd.aX (ok' := fun k_ => True) ho0 (fun _ hk_ => trivial)) (aI bl_) (fun k_ h_ => h_)) (Kd.fK (pR_ ib.out))) (g := fM) (o := .cells (t2_ nX none 0 0) 51 (0, 0)) bk_) (g := iX) (o := .cells #[.int .i64 0, iU] 51 (0, 0)) bk_) (aI bl_)); have Al := aa.mk (Kd.rV (Kd.eB (ok' := fun k_ => ((lu k_ ∨ P1_ k_) ∨ w.heap.size ≤ k_) ∧ some k_ ≠ (v873 : Value).ownBlock ∧ some k_ ≠ (iU : Value).ownBlock ∧ k_ ≠ kH ∧ k_ ≠ fM ∧ k_ ≠ iX) ho1 (fun k_ hk_ => ⟨Or.elim hk_.1 (fun hs_ => Or.elim hs_ (fun hs_ => hs_.1) (fun hs_ => hs_.1)) (fun hn_ => (.inr (Nat.le_trans (aI bl_) hn_))), hk_.2, Or.elim hk_.1 (fun hs_ => Or.elim hs_ (fun hs_ => hs_.2.1) (fun hs_ => hs_.2.1)) (fun hn_ => (Kd.fresh' (Kd.fK (pR_ ib.out)) k_ hn_)), Or.elim hk_.1 (fun hs_ => Or.elim hs_ (fun hs_ => hs_.2.2.1) (fun hs_ => hs_.2.2.1)) (fun hn_ => (Kd.fo (g := kH) (o := .cells (t5_ ah ak aj ai aY af.length aT) 24 (0, 0)) bk_ k_ hn_)), Or.elim hk_.1 (fun hs_ => Or.elim hs_ (fun hs_ => hs_.2.2.2.1) (fun hs_ => hs_.2.2.2.1)) (fun hn_ => (Kd.fo (g := fM) (o := .cells (t2_ nX none 0 0) 51 (0, 0)) bk_ k_ hn_)), Or.elim hk_.1 (fun hs_ => Or.elim hs_ (fun hs_ => hs_.2.2.2.2) (fun hs_ => hs_.2.2.2.2)) (fun hn_ => (Kd.fo (g := iX) (o := .cells #[.int .i64 0, iU] 51 (0, 0)) bk_ k_ hn_))⟩)) (aI bl_)); replace gD := aa.mk (Kd.tN (pV_ gD.out) (Kd.dI ho0) hb); replace jN := aa.mk (Kd.tN (pV_ jN.out) (Kd.dI ho0) hb); replace ib := aa.mk (Kd.fI (pR_ ib.out) (Kd.dI ho0) hb); replace rq := aa.mk (Kd.tN (pV_ rq.out) (Kd.dI ho0) hb); replace lD := kb_ lD hb; replace jQ := kb_ jQ hb; replace nO := kb_ nO hb; replace HB := aa.mk (ax bl_ hb)) | ((with_reducible refine aM (N := 10) rfl ?_); refine bx_ ((t2_ 0 none 0 0)) 51 ?_; intro iQ hg w54 Ns GW879 HB hb; have GE879 := GW879; have NB849_879 := nl_ lD hg; have Q8 := nl_ jQ hg; have Q9 := nl_ nO hg; replace gD := aa.mk (Kd.gP (Kd.iw (pV_ gD.out) iQ (Nat.le_of_eq hg.symm)) hb); replace jN := aa.mk (Kd.gP (Kd.iw (pV_ jN.out) iQ (Nat.le_of_eq hg.symm)) hb); replace ib := aa.mk (Kd.dH (Kd.lU (pR_ ib.out) iQ (Nat.le_of_eq hg.symm)) hb); replace rq := aa.mk (Kd.gP (Kd.iw (pV_ rq.out) iQ (Nat.le_of_eq hg.symm)) hb); replace yz := aa.mk (Kd.dH (Kd.lU (pR_ yz.out) iQ (Nat.le_of_eq hg.symm)) hb); replace Al := aa.mk (Kd.gP (Kd.iw (pV_ Al.out) iQ (Nat.le_of_eq hg.symm)) hb); replace lD := kb_ lD hb; replace jQ := kb_ jQ hb; replace nO := kb_ nO hb; clear hb hg; obtain ⟨hcz58_0, hcz58_1, hfz58_0, hfz58_1⟩ := dS Ns.out; obtain ⟨sQ, sS, eo59⟩ := Kd.bF yz.out; subst eo59) | ((with_reducible refine tH (t := 51) (p := 10) rfl ?_); refine rG (t := 51) (p := 10) (v := ?vo_w60) (w1 := ((w54.setCell ⟨iQ, 0, none⟩ (.int .i64 xn)).setCell ⟨iQ, 1, none⟩ (.slice sQ o7.length sS))) ?hg ?ho ?hn ?hr ?_; (case ho => rfl); (case hg => rfl); (case hn => rfl); (case hr => (go_simp; done)); intro w60 hw; replace gD : aa (Kd.V (Kd.int .i64) 3 w60 w.heap.size (fun k_ => ((lu k_ ∨ P1_ k_) ∨ w.heap.size ≤ k_) ∧ some k_ ≠ (iU : Value).ownBlock ∧ some k_ ≠ (.slice sQ o7.length sS : Value).ownBlock ∧ k_ ≠ kH ∧ k_ ≠ fM ∧ k_ ≠ iX ∧ k_ ≠ iQ) (.slice Ao52 rM.length co52) rM) := ⟨(by rw [hw]; exact (by exact Kd.eB (Kd.jk (p := ⟨iQ, 1, none⟩) (Kd.jk (p := ⟨iQ, 0, none⟩) (Kd.eB gD.out (fun k_ hk => (⟨hk, by exact hk.2⟩ : _ ∧ k_ ≠ iQ))) (fun _ hk => hk.2) (.int .i64 xn)) (fun _ hk => hk.2) (.slice sQ o7.length sS)) (fun _ hk => ⟨hk.1.1.1.1, ⟨hk.1.1.1.2.1, ⟨hk.1.1.2, ⟨hk.1.1.1.2.2.1, ⟨hk.1.1.1.2.2.2.1, ⟨hk.1.1.1.2.2.2.2, hk.1.2⟩⟩⟩⟩⟩⟩)))⟩; replace jN : aa (Kd.V k24 24 w60 w.heap.size (fun k_ => ((lu k_ ∨ P1_ k_) ∨ w.heap.size ≤ k_) ∧ some k_ ≠ (iU : Value).ownBlock ∧ some k_ ≠ (.slice sQ o7.length sS : Value).ownBlock ∧ k_ ≠ kH ∧ k_ ≠ fM ∧ k_ ≠ iX ∧ k_ ≠ iQ) (.slice aY af.length aT) af) := ⟨(by rw [hw]; exact (by exact Kd.eB (Kd.jk (p := ⟨iQ, 1, none⟩) (Kd.jk (p := ⟨iQ, 0, none⟩) (Kd.eB jN.out (fun k_ hk => (⟨hk, by exact hk.2⟩ : _ ∧ k_ ≠ iQ))) (fun _ hk => hk.2) (.int .i64 xn)) (fun _ hk => hk.2) (.slice sQ o7.length sS)) (fun _ hk => ⟨hk.1.1.1.1, ⟨hk.1.1.1.2.1, ⟨hk.1.1.2, ⟨hk.1.1.1.2.2.1, ⟨hk.1.1.1.2.2.2.1, ⟨hk.1.1.1.2.2.2.2, hk.1.2⟩⟩⟩⟩⟩⟩)))⟩; replace ib : aa (Kd.R k51 51 w60 w.heap.size (fun k_ => (w.heap.size ≤ k_) ∧ some k_ ≠ (.slice sQ o7.length sS : Value).ownBlock ∧ k_ ≠ fM ∧ k_ ≠ iX ∧ k_ ≠ iQ) iU mJ) := ⟨(by rw [hw]; exact (by exact Kd.aX (Kd.bL (p := ⟨iQ, 1, none⟩) (Kd.bL (p := ⟨iQ, 0, none⟩) (Kd.aX ib.out (fun k_ hk => (⟨hk, by exact hk.2⟩ : _ ∧ k_ ≠ iQ))) (fun _ hk => hk.2) (.int .i64 xn)) (fun _ hk => hk.2) (.slice sQ o7.length sS)) (fun _ hk => ⟨hk.1.1.1.1, ⟨hk.1.1.2, ⟨hk.1.1.1.2.1, ⟨hk.1.1.1.2.2, hk.1.2⟩⟩⟩⟩)))⟩; replace rq : aa (Kd.V k24 24 w60 w.heap.size (fun k_ => ((lu k_ ∨ P1_ k_) ∨ w.heap.size ≤ k_) ∧ some k_ ≠ (iU : Value).ownBlock ∧ some k_ ≠ (.slice sQ o7.length sS : Value).ownBlock ∧ k_ ≠ kH ∧ k_ ≠ fM ∧ k_ ≠ iX ∧ k_ ≠ iQ) (.slice Ao51 t868.length co51) t868) := ⟨(by rw [hw]; exact (by exact Kd.eB (Kd.jk (p := ⟨iQ, 1, none⟩) (Kd.jk (p := ⟨iQ, 0, none⟩) (Kd.eB rq.out (fun k_ hk => (⟨hk, by exact hk.2⟩ : _ ∧ k_ ≠ iQ))) (fun _ hk => hk.2) (.int .i64 xn)) (fun _ hk => hk.2) (.slice sQ o7.length sS)) (fun _ hk => ⟨hk.1.1.1.1, ⟨hk.1.1.1.2.1, ⟨hk.1.1.2, ⟨hk.1.1.1.2.2.1, ⟨hk.1.1.1.2.2.2.1, ⟨hk.1.1.1.2.2.2.2, hk.1.2⟩⟩⟩⟩⟩⟩)))⟩; replace yz : aa (Kd.R k51 51 w60 w.heap.size (fun k_ => (w.heap.size ≤ k_) ∧ some k_ ≠ (iU : Value).ownBlock ∧ k_ ≠ fM ∧ k_ ≠ iX ∧ k_ ≠ iQ) (.slice sQ o7.length sS) o7) := ⟨(by rw [hw]; exact (by exact Kd.aX (Kd.bL (p := ⟨iQ, 1, none⟩) (Kd.bL (p := ⟨iQ, 0, none⟩) (Kd.aX yz.out (fun k_ hk => (⟨hk, by exact hk.2⟩ : _ ∧ k_ ≠ iQ))) (fun _ hk => hk.2) (.int .i64 xn)) (fun _ hk => hk.2) (.slice sQ o7.length sS)) (fun _ hk => ⟨hk.1.1.1.1.1.1, ⟨hk.1.1.1.1.2, ⟨hk.1.1.1.2, ⟨hk.1.1.2, hk.1.2⟩⟩⟩⟩)))⟩; replace Al : aa (Kd.V (Kd.int .i64) 3 w60 w.heap.size (fun k_ => ((lu k_ ∨ P1_ k_) ∨ w.heap.size ≤ k_) ∧ some k_ ≠ (iU : Value).ownBlock ∧ some k_ ≠ (.slice sQ o7.length sS : Value).ownBlock ∧ k_ ≠ kH ∧ k_ ≠ fM ∧ k_ ≠ iX ∧ k_ ≠ iQ) v876 t875) := ⟨(by rw [hw]; exact (by exact Kd.eB (Kd.jk (p := ⟨iQ, 1, none⟩) (Kd.jk (p := ⟨iQ, 0, none⟩) (Kd.eB Al.out (fun k_ hk => (⟨hk, by exact hk.2⟩ : _ ∧ k_ ≠ iQ))) (fun _ hk => hk.2) (.int .i64 xn)) (fun _ hk => hk.2) (.slice sQ o7.length sS)) (fun _ hk => ⟨hk.1.1.1, ⟨hk.1.1.2.2.1, ⟨hk.1.1.2.1, ⟨hk.1.1.2.2.2.1, ⟨hk.1.1.2.2.2.2.1, ⟨hk.1.1.2.2.2.2.2, hk.1.2⟩⟩⟩⟩⟩⟩)))⟩; replace lD : aa (w60.heap[kH]? = some (.cells (t5_ ah ak aj ai aY af.length aT) 24 (0, 0))) := ⟨(by rw [hw]; exact b5_)⟩; replace jQ : aa (w60.heap[fM]? = some (.cells (t2_ nX none 0 0) 51 (0, 0))) := ⟨(by rw [hw]; exact b5_)⟩; replace nO : aa (w60.heap[iX]? = some (.cells #[.int .i64 0, iU] 51 (0, 0))) := ⟨(by rw [hw]; exact b5_)⟩; replace Ns : aa (w60.heap[iQ]? = some (.cells (t2_ xn sQ o7.length sS) 51 (0, 0))) := ⟨(by rw [hw]; exact b5_)⟩; replace HB : aa (Below w.heap.size w w60) := ⟨(by rw [hw]; exact bl_)⟩; clear hw; obtain ⟨_, hcz62_1, _, _⟩ := dS nO.out; obtain ⟨hcz63_0, hcz63_1, _, _⟩ := dS Ns.out) | ((with_reducible refine lC (b := .append) (xs := #[.tmp 64, .tmp 66]) rfl ?_); at_builtin; refine Kd.xe k51 (w0 := w) w.heap.size rfl (.tmp 64) (.tmp 66) 49 51 (.agg #[(.int .i64 0), (.slice none 0 0)]) 32 rfl Tryd.underlying49 yn rfl (by decide) (by omega) iU mJ (⟨xn, o7⟩ : S51) [.int .i64 xn, .slice sQ o7.length sS] (fun k_ => (w.heap.size ≤ k_) ∧ k_ ≠ fM ∧ k_ ≠ iX ∧ k_ ≠ iQ) (fun k_ => ((fun k_ => (w.heap.size ≤ k_) ∧ k_ ≠ fM ∧ k_ ≠ iX ∧ k_ ≠ iQ)) k_ ∧ some k_ ≠ (iU : Value).ownBlock) rfl rfl ?aP (fun _ hk => hk) ?aF ?aO ?aB ?aS ?aL ?_; (case aP => exact vL _ _ _ (⟨xn, o7⟩ : S51) (Kd.aX (yz.out) (fun k_ hk => ⟨⟨hk.1, ⟨hk.2.2.1, ⟨hk.2.2.2.1, hk.2.2.2.2⟩⟩⟩, hk.2.1⟩))); (case aB => exact bl_); (case aF => exact (fun k_ hk => ⟨(Nat.le_trans (aI bl_) hk), Kd.fo (g := fM) (o := .cells (t2_ nX none 0 0) 51 (0, 0)) bk_ k_ hk, Kd.fo (g := iX) (o := .cells #[.int .i64 0, iU] 51 (0, 0)) bk_ k_ hk, Kd.fo (g := iQ) (o := .cells (t2_ xn sQ o7.length sS) 51 (0, 0)) bk_ k_ hk⟩)); (case aO => exact (by exact Kd.aX ib.out (fun _ hk => ⟨hk.1, ⟨hk.2.2.1, ⟨hk.2.2.2.1, hk.2.2.2.2⟩⟩⟩))); (case aS => exact (aI bl_)); (case aL => have := LMc46.out; omega); intro v881 w64 ho hb hg hat; rw [← Ny880.out] at ho; have HO882 := aa.mk (ho); replace gD := aa.mk (Kd.xg (ok := (fun k_ => ((lu k_ ∨ P1_ k_) ∨ w.heap.size ≤ k_) ∧ some k_ ≠ (.slice sQ o7.length sS : Value).ownBlock ∧ k_ ≠ kH ∧ k_ ≠ fM ∧ k_ ≠ iX ∧ k_ ≠ iQ)) (by exact Kd.eB gD.out (fun _ hk => ⟨⟨hk.1, ⟨hk.2.2.1, ⟨hk.2.2.2.1, ⟨hk.2.2.2.2.1, ⟨hk.2.2.2.2.2.1, hk.2.2.2.2.2.2⟩⟩⟩⟩⟩, hk.2.1⟩)) hg hat); replace jN := aa.mk (Kd.xg (ok := (fun k_ => ((lu k_ ∨ P1_ k_) ∨ w.heap.size ≤ k_) ∧ some k_ ≠ (.slice sQ o7.length sS : Value).ownBlock ∧ k_ ≠ kH ∧ k_ ≠ fM ∧ k_ ≠ iX ∧ k_ ≠ iQ)) (by exact Kd.eB jN.out (fun _ hk => ⟨⟨hk.1, ⟨hk.2.2.1, ⟨hk.2.2.2.1, ⟨hk.2.2.2.2.1, ⟨hk.2.2.2.2.2.1, hk.2.2.2.2.2.2⟩⟩⟩⟩⟩, hk.2.1⟩)) hg hat); replace lD := aa.mk (eF (g := kH) (o := .cells (t5_ ah ak aj ai aY af.length aT) 24 (0, 0)) bk_ hg (Kd.nY ib.out lD.out (by decide))); replace jQ := aa.mk (eF (g := fM) (o := .cells (t2_ nX none 0 0) 51 (0, 0)) bk_ hg (Kd.pQ ib.out (fun _ hk => hk.2.2.1))); replace nO := aa.mk (eF (g := iX) (o := .cells #[.int .i64 0, iU] 51 (0, 0)) bk_ hg (Kd.pQ ib.out (fun _ hk => hk.2.2.2.1))); replace rq := aa.mk (Kd.xg (ok := (fun k_ => ((lu k_ ∨ P1_ k_) ∨ w.heap.size ≤ k_) ∧ some k_ ≠ (.slice sQ o7.length sS : Value).ownBlock ∧ k_ ≠ kH ∧ k_ ≠ fM ∧ k_ ≠ iX ∧ k_ ≠ iQ)) (by exact Kd.eB rq.out (fun _ hk => ⟨⟨hk.1, ⟨hk.2.2.1, ⟨hk.2.2.2.1, ⟨hk.2.2.2.2.1, ⟨hk.2.2.2.2.2.1, hk.2.2.2.2.2.2⟩⟩⟩⟩⟩, hk.2.1⟩)) hg hat); replace Al := aa.mk (Kd.xg (ok := (fun k_ => ((lu k_ ∨ P1_ k_) ∨ w.heap.size ≤ k_) ∧ some k_ ≠ (.slice sQ o7.length sS : Value).ownBlock ∧ k_ ≠ kH ∧ k_ ≠ fM ∧ k_ ≠ iX ∧ k_ ≠ iQ)) (by exact Kd.eB Al.out (fun _ hk => ⟨⟨hk.1, ⟨hk.2.2.1, ⟨hk.2.2.2.1, ⟨hk.2.2.2.2.1, ⟨hk.2.2.2.2.2.1, hk.2.2.2.2.2.2⟩⟩⟩⟩⟩, hk.2.1⟩)) hg hat); replace HB := aa.mk (hb); clear ib yz; clear ho hb hg hat; obtain ⟨AY, zI, eo65⟩ := Kd.bF HO882.out; subst eo65; obtain ⟨_, JW, _, hfz66_1⟩ := dS nO.out))
         go_roundg k2
         case measure => have := HJ7.out; have := HK2.out; omega
         case rel => exact ⟨(t875), (wrap64 (Bz + 1)), (nX), (y880), (.slice AY y880.length zI), rs_, H', ⟨by have := HJ7.out; have := HK2.out; omega⟩, ⟨by exact Kd.eB (Kd.jk (p := ⟨iX, 1, none⟩) (Kd.eB Al.out (fun k_ hk => (⟨hk, by exact hk.1.2.2.2.2.1⟩ : _ ∧ k_ ≠ iX))) (fun _ hk => hk.2) (.slice AY y880.length zI)) (fun _ hk => ⟨hk.1.1.1, ⟨hk.1.2, ⟨hk.1.1.2.2.1, ⟨hk.1.1.2.2.2.1, hk.1.1.2.2.2.2.1⟩⟩⟩⟩)⟩, ⟨by exact Kd.eB (Kd.jk (p := ⟨iX, 1, none⟩) (Kd.eB jN.out (fun k_ hk => (⟨hk, by exact hk.1.2.2.2.2.1⟩ : _ ∧ k_ ≠ iX))) (fun _ hk => hk.2) (.slice AY y880.length zI)) (fun _ hk => ⟨hk.1.1.1, ⟨hk.1.2, ⟨hk.1.1.2.2.1, ⟨hk.1.1.2.2.2.1, hk.1.1.2.2.2.2.1⟩⟩⟩⟩)⟩, ⟨by exact Kd.aX (Kd.bL (p := ⟨iX, 1, none⟩) (Kd.aX HO882.out (fun k_ hk => (⟨hk, by exact hk.2.2.1⟩ : _ ∧ k_ ≠ iX))) (fun _ hk => hk.2) (.slice AY y880.length zI)) (fun _ hk => ⟨hk.1.1, ⟨hk.1.2.1, hk.1.2.2.1⟩⟩)⟩, ⟨by refine bP ?_ Q7.out _; exact lD.out⟩, ⟨by refine bP ?_ DL.out _; exact jQ.out⟩, ⟨by refine eP (cs := #[.int .i64 0, iU]) ?_ 1 _ rfl; exact nO.out⟩, ⟨bl_⟩⟩
        ·rw [if_neg c46] at H; exact absurd H (by simp)
       ·replace c45 := Bool.eq_false_iff.mpr c45; subst c45; rw [if_neg (show ¬ (false = true) by decide)] at H; simp only [Option.some.injEq, Prod.mk.injEq] at H; obtain ⟨rfl, rfl, rfl, rfl⟩ := H; obtain ⟨Wy, Wz, hcz69_2, hcz69_3, hcz69_4, _, _, _, _, _⟩ := bE lD.out; go_wp2_with (first | ((with_reducible refine ay (f := 81) rfl ?_); refine gl_ (some 54) Tryd.func81 #[.agg (t5_ ah ak aj ai aY af.length aT), .int .i64 Bz] ?_; (with_reducible refine (jH.calls ah ak aj ai (fun k_ => (((lu k_ ∨ P1_ k_) ∨ w.heap.size ≤ k_) ∧ (some k_ ≠ (iU : Value).ownBlock ∧ (k_ ≠ kH ∧ (k_ ≠ fM ∧ k_ ≠ iX))))) _ _ af Bz t864 t865 t866 t867 t868 _ ?au A43.out).mono ?_); (case au => exact jN.out); rintro e w70 ⟨v869, rfl, ho0, hb⟩; refine ⟨_, rfl, ?_⟩; have rq := aa.mk (Kd.rV (Kd.eB (ok' := fun k_ => ((lu k_ ∨ P1_ k_) ∨ w.heap.size ≤ k_) ∧ some k_ ≠ (iU : Value).ownBlock ∧ k_ ≠ kH ∧ k_ ≠ fM ∧ k_ ≠ iX) ho0 (fun k_ hk_ => ⟨Or.elim hk_ (fun hs_ => hs_.1) (fun hn_ => (.inr (Nat.le_trans (aI bl_) hn_))), Or.elim hk_ (fun hs_ => hs_.2.1) (fun hn_ => (Kd.fresh' (Kd.fK (pR_ ib.out)) k_ hn_)), Or.elim hk_ (fun hs_ => hs_.2.2.1) (fun hn_ => (Kd.fo (g := kH) (o := .cells (t5_ ah ak aj ai aY af.length aT) 24 (0, 0)) bk_ k_ hn_)), Or.elim hk_ (fun hs_ => hs_.2.2.2.1) (fun hn_ => (Kd.fo (g := fM) (o := .cells (t2_ nX none 0 0) 51 (0, 0)) bk_ k_ hn_)), Or.elim hk_ (fun hs_ => hs_.2.2.2.2) (fun hn_ => (Kd.fo (g := iX) (o := .cells #[.int .i64 0, iU] 51 (0, 0)) bk_ k_ hn_))⟩)) (aI bl_)); replace gD := aa.mk (Kd.gP (pV_ gD.out) hb); replace jN := aa.mk (Kd.gP (pV_ jN.out) hb); replace ib := aa.mk (Kd.dH (pR_ ib.out) hb); replace lD := kb_ lD hb; replace jQ := kb_ jQ hb; replace nO := kb_ nO hb; replace HB := aa.mk (ax bl_ hb); obtain ⟨Ao71, co71, eo71⟩ := Kd.uA rq.out; subst eo71; obtain ⟨Ao72, co72, eo72⟩ := Kd.uA gD.out; subst eo72) | ((with_reducible refine ay (f := 77) rfl ?_); refine gl_ (some 56) Tryd.func77 #[.agg (t5_ t864 t865 t866 t867 Ao71 t868.length co71), .slice Ao72 rM.length co72] ?_; (with_reducible refine (ih k2 (by have := HJ7.out; have := HK2.out; omega) t864 t865 t866 t867 (fun k_ => (((lu k_ ∨ P1_ k_) ∨ w.heap.size ≤ k_) ∧ (some k_ ≠ (iU : Value).ownBlock ∧ (k_ ≠ kH ∧ (k_ ≠ fM ∧ k_ ≠ iX))))) _ _ t868 (fun k_ => (((lu k_ ∨ P1_ k_) ∨ w.heap.size ≤ k_) ∧ (some k_ ≠ (iU : Value).ownBlock ∧ (k_ ≠ kH ∧ (k_ ≠ fM ∧ k_ ≠ iX))))) _ _ rM xn o7 t875 false _ ?au ?av A44.out).mono ?_); (case au => exact rq.out); (case av => exact gD.out); rintro e w73 ⟨v873, v876, rfl, ho0, ho1, hb⟩; refine ⟨_, rfl, ?_⟩; have yz := aa.mk (Kd.bN (Kd.iY (Kd.iY (Kd.eG (Kd.CF (M := fun k_ => (w.heap.size ≤ k_)) (Kd.aX (ok' := fun k_ => True) ho0 (fun _ hk_ => trivial)) (aI bl_) (fun k_ h_ => h_)) (Kd.fK (pR_ ib.out))) (g := fM) (o := .cells (t2_ nX none 0 0) 51 (0, 0)) bk_) (g := iX) (o := .cells #[.int .i64 0, iU] 51 (0, 0)) bk_) (aI bl_)); have Al := aa.mk (Kd.rV (Kd.eB (ok' := fun k_ => ((lu k_ ∨ P1_ k_) ∨ w.heap.size ≤ k_) ∧ some k_ ≠ (v873 : Value).ownBlock ∧ some k_ ≠ (iU : Value).ownBlock ∧ k_ ≠ kH ∧ k_ ≠ fM ∧ k_ ≠ iX) ho1 (fun k_ hk_ => ⟨Or.elim hk_.1 (fun hs_ => Or.elim hs_ (fun hs_ => hs_.1) (fun hs_ => hs_.1)) (fun hn_ => (.inr (Nat.le_trans (aI bl_) hn_))), hk_.2, Or.elim hk_.1 (fun hs_ => Or.elim hs_ (fun hs_ => hs_.2.1) (fun hs_ => hs_.2.1)) (fun hn_ => (Kd.fresh' (Kd.fK (pR_ ib.out)) k_ hn_)), Or.elim hk_.1 (fun hs_ => Or.elim hs_ (fun hs_ => hs_.2.2.1) (fun hs_ => hs_.2.2.1)) (fun hn_ => (Kd.fo (g := kH) (o := .cells (t5_ ah ak aj ai aY af.length aT) 24 (0, 0)) bk_ k_ hn_)), Or.elim hk_.1 (fun hs_ => Or.elim hs_ (fun hs_ => hs_.2.2.2.1) (fun hs_ => hs_.2.2.2.1)) (fun hn_ => (Kd.fo (g := fM) (o := .cells (t2_ nX none 0 0) 51 (0, 0)) bk_ k_ hn_)), Or.elim hk_.1 (fun hs_ => Or.elim hs_ (fun hs_ => hs_.2.2.2.2) (fun hs_ => hs_.2.2.2.2)) (fun hn_ => (Kd.fo (g := iX) (o := .cells #[.int .i64 0, iU] 51 (0, 0)) bk_ k_ hn_))⟩)) (aI bl_)); replace gD := aa.mk (Kd.tN (pV_ gD.out) (Kd.dI ho0) hb); replace jN := aa.mk (Kd.tN (pV_ jN.out) (Kd.dI ho0) hb); replace ib := aa.mk (Kd.fI (pR_ ib.out) (Kd.dI ho0) hb); replace rq := aa.mk (Kd.tN (pV_ rq.out) (Kd.dI ho0) hb); replace jQ := kb_ jQ hb; replace nO := kb_ nO hb; replace HB := aa.mk (ax bl_ hb)) | ((with_reducible refine aM (N := 10) rfl ?_); refine bx_ ((t2_ 0 none 0 0)) 51 ?_; intro iQ hg w74 Ns GW879 HB hb; have GE879 := GW879; have Q8 := nl_ jQ hg; have Q9 := nl_ nO hg; have YC := ng_ nO hg; replace gD := aa.mk (Kd.gP (Kd.iw (pV_ gD.out) iQ (Nat.le_of_eq hg.symm)) hb); replace jN := aa.mk (Kd.gP (Kd.iw (pV_ jN.out) iQ (Nat.le_of_eq hg.symm)) hb); replace ib := aa.mk (Kd.dH (Kd.lU (pR_ ib.out) iQ (Nat.le_of_eq hg.symm)) hb); replace rq := aa.mk (Kd.gP (Kd.iw (pV_ rq.out) iQ (Nat.le_of_eq hg.symm)) hb); replace yz := aa.mk (Kd.dH (Kd.lU (pR_ yz.out) iQ (Nat.le_of_eq hg.symm)) hb); replace Al := aa.mk (Kd.gP (Kd.iw (pV_ Al.out) iQ (Nat.le_of_eq hg.symm)) hb); replace jQ := kb_ jQ hb; clear hb hg; have hnc76 := Q8.out; have hnb77 := YC.out; have hnc77 := Q9.out; obtain ⟨hcz78_0, hcz78_1, hfz78_0, hfz78_1⟩ := dS Ns.out; obtain ⟨Ao79, co79, eo79⟩ := Kd.bF yz.out; subst eo79; have hnb80 := DL.out; have hnc80 := IK.out; obtain ⟨Qj, Qk, hfz81_0, hfz81_1⟩ := dS jQ.out))
        refine bodyPost_ret (qg rfl _ _ fM 51 (t2_ 0 none 0 0) (0, 0) _ rfl b5_ Tryd.underlying51 rfl (by kernel_rfl)) rfl ?_
        exact ⟨_, _, re_, by exact Kd.jy _ _ _ _ _, (by exact Kd.MK _ _ _ _ _), bl_⟩
      ·rw [if_neg c42] at H; have c42b0 := decide_eq_false c42; clear c42; by_cases c82 : ah = 6
       ·rw [if_pos c82] at H; obtain ⟨c82b0, c82b1⟩ := bq_ c82; clear c82; by_cases c83 : (rM.length : Int) < (wrap64 (ai - x8_7))
        ·rw [if_pos c83] at H; have c83b0 := decide_eq_true c83; clear c83; simp only [Option.some.injEq, Prod.mk.injEq] at H; obtain ⟨rfl, rfl, rfl, rfl⟩ := H; obtain ⟨hcz86_0, _, _, hcz86_3, _, _, _, _, _, _⟩ := bE lD.out; obtain ⟨Ao87, co87, eo87⟩ := Kd.uA gD.out; subst eo87; obtain ⟨WA, WB, hfz89_0, hfz89_1⟩ := dS jQ.out; go_wp2; refine bodyPost_ret (qg rfl _ _ fM 51 (t2_ 0 none 0 0) (0, 0) _ rfl b5_ Tryd.underlying51 rfl (by kernel_rfl)) rfl ?_
         exact ⟨_, _, re_, by exact Kd.jy _ _ _ _ _, (by exact Kd.MK _ _ _ _ _), bl_⟩
        ·rw [if_neg c83] at H; have c83b0 := decide_eq_false c83; clear c83; obtain ⟨wF, hji90⟩ : ∃ j_ : Int, (wrap64 (ai - x8_7)) = j_ := ⟨_, rfl⟩; replace H : (if 0 ≤ (wF) then (if (wF) ≤ (rM.length : Int) then (some (0, mJ, (rM.drop ((wF) : Int).toNat), true)) else (none)) else (none)) = some (r1, r2, r3, r4) := by (rw [hji90] at H; exact H)
         (try rw [hji90] at c83b0)
         have hji90w : (IntKind.i64.wrap (ai - x8_7)) = wF := (gM _).trans hji90; by_cases c91 : 0 ≤ (wF)
         ·rw [if_pos c91] at H; have c91b1 := decide_eq_true c91; clear c91; by_cases c92 : (wF) ≤ (rM.length : Int)
          ·rw [if_pos c92] at H; have c92b1 := decide_eq_true c92; clear c92; generalize hy883 : (rM.drop ((wF) : Int).toNat) = y883 at H; replace hy883 := hy883.symm; have Ny883 := aa.mk hy883; clear hy883; simp only [Option.some.injEq, Prod.mk.injEq] at H; obtain ⟨rfl, rfl, rfl, rfl⟩ := H; obtain ⟨hcz95_0, _, _, hcz95_3, _, _, _, _, _, _⟩ := bE lD.out; obtain ⟨Ao96, co96, eo96⟩ := Kd.uA gD.out; subst eo96; have q97 : ((wF) : Int) ≤ ((rM.length : Int) : Int) := dt_; obtain ⟨i097, hi097, _, hsz97, _⟩ := info_parts info3; have Ql : rM.length ≤ co96 := (Kd.kZ gD.out).2.1; have hC97 : Kd.F (Kd.int .i64) _ _ Ao96 rM.length rM := (Kd.V_at (base := w.heap.size) gD.out).2.2; have q097 : (0 : Int) ≤ ((wF) : Int) := dt_; have hcut97 := yY (P := Tryd.prog) 29 3 .i64 Tryd.underlying29 hi097 1 hsz97 Ao96 rM.length co96 (wF) q097 q97; have hr97 := Kd.Jr (m := ((wF) : Int).toNat) (c := co96) hC97 (by omega) Ql; obtain ⟨A97, hA97⟩ : ∃ A9_, A9_ = (if co96 = ((wF) : Int).toNat then Ao96 else (Ao96 : Option Addr).map (·.add (((wF) : Int).toNat * 1))) := ⟨_, rfl⟩; obtain ⟨c97, hc97⟩ : ∃ c9_, c9_ = co96 - ((wF) : Int).toNat := ⟨_, rfl⟩; have hy97 : y883.length = rM.length - ((wF) : Int).toNat := (by rw [Ny883.out, List.length_drop] <;> omega); rw [show (rM).drop ((wF) : Int).toNat = y883 from Ny883.out.symm] at hr97; replace hr97 : Kd.F (Kd.int .i64) _ _ A97 y883.length y883 := (by rw [hA97]; exact hr97); rw [← hy97, ← hA97, ← hc97] at hcut97; have HO887 := aa.mk (show Kd.V (Kd.int .i64) 3 _ w.heap.size _ (.slice A97 y883.length c97) y883 from Kd.uV (by rw [hy97, hc97]; exact Nat.sub_le_sub_right Ql _) hr97); clear hr97 hC97 Ql hi097 hsz97 hc97; clear hy97 hA97; obtain ⟨hcz99_0, hcz99_1, _, _⟩ := dS nO.out; obtain ⟨hcz100_0, hcz100_1, hfz100_0, hfz100_1⟩ := dS jQ.out; obtain ⟨Ao101, co101, eo101⟩ := Kd.bF ib.out; subst eo101; go_wp2; refine bodyPost_ret (qg rfl _ _ fM 51 (t2_ 0 Ao101 mJ.length co101) (0, 0) _ rfl b5_ Tryd.underlying51 rfl (by kernel_rfl)) rfl ?_
           exact ⟨_, _, by rfl, by exact Kd.aX (Kd.bL (p := ⟨fM, 1, none⟩) (Kd.bL (p := ⟨fM, 0, none⟩) (Kd.aX ib.out (fun k_ hk => (⟨hk, by exact hk.2.1⟩ : _ ∧ k_ ≠ fM))) (fun _ hk => hk.2) (.int .i64 0)) (fun _ hk => hk.2) (.slice Ao101 mJ.length co101)) (fun _ hk => hk.1.1), by exact Kd.eB (Kd.jk (p := ⟨fM, 1, none⟩) (Kd.jk (p := ⟨fM, 0, none⟩) (Kd.eB HO887.out (fun k_ hk => (⟨hk, by exact hk.2.2.2.1⟩ : _ ∧ k_ ≠ fM))) (fun _ hk => hk.2) (.int .i64 0)) (fun _ hk => hk.2) (.slice Ao101 mJ.length co101)) (fun _ hk => ⟨hk.1.1, hk.1.2.1⟩), bl_⟩
          ·rw [if_neg c92] at H; exact absurd H (by simp)
         ·rw [if_neg c91] at H; exact absurd H (by simp)
       ·rw [if_neg c82] at H; obtain ⟨c82b0, c82b1⟩ := bn_ c82; simp only [Option.some.injEq, Prod.mk.injEq] at H; obtain ⟨rfl, rfl, rfl, rfl⟩ := H; obtain ⟨hcz104_0, _, _, _, _, _, _, _, _, _⟩ := bE lD.out; obtain ⟨hcz106_0, hcz106_1, _, _⟩ := dS nO.out; obtain ⟨LX, LY, hfz107_0, hfz107_1⟩ := dS jQ.out; obtain ⟨Ao108, co108, eo108⟩ := Kd.bF ib.out; subst eo108; go_wp2; refine bodyPost_ret (qg rfl _ _ fM 51 (t2_ 0 Ao108 mJ.length co108) (0, 0) _ rfl b5_ Tryd.underlying51 rfl (by kernel_rfl)) rfl ?_
        exact ⟨_, _, re_, by exact Kd.aX (Kd.bL (p := ⟨fM, 1, none⟩) (Kd.bL (p := ⟨fM, 0, none⟩) (Kd.aX ib.out (fun k_ hk => (⟨hk, by exact hk.2.1⟩ : _ ∧ k_ ≠ fM))) (fun _ hk => hk.2) (.int .i64 0)) (fun _ hk => hk.2) (.slice Ao108 mJ.length co108)) (fun _ hk => hk.1.1), by exact Kd.eB (Kd.jk (p := ⟨fM, 1, none⟩) (Kd.jk (p := ⟨fM, 0, none⟩) (Kd.eB gD.out (fun k_ hk => (⟨hk, by exact hk.2.2.2.1⟩ : _ ∧ k_ ≠ fM))) (fun _ hk => hk.2) (.int .i64 0)) (fun _ hk => hk.2) (.slice Ao108 mJ.length co108)) (fun _ hk => ⟨hk.1.1, hk.1.2.1⟩), bl_⟩


/-! ### bW: function 79 -/
def bW.l0 : Nat → List Int → List Int → Int → Int → Option (Bool)
 | 0, _, _, _, _ => none
 | k + 1, x0, x1, x12, x13 => if x13 < x12 then (if 0 ≤ x13 then (if x13 < (x0.length : Int) then (if x13 < (x1.length : Int) then (if (rd x0 x13) = (rd x1 x13) then (bW.l0 k x0 x1 x12 (wrap64 (x13 + 1))) else (some false)) else (none)) else (none)) else (none)) else (some true)
def bW.f (k : Nat) (l0 l1 : List Int) : Option (Bool) := if (l0.length : Int) = (l1.length : Int) then (bW.l0 k l0 l1 (l0.length : Int) 0) else (some false)
theorem bW.iH : ∀ k, (∀ y0 y1 y2 y3, LeO (bW.l0 k y0 y1 y2 y3) (bW.l0 (k + 1) y0 y1 y2 y3))
 | 0 => fun _ _ _ _ r h => by simp [bW.l0] at h
 | k + 1 => by
  have ih0 := bW.iH k
  ·intro y0 y1 y2 y3; unfold bW.l0; exact mo_
theorem bW.mono : ∀ a0 a1 k, LeO (bW.f k a0 a1) (bW.f (k + 1) a0 a1) := by
 intro a0 a1 k; have ih0 := bW.iH k; unfold bW.f; exact mo_
set_option maxHeartbeats 8000000 in
set_option maxRecDepth 100000 in
theorem bW.calls (k : Nat) (A0 : Option Addr) (c0 : Nat) (l0 : List Int) (A1 : Option Addr) (c1 : Nat) (l1 : List Int) (r : Bool) (w : World) (hr0 : Kd.C (Kd.int .i64) w A0 l0.length l0) (hc0 : l0.length ≤ c0) (hr1 : Kd.C (Kd.int .i64) w A1 l1.length l1) (hc1 : l1.length ≤ c1) (h : bW.f k l0 l1 = some r) :
  Calls Tryd.prog 79 #[.slice A0 l0.length c0, .slice A1 l1.length c1] w fun e w' => e = .returned (.bool r) ∧ dF w w' := by
 have HR0 := aa.mk hr0; clear hr0 hc0; have HR1 := aa.mk hr1; clear hr1 hc1; have H := h; unfold bW.f at H; clear h; by_cases c3 : (l0.length : Int) = (l1.length : Int)
 ·rw [if_pos c3] at H; obtain ⟨kM, mF⟩ := bq_ c3; clear c3; have H' := aa.mk H; clear H; go_enter Tryd.func79, Tryd.ntmps79; go_wp2; repeat (go_quiet (fail); try go_wp2)
  go_loopg [13] k (fun kq v13 w' => ∃ (jl : Int), v13 = .int .i64 jl ∧ aa (bW.l0 kq l0 l1 (l0.length : Int) jl = some r) ∧ aa (kq ≤ k) ∧ dF w w')
  case atStart => exact ⟨(0), rs_, H', ⟨Nat.le_refl _⟩, by repeat (exact dF.refl _)⟩
  case round =>
   clear H'; obtain ⟨jl, rfl, HA, HK1, ⟨m1, rfl⟩⟩ := hrel; cases gk with
   | zero => exact absurd HA.out (by simp [bW.l0])
   | succ k1 =>
    have H := HA.out; clear HA; simp only [bW.l0] at H; by_cases c4 : jl < (l0.length : Int)
    ·rw [if_pos c4] at H; clear c4; by_cases c5 : 0 ≤ jl
     ·rw [if_pos c5] at H; have rH := decide_eq_true c5; clear c5; by_cases c6 : jl < (l0.length : Int)
      ·rw [if_pos c6] at H; have rX := decide_eq_true c6; clear c6; by_cases c7 : jl < (l1.length : Int)
       ·rw [if_pos c7] at H; have tO := decide_eq_true c7; clear c7; by_cases c8 : (rd l0 jl) = (rd l1 jl)
        ·rw [if_pos c8] at H; obtain ⟨wE, AV⟩ := bq_ c8; clear c8; have H' := aa.mk H; clear H; have p888 : 0 ≤ (jl : Int) := dt_; have q888 : jl < (l0.length : Int) := dt_; obtain ⟨ad888, e888, hx888_0⟩ := Kd.gz HR0.out jl p888 q888; cases e888; replace p888 := eq_true p888; replace q888 := eq_true q888; have p889 : 0 ≤ (jl : Int) := dt_; have q889 : jl < (l1.length : Int) := dt_; obtain ⟨ad889, e889, hx889_0⟩ := Kd.gz HR1.out jl p889 q889; cases e889; replace q889 := eq_true q889; go_wp2; repeat (go_quiet (fail); try go_wp2)
         go_roundg k1
         case measure => have := HK1.out; omega
         case rel => exact ⟨(wrap64 (jl + 1)), rs_, H', ⟨by have := HK1.out; omega⟩, by repeat (first | exact dF.refl _ | apply dF.step)⟩
        ·rw [if_neg c8] at H; obtain ⟨wE, AV⟩ := bn_ c8; obtain rfl := Option.some.inj H; have p888 : 0 ≤ (jl : Int) := dt_; have q888 : jl < (l0.length : Int) := dt_; obtain ⟨ad888, e888, hx888_0⟩ := Kd.gz HR0.out jl p888 q888; cases e888; replace p888 := eq_true p888; replace q888 := eq_true q888; have p889 : 0 ≤ (jl : Int) := dt_; have q889 : jl < (l1.length : Int) := dt_; obtain ⟨ad889, e889, hx889_0⟩ := Kd.gz HR1.out jl p889 q889; cases e889; replace q889 := eq_true q889; go_wp2; repeat (go_quiet (fail); try go_wp2)
         go_ret; exact ⟨by rfl, by repeat (first | exact dF.refl _ | apply dF.step)⟩
       ·rw [if_neg c7] at H; exact absurd H (by simp)
      ·rw [if_neg c6] at H; exact absurd H (by simp)
     ·rw [if_neg c5] at H; exact absurd H (by simp)
    ·rw [if_neg c4] at H; have kN := decide_eq_false c4; clear c4; obtain rfl := Option.some.inj H; go_wp2; repeat (go_quiet (fail); try go_wp2)
     go_ret; exact ⟨by rfl, by repeat (first | exact dF.refl _ | apply dF.step)⟩
 ·rw [if_neg c3] at H; obtain ⟨kM, mF⟩ := bn_ c3; obtain rfl := Option.some.inj H; go_enter Tryd.func79, Tryd.ntmps79; go_wp2; repeat (go_quiet (fail); try go_wp2)
  go_ret; exact ⟨by rfl, by repeat (exact dF.refl _)⟩


/-! ### eY: function 58 -/
def eY.f (k : Nat) (ah ak aj ai : Int) (af : List (S24)) (l1 : List Int) : Option (Int × (List (S51)) × Int) := (fO.f k ah ak aj ai af).bind fun t892 => (if t892 = 0 then ((bJ.f k ah ak aj ai af l1).bind fun ru => (if ru.2.2.2 = true then (if (ru.2.2.1.length : Int) = 0 then ((l8.f ah ak aj ai af ru.1 ru.2.1).bind fun t902 => (if t902 = 0 then ((aN.f k ah ak aj ai af ru.1 ru.2.1).bind fun t903 => ((bW.f k t903 l1).bind fun t906 => (if t906 = true then (some (ru.1, ru.2.1, 0)) else (some (0, ([] : List (S51)), 2))))) else (some (0, ([] : List (S51)), 2)))) else (some (0, ([] : List (S51)), 2))) else (some (0, ([] : List (S51)), 2)))) else (some (0, ([] : List (S51)), t892)))
theorem eY.mono : ∀ a0 a1 a2 a3 a4 a5 k, LeO (eY.f k a0 a1 a2 a3 a4 a5) (eY.f (k + 1) a0 a1 a2 a3 a4 a5) := by
 intro a0 a1 a2 a3 a4 a5 k; unfold eY.f; have m0 := @bW.mono; have m1 := @fO.mono; have m2 := @aN.mono; have m3 := @bJ.mono; exact mo_
set_option maxHeartbeats 8000000 in
set_option maxRecDepth 100000 in
theorem eY.calls (k : Nat) (ah ak aj ai : Int) (aY : Option Addr) (aT : Nat) (af : List (S24)) (A1 : Option Addr) (c1 : Nat) (l1 : List Int) (r1 : Int) (r2 : List (S51)) (r3 : Int) (w : World) (dD : Kd.C k24 w aY af.length af) (dX : af.length ≤ aT) (hr1 : Kd.C (Kd.int .i64) w A1 l1.length l1) (hc1 : l1.length ≤ c1) (h : eY.f k ah ak aj ai af l1 = some (r1, r2, r3)) :
  Calls Tryd.prog 58 #[.agg #[.int .i64 ah, .int .i64 ak, .int .i64 aj, .int .i64 ai, .slice aY af.length aT], .slice A1 l1.length c1] w fun e w' => ∃ v1_ : Value, e = .returned (.tuple #[.agg #[.int .i64 r1, v1_], .int .i64 r3]) ∧ Kd.R k51 51 w' w.heap.size (fun _ => True) v1_ r2 ∧ Below w.heap.size w w' := by
 have bT := aa.mk dD; have ed := aa.mk dX; clear dD dX; have HR1 := aa.mk hr1; have HC1 := aa.mk hc1; clear hr1 hc1; have HB := aa.mk (Below.refl w.heap.size w); have H : ((fO.f k ah ak aj ai af).bind fun t892 => (if t892 = 0 then ((bJ.f k ah ak aj ai af l1).bind fun ru => (if ru.2.2.2 = true then (if (ru.2.2.1.length : Int) = 0 then ((l8.f ah ak aj ai af ru.1 ru.2.1).bind fun t902 => (if t902 = 0 then ((aN.f k ah ak aj ai af ru.1 ru.2.1).bind fun t903 => ((bW.f k t903 l1).bind fun t906 => (if t906 = true then (some (ru.1, ru.2.1, 0)) else (some (0, ([] : List (S51)), 2))))) else (some (0, ([] : List (S51)), 2)))) else (some (0, ([] : List (S51)), 2))) else (some (0, ([] : List (S51)), 2)))) else (some (0, ([] : List (S51)), t892)))) = some (r1, r2, r3) := h; clear h; replace H := Option.bind_eq_some_iff.mp H; obtain ⟨t892, A30, H⟩ := H; have A3 := aa.mk A30; clear A30; by_cases c4 : t892 = 0
 focus
  rw [if_pos c4] at H; obtain ⟨kN, oZ⟩ := bq_ c4; clear c4; replace H := Option.bind_eq_some_iff.mp H; obtain ⟨⟨uM, qI, t897, t900⟩, A50, H⟩ := H; (try dsimp only at H)
  have A5 := aa.mk A50; clear A50; by_cases c6 : t900 = true
  focus
   subst c6; have H1 : (if (t897.length : Int) = 0 then ((l8.f ah ak aj ai af uM qI).bind fun t902 => (if t902 = 0 then ((aN.f k ah ak aj ai af uM qI).bind fun t903 => ((bW.f k t903 l1).bind fun t906 => (if t906 = true then (some (uM, qI, 0)) else (some (0, ([] : List (S51)), 2))))) else (some (0, ([] : List (S51)), 2)))) else (some (0, ([] : List (S51)), 2))) = some (r1, r2, r3) := by rw [if_pos rfl] at H; exact H
   clear H; have H := H1; clear H1; by_cases c7 : (t897.length : Int) = 0
   focus
    rw [if_pos c7] at H; obtain ⟨tO, AX⟩ := bq_ c7; clear c7; replace H := Option.bind_eq_some_iff.mp H; obtain ⟨t902, A80, H⟩ := H; have A8 := aa.mk A80; clear A80; by_cases c9 : t902 = 0
    ·rw [if_pos c9] at H; obtain ⟨qH, CP⟩ := bq_ c9; clear c9; replace H := Option.bind_eq_some_iff.mp H; obtain ⟨t903, zJ, H⟩ := H; have A10 := aa.mk zJ; clear zJ; replace H := Option.bind_eq_some_iff.mp H; obtain ⟨t906, Db, H⟩ := H; have A11 := aa.mk Db; clear Db; by_cases c12 : t906 = true
     focus
      subst c12; have H1 : (some (uM, qI, 0)) = some (r1, r2, r3) := by rw [if_pos rfl] at H; exact H
     rotate_left
     focus
      replace c12 := Bool.eq_false_iff.mpr c12; subst c12; have H1 : (some (0, ([] : List (S51)), 2)) = some (r1, r2, r3) := by rw [if_neg (show ¬ (false = true) by decide)] at H; exact H
     rotate_left
     all_goals
      clear H; have H := H1; clear H1; simp only [Option.some.injEq, Prod.mk.injEq] at H; obtain ⟨rfl, rfl, rfl⟩ := H; go_enter Tryd.func58, Tryd.ntmps58; go_wp2_with (first | ((with_reducible refine aM (N := 2) rfl ?_); (try (refine gH (by rfl) ?_; dsimp only)); refine bx_ ((t5_ ah ak aj ai aY af.length aT)) 24 ?_; intro DN hg w13 lL GN HB hb; clear hb hg) | ((with_reducible refine aM (N := 4) rfl ?_); (try (refine gH (by rfl) ?_; dsimp only)); refine bx_ ((t2_ 0 none 0 0)) 51 ?_; intro nP hg w14 lF BA HB hb; have GE891 := BA; replace lL := kb_ lL hb; clear hb hg; obtain ⟨qP, rY, uG, zn, zo, _, _, _, _, _⟩ := bE lL.out) | ((with_reducible refine ay (f := 76) rfl ?_); refine gl_ (some 11) Tryd.func76 #[.agg (t5_ ah ak aj ai aY af.length aT)] ?_; (with_reducible refine (fO.calls k ah ak aj ai _ _ af t892 _ ?au ?av A3.out).mono ?_); (case au => exact cb_ (Kd.aV bT.out HB.out)); (case av => exact ed.out); rintro e w17 ⟨rfl, hb⟩; refine ⟨_, rfl, ?_⟩; replace lL := kb_ lL hb; replace lF := kb_ lF hb; replace HB := aa.mk (ax bl_ hb); obtain ⟨vR, uD, xM, zf, zk, _, _, _, _, _⟩ := bE lL.out) | ((with_reducible refine ay (f := 77) rfl ?_); refine gl_ (some 19) Tryd.func77 #[.agg (t5_ ah ak aj ai aY af.length aT), .slice A1 l1.length c1] ?_; (with_reducible refine (bJ.calls k ah ak aj ai (fun k_ => k_ < w.heap.size) _ _ af (fun k_ => k_ < w.heap.size) _ _ l1 uM qI t897 true _ ?au ?av A5.out).mono ?_); (case au => exact Kd.uV ed.out (Kd.qi (Kd.C_F Gs bT.out) bl_)); (case av => exact Kd.uV HC1.out (Kd.qi (Kd.C_F (Kd.tK .i64) HR1.out) bl_)); rintro e w19 ⟨v895, v898, rfl, ho0, ho1, hb⟩; refine ⟨_, rfl, ?_⟩; have oN := aa.mk (Kd.bN (Kd.iY (Kd.aX (ok' := fun k_ => True) ho0 (fun _ hk_ => trivial)) (g := nP) (o := .cells (t2_ 0 none 0 0) 51 (0, 0)) bk_) (aI bl_)); have wT := aa.mk (Kd.rV (Kd.eB (ok' := fun k_ => some k_ ≠ (v895 : Value).ownBlock ∧ k_ ≠ DN ∧ k_ ≠ nP) ho1 (fun k_ hk_ => ⟨hk_.2, Or.elim hk_.1 (fun hs_ => Or.elim hs_ (fun hs_ => fun e_ => Nat.not_le.2 hs_ (by rw [e_]; exact GN.out)) (fun hs_ => fun e_ => Nat.not_le.2 hs_ (by rw [e_]; exact GN.out))) (fun hn_ => (Kd.fo (g := DN) (o := .cells (t5_ ah ak aj ai aY af.length aT) 24 (0, 0)) bk_ k_ hn_)), Or.elim hk_.1 (fun hs_ => Or.elim hs_ (fun hs_ => fun e_ => Nat.not_le.2 hs_ (by rw [e_]; exact BA.out)) (fun hs_ => fun e_ => Nat.not_le.2 hs_ (by rw [e_]; exact BA.out))) (fun hn_ => (Kd.fo (g := nP) (o := .cells (t2_ 0 none 0 0) 51 (0, 0)) bk_ k_ hn_))⟩)) (aI bl_)); replace lL := kb_ lL hb; replace lF := kb_ lF hb; replace HB := aa.mk (ax bl_ hb)) | ((with_reducible refine aM (N := 7) rfl ?_); (try (refine gH (by rfl) ?_; dsimp only)); refine bx_ ((t2_ 0 none 0 0)) 51 ?_; intro ow hg w20 BB GW901 HB hb; have GE901 := GW901; have IM := nl_ lL hg; have IP := nl_ lF hg; have IQ := ng_ lF hg; replace oN := aa.mk (Kd.dH (Kd.lU (pR_ oN.out) ow (Nat.le_of_eq hg.symm)) hb); replace wT := aa.mk (Kd.gP (Kd.iw (pV_ wT.out) ow (Nat.le_of_eq hg.symm)) hb); replace lL := kb_ lL hb; replace lF := kb_ lF hb; clear hb hg; have hnc21 := IM.out; have hnb22 := IQ.out; have hnc22 := IP.out; obtain ⟨WC, WE, WG, WH⟩ := dS BB.out; obtain ⟨wD, uL, eo24⟩ := Kd.bF oN.out; subst eo24; obtain ⟨tT, sU, eo25⟩ := Kd.uA wT.out; subst eo25; obtain ⟨hcz26_0, PM, hcz26_2, hcz26_3, hcz26_4, _, _, _, _, _⟩ := bE lL.out) | (go_at_call 78; (with_reducible refine (l8.calls ah ak aj ai _ _ af uM _ _ qI t902 _ ?au ?av ?bO ?bQ A8.out).mono ?_); (case au => exact Kd.aV bT.out bl_); (case av => exact ed.out); (case bO => refine (Kd.aZ (e := 51) (base := w.heap.size) (ok := fun k_ => ((True ∧ k_ ≠ nP) ∧ k_ ≠ ow)) (n := qI.length) (c := uL) ?_).2.2; exact (by exact (Kd.aX (Kd.bL (p := ⟨ow, 1, none⟩) (Kd.bL (p := ⟨ow, 0, none⟩) (Kd.aX oN.out (fun k_ hk => (⟨hk, by exact hk.2⟩ : _ ∧ k_ ≠ ow))) (fun _ hk => hk.2) (.int .i64 uM)) (fun _ hk => hk.2) (.slice wD qI.length uL)) (fun _ h_ => h_.1)))); (case bQ => exact (Kd.aZ oN.out).2.1); rintro e w27 ⟨rfl, hb⟩; replace oN := aa.mk (Kd.dH (by exact (Kd.aX (Kd.bL (p := ⟨ow, 1, none⟩) (Kd.bL (p := ⟨ow, 0, none⟩) (Kd.aX oN.out (fun k_ hk => (⟨hk, by exact hk.2⟩ : _ ∧ k_ ≠ ow))) (fun _ hk => hk.2) (.int .i64 uM)) (fun _ hk => hk.2) (.slice wD qI.length uL)) (fun _ h_ => h_.1))) hb); replace wT := aa.mk (Kd.gP (by exact (Kd.eB (Kd.jk (p := ⟨ow, 1, none⟩) (Kd.jk (p := ⟨ow, 0, none⟩) (Kd.eB wT.out (fun k_ hk => (⟨hk, by exact hk.2⟩ : _ ∧ k_ ≠ ow))) (fun _ hk => hk.2) (.int .i64 uM)) (fun _ hk => hk.2) (.slice wD qI.length uL)) (fun _ h_ => h_.1))) hb); replace lL := aa.mk (gW (g := DN) (o := .cells (t5_ ah ak aj ai aY af.length aT) 24 (0, 0)) b5_ hb); replace lF := aa.mk (gW (g := nP) (o := .cells (t2_ 0 none 0 0) 51 (0, 0)) b5_ hb); replace BB := aa.mk (gW (g := ow) (o := .cells (t2_ uM wD qI.length uL) 51 (0, 0)) b5_ hb); replace HB := aa.mk (ax bl_ hb); obtain ⟨JY, Ck, PH, PI, PK, _, _, _, _, _⟩ := bE lL.out; obtain ⟨Qm, EU, _, _⟩ := dS BB.out) | (go_at_call 75; (with_reducible refine (aN.calls k ah ak aj ai _ _ af uM _ _ qI t903 _ ?au ?av ?bO ?bQ A10.out).mono ?_); (case au => exact cb_ (Kd.aV bT.out HB.out)); (case av => exact ed.out); (case bO => exact cb_ ((Kd.aZ oN.out).2.2)); (case bQ => exact (Kd.aZ oN.out).2.1); rintro e w30 ⟨v904, rfl, ho0, hb⟩; have Nt := aa.mk (Kd.bN ho0 (aI bl_)); replace oN := aa.mk (Kd.dH (pR_ oN.out) hb); replace wT := aa.mk (Kd.tN (pV_ wT.out) (Kd.dI ho0) hb); replace lF := kb_ lF hb; replace BB := kb_ BB hb; replace HB := aa.mk (ax bl_ hb); obtain ⟨CW, CX, eo31⟩ := Kd.bF Nt.out; subst eo31) | (go_at_call 79; (with_reducible refine (bW.calls k _ _ t903 _ _ l1 true _ ?au ?av ?bO ?bQ A11.out).mono ?_); (case au => exact cb_ ((Kd.aZ Nt.out).2.2)); (case av => exact (Kd.aZ Nt.out).2.1); (case bO => exact cb_ (Kd.aV HR1.out HB.out)); (case bQ => exact HC1.out); rintro e w' ⟨rfl, ⟨nd, rfl⟩⟩; (try (rw [Bp w30]; generalize hq_ : World.drewN w30 _ = w30; replace oN : aa (Kd.R k51 51 w30 w.heap.size (fun k_ => k_ ≠ nP ∧ k_ ≠ ow) (.slice wD qI.length uL) qI) := ⟨by rw [← hq_]; exact (by (with_reducible repeat (apply Kd.Oy)); exact Kd.aX oN.out (fun _ hk => ⟨hk.1.2, hk.2⟩))⟩; replace lF : aa (w30.heap[nP]? = some (.cells (t2_ 0 none 0 0) 51 (0, 0))) := ⟨by rw [← hq_]; exact bk_⟩; replace BB : aa (w30.heap[ow]? = some (.cells (t2_ uM wD qI.length uL) 51 (0, 0))) := ⟨by rw [← hq_]; exact bk_⟩; replace HB : aa (Below w.heap.size w w30) := ⟨by rw [← hq_]; exact bl_⟩; clear hq_)); obtain ⟨JL, Qb, _, _⟩ := dS BB.out; obtain ⟨WI, PN, hfz33_0, WJ⟩ := dS lF.out) | (go_at_call 79; (with_reducible refine (bW.calls k _ _ t903 _ _ l1 false _ ?au ?av ?bO ?bQ A11.out).mono ?_); (case au => exact cb_ ((Kd.aZ Nt.out).2.2)); (case av => exact (Kd.aZ Nt.out).2.1); (case bO => exact cb_ (Kd.aV HR1.out HB.out)); (case bQ => exact HC1.out); rintro e w' ⟨rfl, ⟨nd, rfl⟩⟩; (try (rw [Bp w30]; generalize hq_ : World.drewN w30 _ = w30; replace lF : aa (w30.heap[nP]? = some (.cells (t2_ 0 none 0 0) 51 (0, 0))) := ⟨by rw [← hq_]; exact bk_⟩; replace HB : aa (Below w.heap.size w w30) := ⟨by rw [← hq_]; exact bl_⟩; clear hq_)); obtain ⟨Kw, Ky, hfz53_0, hfz53_1⟩ := dS lF.out))
     ·refine bodyPost_ret (lI rfl _ _ nP 51 (t2_ uM wD qI.length uL) (0, 0) _ rfl b5_ Tryd.underlying51 rfl (by kernel_rfl)) rfl ?_
      exact ⟨_, re_, by exact Kd.aX (Kd.bL (p := ⟨nP, 1, none⟩) (Kd.bL (p := ⟨nP, 0, none⟩) (Kd.aX oN.out (fun k_ hk => (⟨hk, by exact hk.1⟩ : _ ∧ k_ ≠ nP))) (fun _ hk => hk.2) (.int .i64 uM)) (fun _ hk => hk.2) (.slice wD qI.length uL)) (fun _ hk => trivial), bl_⟩
     ·refine bodyPost_ret (lI rfl _ _ nP 51 (t2_ 0 none 0 0) (0, 0) _ rfl b5_ Tryd.underlying51 rfl (by kernel_rfl)) rfl ?_
      exact ⟨_, re_, by exact Kd.jy _ _ _ _ _, bl_⟩
    rw [if_neg c9] at H; obtain ⟨qH, CP⟩ := bn_ c9
   rotate_left
   focus
    rw [if_neg c7] at H; obtain ⟨tO, AX⟩ := bn_ c7
   rotate_left
  rotate_left 2
  focus
   replace c6 := Bool.eq_false_iff.mpr c6; subst c6; have H1 : (some (0, ([] : List (S51)), 2)) = some (r1, r2, r3) := by rw [if_neg (show ¬ (false = true) by decide)] at H; exact H
   clear H; have H := H1; clear H1
  rotate_left
 rotate_left 3
 focus
  rw [if_neg c4] at H; obtain ⟨kN, oZ⟩ := bn_ c4
 rotate_left
 all_goals
  simp only [Option.some.injEq, Prod.mk.injEq] at H; obtain ⟨rfl, rfl, rfl⟩ := H; go_enter Tryd.func58, Tryd.ntmps58; go_wp2_with (first | ((with_reducible refine aM (N := 2) rfl ?_); (try (refine gH (by rfl) ?_; dsimp only)); refine bx_ ((t5_ ah ak aj ai aY af.length aT)) 24 ?_; intro DN hg w54 lL GN HB hb; clear hb hg) | ((with_reducible refine aM (N := 4) rfl ?_); (try (refine gH (by rfl) ?_; dsimp only)); refine bx_ ((t2_ 0 none 0 0)) 51 ?_; intro nP hg w55 lF BA HB hb; have GE891 := BA; replace lL := kb_ lL hb; clear hb hg; obtain ⟨Ce, Cf, hcz57_2, U5, U6, _, _, _, _, _⟩ := bE lL.out) | ((with_reducible refine ay (f := 76) rfl ?_); refine gl_ (some 11) Tryd.func76 #[.agg (t5_ ah ak aj ai aY af.length aT)] ?_; (with_reducible refine (fO.calls k ah ak aj ai _ _ af t892 _ ?au ?av A3.out).mono ?_); (case au => exact cb_ (Kd.aV bT.out HB.out)); (case av => exact ed.out); rintro e w58 ⟨rfl, hb⟩; refine ⟨_, rfl, ?_⟩; replace lL := kb_ lL hb; replace lF := kb_ lF hb; replace HB := aa.mk (ax bl_ hb); (try (obtain ⟨Cg, EJ, EK, EL, Ch, _, _, _, _, _⟩ := bE lL.out)); (try (obtain ⟨hcz102_0, RN, hfz102_0, hfz102_1⟩ := dS lF.out))) | ((with_reducible refine ay (f := 77) rfl ?_); refine gl_ (some 19) Tryd.func77 #[.agg (t5_ ah ak aj ai aY af.length aT), .slice A1 l1.length c1] ?_; (with_reducible refine (bJ.calls k ah ak aj ai (fun k_ => k_ < w.heap.size) _ _ af (fun k_ => k_ < w.heap.size) _ _ l1 uM qI t897 true _ ?au ?av A5.out).mono ?_); (case au => exact Kd.uV ed.out (Kd.qi (Kd.C_F Gs bT.out) bl_)); (case av => exact Kd.uV HC1.out (Kd.qi (Kd.C_F (Kd.tK .i64) HR1.out) bl_)); rintro e w60 ⟨v895, v898, rfl, ho0, ho1, hb⟩; refine ⟨_, rfl, ?_⟩; have oN := aa.mk (Kd.bN (Kd.iY (Kd.aX (ok' := fun k_ => True) ho0 (fun _ hk_ => trivial)) (g := nP) (o := .cells (t2_ 0 none 0 0) 51 (0, 0)) bk_) (aI bl_)); have wT := aa.mk (Kd.rV (Kd.eB (ok' := fun k_ => some k_ ≠ (v895 : Value).ownBlock ∧ k_ ≠ DN ∧ k_ ≠ nP) ho1 (fun k_ hk_ => ⟨hk_.2, Or.elim hk_.1 (fun hs_ => Or.elim hs_ (fun hs_ => fun e_ => Nat.not_le.2 hs_ (by rw [e_]; exact GN.out)) (fun hs_ => fun e_ => Nat.not_le.2 hs_ (by rw [e_]; exact GN.out))) (fun hn_ => (Kd.fo (g := DN) (o := .cells (t5_ ah ak aj ai aY af.length aT) 24 (0, 0)) bk_ k_ hn_)), Or.elim hk_.1 (fun hs_ => Or.elim hs_ (fun hs_ => fun e_ => Nat.not_le.2 hs_ (by rw [e_]; exact BA.out)) (fun hs_ => fun e_ => Nat.not_le.2 hs_ (by rw [e_]; exact BA.out))) (fun hn_ => (Kd.fo (g := nP) (o := .cells (t2_ 0 none 0 0) 51 (0, 0)) bk_ k_ hn_))⟩)) (aI bl_)); replace lL := kb_ lL hb; replace lF := kb_ lF hb; replace HB := aa.mk (ax bl_ hb)) | ((with_reducible refine aM (N := 7) rfl ?_); (try (refine gH (by rfl) ?_; dsimp only)); refine bx_ ((t2_ 0 none 0 0)) 51 ?_; intro ow hg w61 BB GW901 HB hb; have GE901 := GW901; have IM := nl_ lL hg; have IP := nl_ lF hg; have IQ := ng_ lF hg; replace oN := aa.mk (Kd.dH (Kd.lU (pR_ oN.out) ow (Nat.le_of_eq hg.symm)) hb); replace wT := aa.mk (Kd.gP (Kd.iw (pV_ wT.out) ow (Nat.le_of_eq hg.symm)) hb); replace lL := kb_ lL hb; replace lF := kb_ lF hb; clear hb hg; have hnc62 := IM.out; have hnb63 := IQ.out; have hnc63 := IP.out; obtain ⟨hcz64_0, hcz64_1, hfz64_0, hfz64_1⟩ := dS BB.out; obtain ⟨AY, zI, eo65⟩ := Kd.bF oN.out; subst eo65; obtain ⟨Ao66, co66, eo66⟩ := Kd.uA wT.out; subst eo66; (try (obtain ⟨WK, hcz67_1, hcz67_2, Vz, hcz67_4, _, _, _, _, _⟩ := bE lL.out)); (try (obtain ⟨hcz83_0, hcz83_1, hfz83_0, hfz83_1⟩ := dS lF.out))) | (go_at_call 78; (with_reducible refine (l8.calls ah ak aj ai _ _ af uM _ _ qI t902 _ ?au ?av ?bO ?bQ A8.out).mono ?_); (case au => exact Kd.aV bT.out bl_); (case av => exact ed.out); (case bO => refine (Kd.aZ (e := 51) (base := w.heap.size) (ok := fun k_ => ((True ∧ k_ ≠ nP) ∧ k_ ≠ ow)) (n := qI.length) (c := zI) ?_).2.2; exact (by exact (Kd.aX (Kd.bL (p := ⟨ow, 1, none⟩) (Kd.bL (p := ⟨ow, 0, none⟩) (Kd.aX oN.out (fun k_ hk => (⟨hk, by exact hk.2⟩ : _ ∧ k_ ≠ ow))) (fun _ hk => hk.2) (.int .i64 uM)) (fun _ hk => hk.2) (.slice AY qI.length zI)) (fun _ h_ => h_.1)))); (case bQ => exact (Kd.aZ oN.out).2.1); rintro e w68 ⟨rfl, hb⟩; replace lF := aa.mk (gW (g := nP) (o := .cells (t2_ 0 none 0 0) 51 (0, 0)) b5_ hb); replace HB := aa.mk (ax bl_ hb); obtain ⟨Wy, Wz, hfz69_0, hfz69_1⟩ := dS lF.out) | ((with_reducible refine ay (f := 77) rfl ?_); refine gl_ (some 19) Tryd.func77 #[.agg (t5_ ah ak aj ai aY af.length aT), .slice A1 l1.length c1] ?_; (with_reducible refine (bJ.calls k ah ak aj ai (fun k_ => k_ < w.heap.size) _ _ af (fun k_ => k_ < w.heap.size) _ _ l1 uM qI t897 false _ ?au ?av A5.out).mono ?_); (case au => exact Kd.uV ed.out (Kd.qi (Kd.C_F Gs bT.out) bl_)); (case av => exact Kd.uV HC1.out (Kd.qi (Kd.C_F (Kd.tK .i64) HR1.out) bl_)); rintro e w90 ⟨v895, v898, rfl, ho0, ho1, hb⟩; refine ⟨_, rfl, ?_⟩; have oN := aa.mk (Kd.bN (Kd.iY (Kd.aX (ok' := fun k_ => True) ho0 (fun _ hk_ => trivial)) (g := nP) (o := .cells (t2_ 0 none 0 0) 51 (0, 0)) bk_) (aI bl_)); have wT := aa.mk (Kd.rV (Kd.eB (ok' := fun k_ => some k_ ≠ (v895 : Value).ownBlock ∧ k_ ≠ DN ∧ k_ ≠ nP) ho1 (fun k_ hk_ => ⟨hk_.2, Or.elim hk_.1 (fun hs_ => Or.elim hs_ (fun hs_ => fun e_ => Nat.not_le.2 hs_ (by rw [e_]; exact GN.out)) (fun hs_ => fun e_ => Nat.not_le.2 hs_ (by rw [e_]; exact GN.out))) (fun hn_ => (Kd.fo (g := DN) (o := .cells (t5_ ah ak aj ai aY af.length aT) 24 (0, 0)) bk_ k_ hn_)), Or.elim hk_.1 (fun hs_ => Or.elim hs_ (fun hs_ => fun e_ => Nat.not_le.2 hs_ (by rw [e_]; exact BA.out)) (fun hs_ => fun e_ => Nat.not_le.2 hs_ (by rw [e_]; exact BA.out))) (fun hn_ => (Kd.fo (g := nP) (o := .cells (t2_ 0 none 0 0) 51 (0, 0)) bk_ k_ hn_))⟩)) (aI bl_)); replace lL := kb_ lL hb; replace lF := kb_ lF hb; replace HB := aa.mk (ax bl_ hb)))
  refine bodyPost_ret (lI rfl _ _ nP 51 (t2_ 0 none 0 0) (0, 0) _ rfl b5_ Tryd.underlying51 rfl (by kernel_rfl)) rfl ?_
  exact ⟨_, re_, by exact Kd.jy _ _ _ _ _, bl_⟩


/-! ### bD: function 59 -/
def bD.l0 : Nat → List Int → List Int → Int → Option (Bool)
 | 0, _, _, _ => none
 | k + 1, x0, x1, x5 => if x5 < (x0.length : Int) then (if 0 ≤ x5 then (if x5 < (x1.length : Int) then (if (rd x0 x5) = (rd x1 x5) then (bD.l0 k x0 x1 (wrap64 (x5 + 1))) else (some false)) else (none)) else (none)) else (some true)
def bD.f (k : Nat) (l0 l1 : List Int) : Option (Bool) := if (l0.length : Int) = (l1.length : Int) then (bD.l0 k l0 l1 0) else (some false)
theorem bD.iH : ∀ k, (∀ y0 y1 y2, LeO (bD.l0 k y0 y1 y2) (bD.l0 (k + 1) y0 y1 y2))
 | 0 => fun _ _ _ r h => by simp [bD.l0] at h
 | k + 1 => by
  have ih0 := bD.iH k
  ·intro y0 y1 y2; unfold bD.l0; exact mo_
theorem bD.mono : ∀ a0 a1 k, LeO (bD.f k a0 a1) (bD.f (k + 1) a0 a1) := by
 intro a0 a1 k; have ih0 := bD.iH k; unfold bD.f; exact mo_
set_option maxHeartbeats 8000000 in
set_option maxRecDepth 100000 in
theorem bD.calls (k : Nat) (A0 : Option Addr) (c0 : Nat) (l0 : List Int) (A1 : Option Addr) (c1 : Nat) (l1 : List Int) (r : Bool) (w : World) (hr0 : Kd.C (Kd.int .i64) w A0 l0.length l0) (hc0 : l0.length ≤ c0) (hr1 : Kd.C (Kd.int .i64) w A1 l1.length l1) (hc1 : l1.length ≤ c1) (h : bD.f k l0 l1 = some r) :
  Calls Tryd.prog 59 #[.slice A0 l0.length c0, .slice A1 l1.length c1] w fun e w' => e = .returned (.bool r) ∧ dF w w' := by
 have HR0 := aa.mk hr0; clear hr0 hc0; have HR1 := aa.mk hr1; clear hr1 hc1; have H := h; unfold bD.f at H; clear h; by_cases c3 : (l0.length : Int) = (l1.length : Int)
 ·rw [if_pos c3] at H; obtain ⟨kM, mF⟩ := bq_ c3; clear c3; have H' := aa.mk H; clear H; go_enter Tryd.func59, Tryd.ntmps59; go_wp2; repeat (go_quiet (fail); try go_wp2)
  go_loopg [5] k (fun kq v5 w' => ∃ (cz : Int), v5 = .int .i64 cz ∧ aa (bD.l0 kq l0 l1 cz = some r) ∧ aa (kq ≤ k) ∧ dF w w')
  case atStart => exact ⟨(0), rs_, H', ⟨Nat.le_refl _⟩, by repeat (exact dF.refl _)⟩
  case round =>
   clear H'; obtain ⟨cz, rfl, HA, HK1, ⟨m1, rfl⟩⟩ := hrel; cases gk with
   | zero => exact absurd HA.out (by simp [bD.l0])
   | succ k1 =>
    have H := HA.out; clear HA; simp only [bD.l0] at H; by_cases c4 : cz < (l0.length : Int)
    ·rw [if_pos c4] at H; have kN := decide_eq_true c4; clear c4; by_cases c5 : 0 ≤ cz
     ·rw [if_pos c5] at H; have rH := decide_eq_true c5; clear c5; by_cases c6 : cz < (l1.length : Int)
      ·rw [if_pos c6] at H; have rX := decide_eq_true c6; clear c6; by_cases c7 : (rd l0 cz) = (rd l1 cz)
       ·rw [if_pos c7] at H; obtain ⟨tO, AX⟩ := bq_ c7; clear c7; have H' := aa.mk H; clear H; have p907 : 0 ≤ (cz : Int) := dt_; have q907 : cz < (l0.length : Int) := dt_; obtain ⟨ad907, e907, hx907_0⟩ := Kd.gz HR0.out cz p907 q907; cases e907; replace p907 := eq_true p907; replace q907 := eq_true q907; have p908 : 0 ≤ (cz : Int) := dt_; have q908 : cz < (l1.length : Int) := dt_; obtain ⟨ad908, e908, hx908_0⟩ := Kd.gz HR1.out cz p908 q908; cases e908; replace q908 := eq_true q908; go_wp2; repeat (go_quiet (fail); try go_wp2)
        go_roundg k1
        case measure => have := HK1.out; omega
        case rel => exact ⟨(wrap64 (cz + 1)), rs_, H', ⟨by have := HK1.out; omega⟩, by repeat (first | exact dF.refl _ | apply dF.step)⟩
       ·rw [if_neg c7] at H; obtain ⟨tO, AX⟩ := bn_ c7; obtain rfl := Option.some.inj H; have p907 : 0 ≤ (cz : Int) := dt_; have q907 : cz < (l0.length : Int) := dt_; obtain ⟨ad907, e907, hx907_0⟩ := Kd.gz HR0.out cz p907 q907; cases e907; replace p907 := eq_true p907; replace q907 := eq_true q907; have p908 : 0 ≤ (cz : Int) := dt_; have q908 : cz < (l1.length : Int) := dt_; obtain ⟨ad908, e908, hx908_0⟩ := Kd.gz HR1.out cz p908 q908; cases e908; replace q908 := eq_true q908; go_wp2; repeat (go_quiet (fail); try go_wp2)
        go_ret; exact ⟨by rfl, by repeat (first | exact dF.refl _ | apply dF.step)⟩
      ·rw [if_neg c6] at H; exact absurd H (by simp)
     ·rw [if_neg c5] at H; exact absurd H (by simp)
    ·rw [if_neg c4] at H; have kN := decide_eq_false c4; clear c4; obtain rfl := Option.some.inj H; go_wp2; repeat (go_quiet (fail); try go_wp2)
     go_ret; exact ⟨by rfl, by repeat (first | exact dF.refl _ | apply dF.step)⟩
 ·rw [if_neg c3] at H; obtain ⟨kM, mF⟩ := bn_ c3; obtain rfl := Option.some.inj H; go_enter Tryd.func59, Tryd.ntmps59; go_wp2; repeat (go_quiet (fail); try go_wp2)
  go_ret; exact ⟨by rfl, by repeat (exact dF.refl _)⟩


/-! ### fu: function 55 -/
def fu.f (k : Nat) (ah ak aj ai : Int) (af : List (S24)) : Option (Int) := (gL.f k ah ak aj ai af).bind fun t934 => (if t934 = 0 then (if ah = 4 then (some 8) else (some 0)) else (some t934))
set_option maxHeartbeats 8000000 in
set_option maxRecDepth 100000 in
theorem fu.calls (k : Nat) (ah ak aj ai : Int) (aY : Option Addr) (aT : Nat) (af : List (S24)) (r : Int) (w : World) (dD : Kd.C k24 w aY af.length af) (dX : af.length ≤ aT) (h : fu.f k ah ak aj ai af = some r) :
  Calls Tryd.prog 55 #[.agg #[.int .i64 ah, .int .i64 ak, .int .i64 aj, .int .i64 ai, .slice aY af.length aT]] w fun e w' => e = .returned (.int .i64 r) ∧ Below w.heap.size w w' := by
 have bT := aa.mk dD; have ed := aa.mk dX; clear dD dX; have HB := aa.mk (Below.refl w.heap.size w); have H : ((gL.f k ah ak aj ai af).bind fun t934 => (if t934 = 0 then (if ah = 4 then (some 8) else (some 0)) else (some t934))) = some r := h; clear h; replace H := Option.bind_eq_some_iff.mp H; obtain ⟨t934, A20, H⟩ := H; have A2 := aa.mk A20; clear A20; by_cases c3 : t934 = 0
 focus
  rw [if_pos c3] at H; obtain ⟨kM, mF⟩ := bq_ c3; clear c3; by_cases c4 : ah = 4
  focus
   rw [if_pos c4] at H; obtain ⟨kN, oZ⟩ := bq_ c4; clear c4
  rotate_left
  focus
   rw [if_neg c4] at H; obtain ⟨kN, oZ⟩ := bn_ c4
  rotate_left
 rotate_left 2
 focus
  rw [if_neg c3] at H; obtain ⟨kM, mF⟩ := bn_ c3
 rotate_left
 all_goals
  obtain rfl := Option.some.inj H; go_enter Tryd.func55, Tryd.ntmps55; go_wp2_with (first | ((with_reducible refine aM (N := 1) rfl ?_); refine bx_ ((t5_ ah ak aj ai aY af.length aT)) 24 ?_; intro gb933 hg w5 BK933 _ HB hb; clear hb hg; obtain ⟨EF, hcz6_1, hcz6_2, hcz6_3, hcz6_4, _, _, _, _, _⟩ := bE BK933.out) | ((with_reducible refine ay (f := 22) rfl ?_); refine gl_ (some 5) Tryd.func22 #[.agg (t5_ ah ak aj ai aY af.length aT)] ?_; (with_reducible refine (gL.calls k ah ak aj ai _ _ af t934 _ ?au ?av A2.out).mono ?_); (case au => exact cb_ (Kd.aV bT.out HB.out)); (case av => exact ed.out); rintro e w7 ⟨rfl, hb⟩; refine ⟨_, rfl, ?_⟩; replace BK933 := kb_ BK933 hb; replace HB := aa.mk (ax bl_ hb); (try (obtain ⟨uw, _, _, _, _, _, _, _, _, _⟩ := bE BK933.out))))
  go_ret; exact ⟨re_, bl_⟩


/-! ### dR: function 29 -/
def dR.f (k : Nat) (ah ak aj ai : Int) (af : List (S24)) (bf : Int) (aC : List (S51)) : Option (Int) := (fu.f k ah ak aj ai af).bind fun t937 => (if t937 = 0 then ((jf.f ah ak aj ai af bf aC).bind fun t938 => (some t938)) else (some t937))
set_option maxHeartbeats 8000000 in
set_option maxRecDepth 100000 in
theorem dR.calls (k : Nat) (ah ak aj ai : Int) (aY : Option Addr) (aT : Nat) (af : List (S24)) (bf : Int) (dW : Option Addr) (dE : Nat) (aC : List (S51)) (r : Int) (w : World) (dD : Kd.C k24 w aY af.length af) (dX : af.length ≤ aT) (iW : Kd.C k51 w dW aC.length aC) (jB : aC.length ≤ dE) (h : dR.f k ah ak aj ai af bf aC = some r) :
  Calls Tryd.prog 29 #[.agg #[.int .i64 ah, .int .i64 ak, .int .i64 aj, .int .i64 ai, .slice aY af.length aT], .agg #[.int .i64 bf, .slice dW aC.length dE]] w fun e w' => e = .returned (.int .i64 r) ∧ Below w.heap.size w w' := by
 have bT := aa.mk dD; have ed := aa.mk dX; clear dD dX; have jw := aa.mk iW; have lK := aa.mk jB; clear iW jB; have HB := aa.mk (Below.refl w.heap.size w); have H : ((fu.f k ah ak aj ai af).bind fun t937 => (if t937 = 0 then ((jf.f ah ak aj ai af bf aC).bind fun t938 => (some t938)) else (some t937))) = some r := h; clear h; replace H := Option.bind_eq_some_iff.mp H; obtain ⟨t937, A30, H⟩ := H; have A3 := aa.mk A30; clear A30; by_cases c4 : t937 = 0
 focus
  rw [if_pos c4] at H; obtain ⟨kN, oZ⟩ := bq_ c4; clear c4; replace H := Option.bind_eq_some_iff.mp H; obtain ⟨t938, A50, H⟩ := H; have A5 := aa.mk A50; clear A50
 rotate_left
 focus
  rw [if_neg c4] at H; obtain ⟨kN, oZ⟩ := bn_ c4
 rotate_left
 all_goals
  obtain rfl := Option.some.inj H; go_enter Tryd.func29, Tryd.ntmps29; go_wp2_with (first | ((with_reducible refine aM (N := 2) rfl ?_); refine bx_ ((t5_ ah ak aj ai aY af.length aT)) 24 ?_; intro gb935 hg w6 Kz _ HB hb; clear hb hg) | ((with_reducible refine aM (N := 3) rfl ?_); refine bx_ ((t2_ bf dW aC.length dE)) 51 ?_; intro gb936 hg w7 BK936 _ HB hb; replace Kz := kb_ Kz hb; clear hb hg; obtain ⟨qy, uY, AJ, Fh, CQ, _, _, _, _, _⟩ := bE Kz.out) | ((with_reducible refine ay (f := 55) rfl ?_); refine gl_ (some 7) Tryd.func55 #[.agg (t5_ ah ak aj ai aY af.length aT)] ?_; (with_reducible refine (fu.calls k ah ak aj ai _ _ af t937 _ ?au ?av A3.out).mono ?_); (case au => exact cb_ (Kd.aV bT.out HB.out)); (case av => exact ed.out); rintro e w10 ⟨rfl, hb⟩; refine ⟨_, rfl, ?_⟩; replace Kz := kb_ Kz hb; replace BK936 := kb_ BK936 hb; replace HB := aa.mk (ax bl_ hb); (try (obtain ⟨xL, ED, EE, OU, JC, _, _, _, _, _⟩ := bE Kz.out; obtain ⟨pq, rZ, _, _⟩ := dS BK936.out))) | ((with_reducible refine ay (f := 56) rfl ?_); refine gl_ (some 13) Tryd.func56 #[.agg (t5_ ah ak aj ai aY af.length aT), .agg (t2_ bf dW aC.length dE)] ?_; (with_reducible refine (jf.calls ah ak aj ai _ _ af bf _ _ aC t938 _ ?au ?av ?bO ?bQ A5.out).mono ?_); (case au => exact cb_ (Kd.aV bT.out HB.out)); (case av => exact ed.out); (case bO => exact cb_ (Kd.aV jw.out HB.out)); (case bQ => exact lK.out); rintro e w13 ⟨rfl, hb⟩; refine ⟨_, rfl, ?_⟩; replace HB := aa.mk (ax bl_ hb)))
  go_ret; exact ⟨re_, bl_⟩


/-! ### cmp_isNaN_int: function 93 -/
def cmp_isNaN_int.f (a0 : Int) : Option (Bool) := some (a0 != a0)
set_option maxHeartbeats 8000000 in
set_option maxRecDepth 100000 in
theorem cmp_isNaN_int.calls (a0 : Int) (r : Bool) (w : World) (h : cmp_isNaN_int.f a0 = some r) :
    Calls Tryd.prog 93 #[.int .i64 a0] w fun e w' => e = .returned (.bool r) ∧ dF w w' := by
  have H : (some (a0 != a0)) = some r := h
  clear h
  obtain rfl := Option.some.inj H
  go_enter Tryd.func93, Tryd.ntmps93
  go_wp2
  go_ret
  exact ⟨by first | rfl | (simp; done) | (simp [*]; done), by repeat (first | exact dF.refl _ | apply dF.step)⟩


/-! ### cmp_Compare_int: function 80 -/
def cmp_Compare_int.f (a0 a1 : Int) : Option (Int) := (cmp_isNaN_int.f a0).bind fun t939 => ((cmp_isNaN_int.f a1).bind fun t940 => (if t939 = true then (if t940 = true then (some 0) else (some (-1))) else (if t940 = true then (some 1) else (if a0 < a1 then (some (-1)) else (if a0 > a1 then (some 1) else (some 0))))))
set_option maxHeartbeats 8000000 in
set_option maxRecDepth 100000 in
theorem cmp_Compare_int.calls (a0 a1 r : Int) (w : World) (h : cmp_Compare_int.f a0 a1 = some r) :
  Calls Tryd.prog 80 #[.int .i64 a0, .int .i64 a1] w fun e w' => e = .returned (.int .i64 r) ∧ dF w w' := by
 have H := h; unfold cmp_Compare_int.f at H; clear h; replace H := Option.bind_eq_some_iff.mp H; obtain ⟨t939, A30, H⟩ := H; have A3 := aa.mk A30; clear A30; replace H := Option.bind_eq_some_iff.mp H; obtain ⟨t940, A40, H⟩ := H; have A4 := aa.mk A40; clear A40; by_cases c5 : t939 = true
 ·subst c5; rw [if_pos rfl] at H; by_cases c6 : t940 = true
  ·subst c6; rw [if_pos rfl] at H; obtain rfl := Option.some.inj H; go_enter Tryd.func80, Tryd.ntmps80; go_wp2_with (first | ((with_reducible refine ay (f := 93) rfl ?_); refine gl_ (some 8) Tryd.func93 #[.int .i64 a0] ?_; (with_reducible refine (cmp_isNaN_int.calls a0 true _ A3.out).mono ?_); rintro e w' ⟨rfl, ⟨nd, rfl⟩⟩; refine ⟨_, rfl, ?_⟩) | ((with_reducible refine ay (f := 93) rfl ?_); refine gl_ (some 10) Tryd.func93 #[.int .i64 a1] ?_; (with_reducible refine (cmp_isNaN_int.calls a1 true _ A4.out).mono ?_); rintro e w' ⟨rfl, ⟨nd, rfl⟩⟩; refine ⟨_, rfl, ?_⟩))
   go_ret; exact ⟨by rfl, by repeat (first | exact dF.refl _ | apply dF.step)⟩
  ·replace c6 := Bool.eq_false_iff.mpr c6; subst c6; rw [if_neg (show ¬ (false = true) by decide)] at H; obtain rfl := Option.some.inj H; go_enter Tryd.func80, Tryd.ntmps80; go_wp2_with (first | ((with_reducible refine ay (f := 93) rfl ?_); refine gl_ (some 8) Tryd.func93 #[.int .i64 a0] ?_; (with_reducible refine (cmp_isNaN_int.calls a0 true _ A3.out).mono ?_); rintro e w' ⟨rfl, ⟨nd, rfl⟩⟩; refine ⟨_, rfl, ?_⟩) | ((with_reducible refine ay (f := 93) rfl ?_); refine gl_ (some 10) Tryd.func93 #[.int .i64 a1] ?_; (with_reducible refine (cmp_isNaN_int.calls a1 false _ A4.out).mono ?_); rintro e w' ⟨rfl, ⟨nd, rfl⟩⟩; refine ⟨_, rfl, ?_⟩))
   go_ret; exact ⟨by rfl, by repeat (first | exact dF.refl _ | apply dF.step)⟩
 ·replace c5 := Bool.eq_false_iff.mpr c5; subst c5; rw [if_neg (show ¬ (false = true) by decide)] at H; by_cases c7 : t940 = true
  ·subst c7; rw [if_pos rfl] at H; obtain rfl := Option.some.inj H; go_enter Tryd.func80, Tryd.ntmps80; go_wp2_with (first | ((with_reducible refine ay (f := 93) rfl ?_); refine gl_ (some 8) Tryd.func93 #[.int .i64 a0] ?_; (with_reducible refine (cmp_isNaN_int.calls a0 false _ A3.out).mono ?_); rintro e w' ⟨rfl, ⟨nd, rfl⟩⟩; refine ⟨_, rfl, ?_⟩) | ((with_reducible refine ay (f := 93) rfl ?_); refine gl_ (some 10) Tryd.func93 #[.int .i64 a1] ?_; (with_reducible refine (cmp_isNaN_int.calls a1 true _ A4.out).mono ?_); rintro e w' ⟨rfl, ⟨nd, rfl⟩⟩; refine ⟨_, rfl, ?_⟩))
   go_ret; exact ⟨by rfl, by repeat (first | exact dF.refl _ | apply dF.step)⟩
  ·replace c7 := Bool.eq_false_iff.mpr c7; subst c7; rw [if_neg (show ¬ (false = true) by decide)] at H; by_cases c8 : a0 < a1
   ·rw [if_pos c8] at H; have wE := decide_eq_true c8; clear c8; obtain rfl := Option.some.inj H; go_enter Tryd.func80, Tryd.ntmps80; go_wp2_with (first | ((with_reducible refine ay (f := 93) rfl ?_); refine gl_ (some 8) Tryd.func93 #[.int .i64 a0] ?_; (with_reducible refine (cmp_isNaN_int.calls a0 false _ A3.out).mono ?_); rintro e w' ⟨rfl, ⟨nd, rfl⟩⟩; refine ⟨_, rfl, ?_⟩) | ((with_reducible refine ay (f := 93) rfl ?_); refine gl_ (some 10) Tryd.func93 #[.int .i64 a1] ?_; (with_reducible refine (cmp_isNaN_int.calls a1 false _ A4.out).mono ?_); rintro e w' ⟨rfl, ⟨nd, rfl⟩⟩; refine ⟨_, rfl, ?_⟩))
    go_ret; exact ⟨by rfl, by repeat (first | exact dF.refl _ | apply dF.step)⟩
   ·rw [if_neg c8] at H; have wE := decide_eq_false c8; clear c8; by_cases c9 : a0 > a1
    ·rw [if_pos c9] at H; have qH : decide (a1 < a0) = true := decide_eq_true c9; clear c9; obtain rfl := Option.some.inj H; go_enter Tryd.func80, Tryd.ntmps80; go_wp2_with (first | ((with_reducible refine ay (f := 93) rfl ?_); refine gl_ (some 8) Tryd.func93 #[.int .i64 a0] ?_; (with_reducible refine (cmp_isNaN_int.calls a0 false _ A3.out).mono ?_); rintro e w' ⟨rfl, ⟨nd, rfl⟩⟩; refine ⟨_, rfl, ?_⟩) | ((with_reducible refine ay (f := 93) rfl ?_); refine gl_ (some 10) Tryd.func93 #[.int .i64 a1] ?_; (with_reducible refine (cmp_isNaN_int.calls a1 false _ A4.out).mono ?_); rintro e w' ⟨rfl, ⟨nd, rfl⟩⟩; refine ⟨_, rfl, ?_⟩))
     go_ret; exact ⟨by rfl, by repeat (first | exact dF.refl _ | apply dF.step)⟩
    ·rw [if_neg c9] at H; have qH : decide (a1 < a0) = false := decide_eq_false c9; clear c9; obtain rfl := Option.some.inj H; go_enter Tryd.func80, Tryd.ntmps80; go_wp2_with (first | ((with_reducible refine ay (f := 93) rfl ?_); refine gl_ (some 8) Tryd.func93 #[.int .i64 a0] ?_; (with_reducible refine (cmp_isNaN_int.calls a0 false _ A3.out).mono ?_); rintro e w' ⟨rfl, ⟨nd, rfl⟩⟩; refine ⟨_, rfl, ?_⟩) | ((with_reducible refine ay (f := 93) rfl ?_); refine gl_ (some 10) Tryd.func93 #[.int .i64 a1] ?_; (with_reducible refine (cmp_isNaN_int.calls a1 false _ A4.out).mono ?_); rintro e w' ⟨rfl, ⟨nd, rfl⟩⟩; refine ⟨_, rfl, ?_⟩))
     go_ret; exact ⟨by rfl, by repeat (first | exact dF.refl _ | apply dF.step)⟩


/-! ### eT: function 60 -/
def eT.l0 : Nat → List Int → List Int → List Int → Int → Int → Option (Int)
 | 0, _, _, _, _, _ => none
 | k + 1, x0, x1, x9, x10, x11 => if x11 < x10 then (if 0 ≤ x11 then (if x11 < (x9.length : Int) then (if x11 ≥ (x1.length : Int) then (some 1) else (if x11 < (x1.length : Int) then ((cmp_Compare_int.f (rd x9 x11) (rd x1 x11)).bind fun t943 => (if t943 = 0 then (eT.l0 k x0 x1 x9 x10 (wrap64 (x11 + 1))) else (some t943))) else (none))) else (none)) else (none)) else (if (x0.length : Int) < (x1.length : Int) then (some (-1)) else (some 0))
def eT.f (k : Nat) (l0 l1 : List Int) : Option (Int) := eT.l0 k l0 l1 l0 (l0.length : Int) 0
set_option maxHeartbeats 8000000 in
set_option maxRecDepth 100000 in
theorem eT.calls (k : Nat) (A0 : Option Addr) (c0 : Nat) (l0 : List Int) (A1 : Option Addr) (c1 : Nat) (l1 : List Int) (r : Int) (w : World) (hr0 : Kd.C (Kd.int .i64) w A0 l0.length l0) (hc0 : l0.length ≤ c0) (hr1 : Kd.C (Kd.int .i64) w A1 l1.length l1) (hc1 : l1.length ≤ c1) (h : eT.f k l0 l1 = some r) :
  Calls Tryd.prog 60 #[.slice A0 l0.length c0, .slice A1 l1.length c1] w fun e w' => e = .returned (.int .i64 r) ∧ dF w w' := by
 have HR0 := aa.mk hr0; clear hr0 hc0; have HR1 := aa.mk hr1; clear hr1 hc1; have H := h; unfold eT.f at H; clear h; have H' := aa.mk H; clear H; go_enter Tryd.func60, Tryd.ntmps60; go_wp2; go_loopg [11] k (fun kq v11 w' => ∃ (kz : Int), v11 = .int .i64 kz ∧ aa (eT.l0 kq l0 l1 l0 (l0.length : Int) kz = some r) ∧ aa (kq ≤ k) ∧ dF w w')
 case atStart => exact ⟨(0), rs_, H', ⟨Nat.le_refl _⟩, by repeat (exact dF.refl _)⟩
 case round =>
  clear H'; obtain ⟨kz, rfl, HA, HK1, ⟨m1, rfl⟩⟩ := hrel; cases gk with
  | zero => exact absurd HA.out (by simp [eT.l0])
  | succ k1 =>
   have H := HA.out; clear HA; simp only [eT.l0] at H; by_cases c3 : kz < (l0.length : Int)
   ·rw [if_pos c3] at H; clear c3; by_cases c4 : 0 ≤ kz
    ·rw [if_pos c4] at H; have kN := decide_eq_true c4; clear c4; by_cases c5 : kz < (l0.length : Int)
     ·rw [if_pos c5] at H; have rH := decide_eq_true c5; clear c5; by_cases c6 : kz ≥ (l1.length : Int)
      ·rw [if_pos c6] at H; have rX : decide ((l1.length : Int) ≤ kz) = true := decide_eq_true c6; clear c6; obtain rfl := Option.some.inj H; have Dc : 0 ≤ (kz : Int) := dt_; have De : kz < (l0.length : Int) := dt_; obtain ⟨ad941, e941, WL⟩ := Kd.gz HR0.out kz Dc De; cases e941; replace Dc := eq_true Dc; replace De := eq_true De; go_wp2; go_ret; exact ⟨by rfl, by repeat (first | exact dF.refl _ | apply dF.step)⟩
      ·rw [if_neg c6] at H; have rX : decide ((l1.length : Int) ≤ kz) = false := decide_eq_false c6; clear c6; by_cases c7 : kz < (l1.length : Int)
       ·rw [if_pos c7] at H; have tO := decide_eq_true c7; clear c7; replace H := Option.bind_eq_some_iff.mp H; obtain ⟨t943, A80, H⟩ := H; have A8 := aa.mk A80; clear A80; by_cases c9 : t943 = 0
        ·rw [if_pos c9] at H; obtain ⟨qH, CP⟩ := bq_ c9; clear c9; have H' := aa.mk H; clear H; have Dc : 0 ≤ (kz : Int) := dt_; have De : kz < (l0.length : Int) := dt_; obtain ⟨ad941, e941, WL⟩ := Kd.gz HR0.out kz Dc De; cases e941; replace Dc := eq_true Dc; replace De := eq_true De; have p942 : 0 ≤ (kz : Int) := dt_; have q942 : kz < (l1.length : Int) := dt_; obtain ⟨ad942, e942, hx942_0⟩ := Kd.gz HR1.out kz p942 q942; cases e942; replace q942 := eq_true q942; go_wp2_with (((with_reducible refine ay (f := 80) rfl ?_); refine gl_ (some 26) Tryd.func80 #[.int .i64 (rd l0 kz), .int .i64 (rd l1 kz)] ?_; (with_reducible refine (cmp_Compare_int.calls (rd l0 kz) (rd l1 kz) t943 _ A8.out).mono ?_); rintro e w' ⟨rfl, ⟨nd, rfl⟩⟩; refine ⟨_, rfl, ?_⟩))
         go_roundg k1
         case measure => have := HK1.out; omega
         case rel => exact ⟨(wrap64 (kz + 1)), rs_, H', ⟨by have := HK1.out; omega⟩, by repeat (first | exact dF.refl _ | apply dF.step)⟩
        ·rw [if_neg c9] at H; obtain ⟨qH, CP⟩ := bn_ c9; obtain rfl := Option.some.inj H; have Dc : 0 ≤ (kz : Int) := dt_; have De : kz < (l0.length : Int) := dt_; obtain ⟨ad941, e941, WL⟩ := Kd.gz HR0.out kz Dc De; cases e941; replace Dc := eq_true Dc; replace De := eq_true De; have p942 : 0 ≤ (kz : Int) := dt_; have q942 : kz < (l1.length : Int) := dt_; obtain ⟨ad942, e942, hx942_0⟩ := Kd.gz HR1.out kz p942 q942; cases e942; replace q942 := eq_true q942; go_wp2_with (((with_reducible refine ay (f := 80) rfl ?_); refine gl_ (some 26) Tryd.func80 #[.int .i64 (rd l0 kz), .int .i64 (rd l1 kz)] ?_; (with_reducible refine (cmp_Compare_int.calls (rd l0 kz) (rd l1 kz) t943 _ A8.out).mono ?_); rintro e w' ⟨rfl, ⟨nd, rfl⟩⟩; refine ⟨_, rfl, ?_⟩))
         go_ret; exact ⟨by rfl, by repeat (first | exact dF.refl _ | apply dF.step)⟩
       ·rw [if_neg c7] at H; exact absurd H (by simp)
     ·rw [if_neg c5] at H; exact absurd H (by simp)
    ·rw [if_neg c4] at H; exact absurd H (by simp)
   ·rw [if_neg c3] at H; have kM := decide_eq_false c3; clear c3; by_cases c10 : (l0.length : Int) < (l1.length : Int)
    ·rw [if_pos c10] at H; have c10b1 : decide (l0.length < l1.length) = true := decide_eq_true (Int.ofNat_lt.mp c10); clear c10; obtain rfl := Option.some.inj H; go_wp2; go_ret; exact ⟨by rfl, by repeat (first | exact dF.refl _ | apply dF.step)⟩
    ·rw [if_neg c10] at H; have c10b1 : decide (l0.length < l1.length) = false := decide_eq_false (fun h => c10 (Int.ofNat_lt.mpr h)); clear c10; obtain rfl := Option.some.inj H; go_wp2; go_ret; exact ⟨by rfl, by repeat (first | exact dF.refl _ | apply dF.step)⟩


/-! ### kI: function 31 -/
def kI.f (k : Nat) (ah ak aj ai : Int) (af : List (S24)) (bf : Int) (aC : List (S51)) (iN : Int) (gQ : List (S51)) : Option (Int × Int) := (eZ.f k ah ak aj ai af bf aC).bind fun GQ => (if GQ.2 = 0 then ((eZ.f k ah ak aj ai af iN gQ).bind fun GR => (if GR.2 = 0 then ((eT.f k GQ.1 GR.1).bind fun t955 => (some (t955, 0))) else (some (0, GR.2)))) else (some (0, GQ.2)))
set_option maxHeartbeats 8000000 in
set_option maxRecDepth 100000 in
theorem kI.calls (k : Nat) (ah ak aj ai : Int) (aY : Option Addr) (aT : Nat) (af : List (S24)) (bf : Int) (dW : Option Addr) (dE : Nat) (aC : List (S51)) (iN : Int) (nQ : Option Addr) (nR : Nat) (gQ : List (S51)) (r1 r2 : Int) (w : World) (dD : Kd.C k24 w aY af.length af) (dX : af.length ≤ aT) (iW : Kd.C k51 w dW aC.length aC) (jB : aC.length ≤ dE) (DR : Kd.C k51 w nQ gQ.length gQ) (DT : gQ.length ≤ nR) (h : kI.f k ah ak aj ai af bf aC iN gQ = some (r1, r2)) :
  Calls Tryd.prog 31 #[.agg #[.int .i64 ah, .int .i64 ak, .int .i64 aj, .int .i64 ai, .slice aY af.length aT], .agg #[.int .i64 bf, .slice dW aC.length dE], .agg #[.int .i64 iN, .slice nQ gQ.length nR]] w fun e w' => e = .returned (.tuple #[.int .i64 r1, .int .i64 r2]) ∧ Below w.heap.size w w' := by
 have bT := aa.mk dD; have ed := aa.mk dX; clear dD dX; have jw := aa.mk iW; have lK := aa.mk jB; clear iW jB; have GU := aa.mk DR; have GV := aa.mk DT; clear DR DT; have HB := aa.mk (Below.refl w.heap.size w); have H : ((eZ.f k ah ak aj ai af bf aC).bind fun GQ => (if GQ.2 = 0 then ((eZ.f k ah ak aj ai af iN gQ).bind fun GR => (if GR.2 = 0 then ((eT.f k GQ.1 GR.1).bind fun t955 => (some (t955, 0))) else (some (0, GR.2)))) else (some (0, GQ.2)))) = some (r1, r2) := h; clear h; replace H := Option.bind_eq_some_iff.mp H; obtain ⟨⟨t947, t950⟩, A40, H⟩ := H; (try dsimp only at H)
 have A4 := aa.mk A40; clear A40; by_cases c5 : t950 = 0
 focus
  rw [if_pos c5] at H; obtain ⟨rH, c5b1⟩ := bq_ c5; clear c5; replace H := Option.bind_eq_some_iff.mp H; obtain ⟨⟨t951, t954⟩, A60, H⟩ := H; (try dsimp only at H)
  have A6 := aa.mk A60; clear A60; by_cases c7 : t954 = 0
  focus
   rw [if_pos c7] at H; obtain ⟨tO, AX⟩ := bq_ c7; clear c7; replace H := Option.bind_eq_some_iff.mp H; obtain ⟨t955, A80, H⟩ := H; have A8 := aa.mk A80; clear A80
  rotate_left
  focus
   rw [if_neg c7] at H; obtain ⟨tO, AX⟩ := bn_ c7
  rotate_left
 rotate_left 2
 focus
  rw [if_neg c5] at H; obtain ⟨rH, c5b1⟩ := bn_ c5
 rotate_left
 all_goals
  simp only [Option.some.injEq, Prod.mk.injEq] at H; obtain ⟨rfl, rfl⟩ := H; go_enter Tryd.func31, Tryd.ntmps31; go_wp2_with (first | ((with_reducible refine aM (N := 3) rfl ?_); refine bx_ ((t5_ ah ak aj ai aY af.length aT)) 24 ?_; intro gb944 hg w9 DU _ HB hb; clear hb hg) | ((with_reducible refine aM (N := 4) rfl ?_); refine bx_ ((t2_ bf dW aC.length dE)) 51 ?_; intro gb945 hg w10 BK945 _ HB hb; replace DU := kb_ DU hb; clear hb hg) | ((with_reducible refine aM (N := 5) rfl ?_); refine bx_ ((t2_ iN nQ gQ.length nR)) 51 ?_; intro gb946 hg w11 BK946 _ HB hb; replace DU := kb_ DU hb; replace BK945 := kb_ BK945 hb; clear hb hg; obtain ⟨uF, vV, BX, xN, xO, _, _, _, _, _⟩ := bE DU.out; obtain ⟨qP, rY, _, _⟩ := dS BK945.out) | ((with_reducible refine ay (f := 57) rfl ?_); refine gl_ (some 14) Tryd.func57 #[.agg (t5_ ah ak aj ai aY af.length aT), .agg (t2_ bf dW aC.length dE)] ?_; (with_reducible refine (eZ.calls k ah ak aj ai _ _ af bf _ _ aC t947 t950 _ ?au ?av ?bO ?bQ A4.out).mono ?_); (case au => exact cb_ (Kd.aV bT.out HB.out)); (case av => exact ed.out); (case bO => exact cb_ (Kd.aV jw.out HB.out)); (case bQ => exact lK.out); rintro e w17 ⟨v948, rfl, ho0, hb⟩; refine ⟨_, rfl, ?_⟩; have KA := aa.mk (Kd.bN ho0 (aI bl_)); replace DU := kb_ DU hb; replace BK946 := kb_ BK946 hb; replace HB := aa.mk (ax bl_ hb); (try (obtain ⟨vR, uD, xM, zf, zk, _, _, _, _, _⟩ := bE DU.out; obtain ⟨Cv, Qn, _, _⟩ := dS BK946.out))) | ((with_reducible refine ay (f := 57) rfl ?_); refine gl_ (some 23) Tryd.func57 #[.agg (t5_ ah ak aj ai aY af.length aT), .agg (t2_ iN nQ gQ.length nR)] ?_; (with_reducible refine (eZ.calls k ah ak aj ai _ _ af iN _ _ gQ t951 t954 _ ?au ?av ?bO ?bQ A6.out).mono ?_); (case au => exact cb_ (Kd.aV bT.out HB.out)); (case av => exact ed.out); (case bO => exact cb_ (Kd.aV GU.out HB.out)); (case bQ => exact GV.out); rintro e w20 ⟨v952, rfl, ho0, hb⟩; refine ⟨_, rfl, ?_⟩; have HO953 := aa.mk (Kd.bN (Kd.eG ho0 (Kd.fK (pR_ KA.out))) (aI bl_)); replace KA := aa.mk (Kd.fI (pR_ KA.out) (Kd.dI ho0) hb); replace HB := aa.mk (ax bl_ hb); (try (obtain ⟨Ao21, co21, eo21⟩ := Kd.bF KA.out; subst eo21; obtain ⟨Df, Dg, eo22⟩ := Kd.bF HO953.out; subst eo22))) | ((with_reducible refine ay (f := 60) rfl ?_); refine gl_ (some 31) Tryd.func60 #[.slice Ao21 t947.length co21, .slice Df t951.length Dg] ?_; (with_reducible refine (eT.calls k _ _ t947 _ _ t951 t955 _ ?au ?av ?bO ?bQ A8.out).mono ?_); (case au => exact cb_ ((Kd.aZ KA.out).2.2)); (case av => exact (Kd.aZ KA.out).2.1); (case bO => exact cb_ ((Kd.aZ HO953.out).2.2)); (case bQ => exact (Kd.aZ HO953.out).2.1); rintro e w' ⟨rfl, ⟨nd, rfl⟩⟩; refine ⟨_, rfl, ?_⟩))
  go_ret2; exact ⟨re_, bl_⟩


/-! ### lM: function 71 -/
def lM.f (a0 : Int) : Option ByteArray := if -9223372036854775808 ≤ a0 ∧ a0 ≤ 9223372036854775807 then some ⟨(Lib.itoa a0).toArray⟩ else none
theorem lM.calls (a0 : Int) (r : ByteArray) (w : World) (h : lM.f a0 = some r) (htab : qx w.heap.size w) :
    Calls Tryd.prog 71 #[.int .i64 a0] w fun e w' => e = .returned (.string r) ∧ Below w.heap.size w w' := by
  unfold lM.f at h
  by_cases h0 : -9223372036854775808 ≤ a0 ∧ a0 ≤ 9223372036854775807
  · rw [if_pos h0] at h
    obtain rfl := Option.some.inj h
    refine (Tryd.strconv_Itoa a0 h0.1 h0.2 w htab.here).mono ?_
    rintro e w' ⟨rfl, k, os, rfl⟩
    exact ⟨rfl, Tz w k os⟩
  · rw [if_neg h0] at h; cases h


/-! ### strings_Join: function 72 -/
def strings_Join.f (l0 : List ByteArray) (a1 : ByteArray) : Option ByteArray := if l0.length ≤ 140737488355328 ∧ (Lib.join (l0.map (·.data.toList)) a1.data.toList).length ≤ 140737488355328 then some ⟨(Lib.join (l0.map (·.data.toList)) a1.data.toList).toArray⟩ else none
theorem strings_Join.calls (A0 : Option Addr) (c0 : Nat) (l0 : List ByteArray) (a1 : ByteArray) (r : ByteArray) (w : World) (hr0 : Kd.C Kd.string w A0 l0.length l0) (hc0 : l0.length ≤ c0) (h : strings_Join.f l0 a1 = some r) :
    Calls Tryd.prog 72 #[.slice A0 l0.length c0, .string a1] w fun e w' => e = .returned (.string r) ∧ Below w.heap.size w w' := by
  unfold strings_Join.f at h
  by_cases h0 : l0.length ≤ 140737488355328 ∧ (Lib.join (l0.map (·.data.toList)) a1.data.toList).length ≤ 140737488355328
  · rw [if_pos h0] at h
    obtain rfl := Option.some.inj h
    exact TA A0 c0 l0 a1 w hr0 hc0 h0.1 h0.2
  · rw [if_neg h0] at h; cases h


/-! ### kQ: function 94 -/
def kQ.f (a0 : Bool) : Option (ByteArray) := if a0 = true then (some (⟨#[116, 114, 117, 101]⟩ : ByteArray)) else (some (⟨#[102, 97, 108, 115, 101]⟩ : ByteArray))
set_option maxHeartbeats 8000000 in
set_option maxRecDepth 100000 in
theorem kQ.calls (a0 : Bool) (r : ByteArray) (w : World) (h : kQ.f a0 = some r) :
    Calls Tryd.prog 94 #[.bool a0] w fun e w' => e = .returned (.string r) ∧ dF w w' := by
  have H : (if a0 = true then (some (⟨#[116, 114, 117, 101]⟩ : ByteArray)) else (some (⟨#[102, 97, 108, 115, 101]⟩ : ByteArray))) = some r := h
  clear h
  by_cases c2 : a0 = true
  · subst c2
    have H1 : (some (⟨#[116, 114, 117, 101]⟩ : ByteArray)) = some r := by rw [if_pos rfl] at H; exact H
    clear H
    have H := H1
    clear H1
    obtain rfl := Option.some.inj H
    go_enter Tryd.func94, Tryd.ntmps94
    go_wp2
    go_ret
    exact ⟨by first | rfl | (simp; done) | (simp [*]; done), by repeat (first | exact dF.refl _ | apply dF.step)⟩
  · replace c2 := Bool.eq_false_iff.mpr c2
    subst c2
    have H1 : (some (⟨#[102, 97, 108, 115, 101]⟩ : ByteArray)) = some r := by rw [if_neg (show ¬ (false = true) by decide)] at H; exact H
    clear H
    have H := H1
    clear H1
    obtain rfl := Option.some.inj H
    go_enter Tryd.func94, Tryd.ntmps94
    go_wp2
    go_ret
    exact ⟨by first | rfl | (simp; done) | (simp [*]; done), by repeat (first | exact dF.refl _ | apply dF.step)⟩


/-! ### lS: function 82 -/
def lS.f (a0 : Bool) : Option (ByteArray) := (kQ.f a0).bind fun t956 => (some t956)
set_option maxHeartbeats 8000000 in
set_option maxRecDepth 100000 in
theorem lS.calls (a0 : Bool) (r : ByteArray) (w : World) (h : lS.f a0 = some r) :
    Calls Tryd.prog 82 #[.bool a0] w fun e w' => e = .returned (.string r) ∧ dF w w' := by
  have H : ((kQ.f a0).bind fun t956 => (some t956)) = some r := h
  clear h
  replace H := Option.bind_eq_some_iff.mp H
  obtain ⟨t956, A20, H⟩ := H
  replace H : (some t956) = some r := H
  have A2 := aa.mk A20
  clear A20
  obtain rfl := Option.some.inj H
  go_enter Tryd.func82, Tryd.ntmps82
  go_wp2_with (first | ((with_reducible refine ay (f := 94) rfl ?_); refine CE (some 4) rfl rfl Tryd.func94 (by kernel_rfl) rfl #[.bool a0] rfl (by (try simp only [List.map_toArray, List.map_cons, List.map_nil]); first | done | rfl | (simp only [List.length_drop, List.length_take]; rfl)) ?_; (with_reducible refine (kQ.calls a0 t956 _ A2.out).mono ?_); rintro e w' ⟨rfl, ⟨nd, rfl⟩⟩; refine ⟨_, rfl, ?_⟩))
  go_ret
  exact ⟨by first | rfl | (simp; done) | (simp [*]; done), by repeat (first | exact dF.refl _ | apply dF.step)⟩


/-! ### cB: function 62 -/
mutual
def cB.j0 : Nat → Bool → Int → Int → Int → Int → List (S24) → Int → List (S51) → Option (ByteArray)
 | 0, _, _, _, _, _, _, _, _ => none
 | k + 1, x15, Cw, KC, KD, KE, KF, WM, FV => if x15 = true then (if 0 ≤ (FV.length : Int) then (if ((FV.length : Int) : Int).toNat ≤ 17592186044416 then (cB.l0 k (List.replicate ((FV.length : Int) : Int).toNat (⟨#[]⟩ : ByteArray)) FV (FV.length : Int) 0 Cw KC KD KE KF) else (none)) else (none)) else (if Cw = 1 then ((lS.f (WM == 1)).bind fun t975 => (some t975)) else ((lM.f WM).bind fun t976 => (some t976)))
def cB.l0 : Nat → List ByteArray → List (S51) → Int → Int → Int → Int → Int → Int → List (S24) → Option (ByteArray)
 | 0, _, _, _, _, _, _, _, _, _ => none
 | k + 1, x5, x21, x22, x23, Cw, KC, KD, KE, KF => if x23 < x22 then (if 0 ≤ x23 then (if x23 < (x21.length : Int) then ((jH.f Cw KC KD KE KF x23).bind fun Nu => ((cB.f k Nu.1 Nu.2.1 Nu.2.2.1 Nu.2.2.2.1 Nu.2.2.2.2 ((bq x21 x23).f0) ((bq x21 x23).f1)).bind fun t971 => (if x23 < (x5.length : Int) then (cB.l0 k (x5.set (x23 : Int).toNat t971) x21 x22 (wrap64 (x23 + 1)) Cw KC KD KE KF) else (none)))) else (none)) else (none)) else (if Cw = 5 then ((strings_Join.f x5 (⟨#[44, 32]⟩ : ByteArray)).bind fun t973 => (if 1 + t973.size ≤ 9223372036854775807 then (if ((⟨#[40]⟩ : ByteArray) ++ t973).size + 1 ≤ 9223372036854775807 then (some (((⟨#[40]⟩ : ByteArray) ++ t973) ++ (⟨#[41]⟩ : ByteArray))) else (none)) else (none))) else ((strings_Join.f x5 (⟨#[44, 32]⟩ : ByteArray)).bind fun t974 => (if 1 + t974.size ≤ 9223372036854775807 then (if ((⟨#[91]⟩ : ByteArray) ++ t974).size + 1 ≤ 9223372036854775807 then (some (((⟨#[91]⟩ : ByteArray) ++ t974) ++ (⟨#[93]⟩ : ByteArray))) else (none)) else (none))))
def cB.f : Nat → Int → Int → Int → Int → List (S24) → Int → List (S51) → Option (ByteArray)
 | 0, _, _, _, _, _, _, _ => none
 | k + 1, ah, ak, aj, ai, af, bf, aC => if ah = 5 then (cB.j0 k true ah ak aj ai af bf aC) else (cB.j0 k (ah == 6) ah ak aj ai af bf aC)
end
def cB.T6 : Bool × List (List Nat × List Nat) := (true, [([], []), ([], []), ([], []), ([], []), ([2, 3], [2, 3]), ([], []), ([4, 5, 4], [4, 5]), ([0, 1, 0, 1, 2, 3, 4, 5, 6], [0, 1]), ([7, 6, 6, 0, 1, 2, 3, 4, 5, 6], [6, 7])])
def cB.B6 : List Nat := [0, 0, 0, 0, 12, 0, 60, 127, 255]
theorem cB.tab6 : jX .any (opsOf Tryd.f62 6) = cB.T6 := by kernel_rfl
theorem cB.Nq : jK cB.T6.2 cB.B6 = true := by kernel_rfl
set_option maxHeartbeats 8000000 in
set_option maxRecDepth 100000 in
theorem cB.calls (k : Nat) : ∀ (ah ak aj ai : Int) (aY : Option Addr) (aT : Nat) (af : List (S24)) (bf : Int) (dW : Option Addr) (dE : Nat) (aC : List (S51)) (r : ByteArray) (w : World) (dD : Kd.C k24 w aY af.length af) (dX : af.length ≤ aT) (iW : Kd.C k51 w dW aC.length aC) (jB : aC.length ≤ dE) (h : cB.f k ah ak aj ai af bf aC = some r) (htab : qx w.heap.size w),
  Calls Tryd.prog 62 #[.agg #[.int .i64 ah, .int .i64 ak, .int .i64 aj, .int .i64 ai, .slice aY af.length aT], .agg #[.int .i64 bf, .slice dW aC.length dE]] w fun e w' => e = .returned (.string r) ∧ Below w.heap.size w w' := by
 induction k using Nat.strongRecOn with
 | _ k ih =>
 intro ah ak aj ai aY aT af bf dW dE aC r w dD dX iW jB h htab; have HTAB := aa.mk htab; clear htab; cases k with
 | zero => exact absurd h (by simp [cB.f])
 | succ k =>
 simp only [cB.f] at h; have bT := aa.mk dD; have ed := aa.mk dX; clear dD dX; have jw := aa.mk iW; clear iW jB; have HB := aa.mk (Below.refl w.heap.size w); have H := h; unfold cB.f at H; clear h; have HC3 := aa.mk H; clear H; go_enter Tryd.func62, Tryd.ntmps62; go_upto_region 1 with (first | ((with_reducible refine aM (N := 2) rfl ?_); refine bx_ ((t5_ ah ak aj ai aY af.length aT)) 24 ?_; intro Am hg w4 jD GW957 HB hb; clear hb hg) | ((with_reducible refine aM (N := 3) rfl ?_); refine bx_ ((t2_ bf dW aC.length dE)) 51 ?_; intro Nv hg w5 oz GW958 HB hb; replace jD := kb_ jD hb; clear hb hg))
 go_cut [15] (fun v15 wc => ∃ (kq : Nat) (BC : Bool), v15 = .bool BC ∧ aa (cB.j0 kq BC ah ak aj ai af bf aC = some r) ∧ aa (kq ≤ k) ∧ aa (wc.heap[Am]? = some (.cells #[.int .i64 ah, .int .i64 ak, .int .i64 aj, .int .i64 ai, (.slice aY af.length aT)] 24 (0, 0))) ∧ aa (wc.heap[Nv]? = some (.cells #[.int .i64 bf, (.slice dW aC.length dE)] 51 (0, 0))) ∧ aa (Below w.heap.size w wc))
 case first =>
  have H := HC3.out; clear HC3; by_cases c6 : ah = 5
  ·rw [if_pos c6] at H; obtain ⟨rX, c6b1⟩ := bq_ c6; clear c6; (skip); have H' := aa.mk H; clear H; obtain ⟨uw, _, _, _, _, _, _, _, _, _⟩ := bE jD.out; go_wp2; go_meet
   case rel => exact ⟨_, (true), rs_, H', ⟨by omega⟩, ⟨bk_⟩, ⟨bk_⟩, ⟨bl_⟩⟩
  ·rw [if_neg c6] at H; obtain ⟨rX, c6b1⟩ := bn_ c6; (skip); have H' := aa.mk H; clear H; obtain ⟨o8, _, _, _, _, _, _, _, _, _⟩ := bE jD.out; go_wp2; go_meet
   case rel => exact ⟨_, ((ah == 6)), rs_, H', ⟨by omega⟩, ⟨bk_⟩, ⟨bk_⟩, ⟨bl_⟩⟩
 case rest =>
  clear HC3; obtain ⟨kq, BC, rfl, HA, HJ2, jD, oz, HB⟩ := hcut; cases kq with
  | zero => exact absurd HA.out (by simp [cB.j0])
  | succ kj2 =>
   have H := HA.out; clear HA; simp only [cB.j0] at H; by_cases c11 : BC = true
   ·subst c11; rw [if_pos rfl] at H; by_cases c12 : 0 ≤ (aC.length : Int)
    ·rw [if_pos c12] at H; have Br := decide_eq_true c12; clear c12; by_cases c13 : ((aC.length : Int) : Int).toNat ≤ 17592186044416
     ·rw [if_pos c13] at H; have c13b1 := decide_eq_true c13; clear c13; generalize hy959 : (List.replicate ((aC.length : Int) : Int).toNat (⟨#[]⟩ : ByteArray)) = y959 at H; replace hy959 := hy959.symm; have Ny959 := aa.mk hy959; clear hy959; have H' := aa.mk H; clear H; obtain ⟨_, WN, _, _⟩ := dS oz.out; go_wp2_with (((with_reducible refine aM (N := 19) rfl ?_); refine Kd.Rw Kd.string _ 9 rfl (N := 19) rfl 79 _ _ rfl (aC.length : Int) rfl rfl Tryd.underlying79 (.string ⟨#[]⟩) 16 info9 rfl (by decide) (by omega) (⟨#[]⟩ : ByteArray) (ok := fun _ => True) (okp := fun _ => True) rfl (fun _ hk => hk) trivial (dt_) (Nat.le_trans (Nat.mul_le_mul_right _ (dt_ : (aC.length : Int).toNat ≤ 17592186044416)) (by omega)) (Below.refl _ _) (Nat.le_refl _) ?_; intro v960 w16 ho17 hb hg_ iy; clear hg_ iy; (rw [← Ny959.out] at ho17); have HO961 := aa.mk (Kd.bN ho17 (aI bl_)); replace jD := kb_ jD hb; replace oz := kb_ oz hb; replace HB := aa.mk (ax bl_ hb); clear hb ho17; obtain ⟨_, uD, _, _⟩ := dS oz.out))
      go_loopg [23] kj2 (fun kq v23 w' => ∃ (gq : List ByteArray) (jm : Int), v23 = .int .i64 jm ∧ aa (cB.l0 kq gq aC (aC.length : Int) jm ah ak aj ai af = some r) ∧ aa (kq ≤ kj2) ∧ aa (Kd.R Kd.string 9 w' w.heap.size (fun _ => True) v960 gq) ∧ aa (w'.heap[Am]? = some (.cells #[.int .i64 ah, .int .i64 ak, .int .i64 aj, .int .i64 ai, (.slice aY af.length aT)] 24 (0, 0))) ∧ aa (w'.heap[Nv]? = some (.cells #[.int .i64 bf, (.slice dW aC.length dE)] 51 (0, 0))) ∧ aa (Below w.heap.size w w'))
      case atStart => exact ⟨(y959), (0), rs_, H', ⟨Nat.le_refl _⟩, ⟨pR_ HO961.out⟩, ⟨bk_⟩, ⟨bk_⟩, ⟨bl_⟩⟩
      case round =>
       clear H'; obtain ⟨gq, jm, rfl, HA, HK2, fE, jD, oz, HB⟩ := hrel; cases gk with
       | zero => exact absurd HA.out (by simp [cB.l0])
       | succ k2 =>
        have H := HA.out; clear HA; simp only [cB.l0] at H; by_cases c19 : jm < (aC.length : Int)
        ·rw [if_pos c19] at H; clear c19; by_cases c20 : 0 ≤ jm
         ·rw [if_pos c20] at H; have wR := decide_eq_true c20; clear c20; by_cases c21 : jm < (aC.length : Int)
          ·rw [if_pos c21] at H; have uQ := decide_eq_true c21; clear c21; replace H := Option.bind_eq_some_iff.mp H; obtain ⟨⟨t964, t965, t966, t967, t968⟩, A220, H⟩ := H; (try dsimp only at H); have A22 := aa.mk A220; clear A220; replace H := Option.bind_eq_some_iff.mp H; obtain ⟨t971, A230, H⟩ := H; have A23 := aa.mk A230; clear A230; by_cases c24 : jm < (gq.length : Int)
           ·rw [if_pos c24] at H; have Ah := decide_eq_true c24; clear c24; generalize hy972 : (gq.set (jm : Int).toNat t971) = y972 at H; replace hy972 := hy972.symm; have Ny972 := aa.mk hy972; clear hy972; have H' := aa.mk H; clear H; have p962 : 0 ≤ (jm : Int) := dt_; have q962 : jm < (aC.length : Int) := dt_; obtain ⟨ad962, vv, vw, e962, WO, WQ, WR, WS⟩ := rW jw.out jm p962 q962; cases e962; replace WO := hc_ HB WO; replace WQ := hc_ HB WQ; have HR962_1 := aa.mk WS; have HC962_1 := aa.mk WR; clear WS WR; replace p962 := eq_true p962; replace q962 := eq_true q962; try go_wp2_with (((with_reducible refine aM (N := 7) rfl ?_); refine bx_ ((t2_ 0 none 0 0)) 51 ?_; intro pU hg w26 ry GW963 HB hb; have GE963 := GW963; have Ra := nl_ jD hg; have Rb := nl_ oz hg; replace fE := aa.mk (Kd.dH (pR_ fE.out) hb); replace jD := kb_ jD hb; replace oz := kb_ oz hb; clear hb hg; obtain ⟨Qm, EU, hfz29_0, hfz29_1⟩ := dS ry.out))
            have n0_ : aa (Kd.R Kd.string 9 ((w26.setCell ⟨pU, 0, none⟩ (.int .i64 ((bq aC jm).f0))).setCell ⟨pU, 1, none⟩ (.slice vv ((bq aC jm).f1).length vw)) w.heap.size (fun _ => True) v960 gq) := ⟨by exact Kd.aX (Kd.bL (p := ⟨pU, 1, none⟩) (Kd.bL (p := ⟨pU, 0, none⟩) (Kd.ko fE.out ry.out (by decide)) (fun _ hk => hk.2) (.int .i64 ((bq aC jm).f0))) (fun _ hk => hk.2) (.slice vv ((bq aC jm).f1).length vw)) (fun _ hk => trivial)⟩; have n1_ : aa (((w26.setCell ⟨pU, 0, none⟩ (.int .i64 ((bq aC jm).f0))).setCell ⟨pU, 1, none⟩ (.slice vv ((bq aC jm).f1).length vw)).heap[Am]? = some (.cells (t5_ ah ak aj ai aY af.length aT) 24 (0, 0))) := ⟨by refine bP ?_ Ra.out _; refine bP ?_ Ra.out _; exact jD.out⟩; have n2_ : aa (((w26.setCell ⟨pU, 0, none⟩ (.int .i64 ((bq aC jm).f0))).setCell ⟨pU, 1, none⟩ (.slice vv ((bq aC jm).f1).length vw)).heap[Nv]? = some (.cells (t2_ bf (some ad962) aC.length dE) 51 (0, 0))) := ⟨by refine bP ?_ Rb.out _; refine bP ?_ Rb.out _; exact oz.out⟩; have n3_ : aa (((w26.setCell ⟨pU, 0, none⟩ (.int .i64 ((bq aC jm).f0))).setCell ⟨pU, 1, none⟩ (.slice vv ((bq aC jm).f1).length vw)).heap[pU]? = some (.cells (t2_ ((bq aC jm).f0) vv ((bq aC jm).f1).length vw) 51 (0, 0))) := ⟨by refine eP (cs := (t2_ ((bq aC jm).f0) none 0 0)) ?_ 1 _ rfl; refine eP (cs := (t2_ 0 none 0 0)) ?_ 0 _ rfl; exact ry.out⟩; have n4_ : aa (Below w.heap.size w ((w26.setCell ⟨pU, 0, none⟩ (.int .i64 ((bq aC jm).f0))).setCell ⟨pU, 1, none⟩ (.slice vv ((bq aC jm).f1).length vw))) := ⟨bl_⟩; generalize ((w26.setCell ⟨pU, 0, none⟩ (.int .i64 ((bq aC jm).f0))).setCell ⟨pU, 1, none⟩ (.slice vv ((bq aC jm).f1).length vw)) = w30 at n0_ n1_ n2_ n3_ n4_ ⊢
            have fE := n0_; have jD := n1_; have oz := n2_; have ry := n3_; have HB := n4_; clear n0_ n1_ n2_ n3_ n4_; replace fE := aa.mk (Kd.oQ fE.out); replace jD := aa.mk (dz jD.out); replace oz := aa.mk (dz oz.out); replace ry := aa.mk (dz ry.out); replace HB := aa.mk (eX HB.out); refine kL (n := 9) (S := fun w' => w'.cell? ⟨Am, 0, none⟩ = some (.int .i64 ah) ∧ w'.cell? ⟨Am, 1, none⟩ = some (.int .i64 ak) ∧ w'.cell? ⟨Am, 2, none⟩ = some (.int .i64 aj) ∧ w'.cell? ⟨Am, 3, none⟩ = some (.int .i64 ai) ∧ w'.cell? ⟨Am, 4, none⟩ = some (.slice aY af.length aT) ∧ w'.cell? ⟨pU, 0, none⟩ = some (.int .i64 ((bq aC jm).f0)) ∧ w'.cell? ⟨pU, 1, none⟩ = some (.slice vv ((bq aC jm).f1).length vw)) (ds := [8]) #[false, false, false, false, false, false, false, false, false] (by kernel_rfl) rfl rfl ⟨ci_ jD, ci_ jD, ci_ jD, ci_ jD, ci_ jD, ci_ ry, ci_ ry⟩ (fun hHeld => ?_); refine iG cB.tab6 cB.Nq (fun HT_ HW_ => ?_)
            generalize w30.drew = w31 at fE jD oz ry HB hHeld ⊢
            refine pu_ HT_ 0 28 (bm 9 1) ?_
            refine pu_ HT_ 1 29 (bm 9 3) ?_
            refine pu_ HT_ 3 31 (bm 9 11) ?_
            refine ta_ HT_ HW_ 2 30 (bm 9 15) hHeld ?_
            refine ta_ HT_ HW_ 5 33 (bm 9 47) hHeld ?_
            refine jW (i := 4) (N := some 32) #[true, true, true, true, true, true, false, false, false] rfl rfl (fB HT_.out (by kernel_rfl)) (by decide) (fun K hK => ?_)
            refine mf Tryd.func81 (by kernel_rfl) rfl #[.agg (t5_ ah ak aj ai aY af.length aT), .int .i64 jm] (by rfl) rfl rfl mp_ ?_
            with_reducible refine (jH.calls ah ak aj ai (fun k_ => k_ < w.heap.size) _ _ af jm t964 t965 t966 t967 t968 _ ?au A22.out).mono ?_
            (case au => exact Kd.uV ed.out (Kd.qi (Kd.C_F Gs bT.out) bl_))
            rintro e w32 ⟨v969, rfl, ho0, hb⟩
            refine ⟨_, rfl, ?_⟩
            have Nw := aa.mk (Kd.rV (Kd.eB (ok' := fun k_ => some k_ ≠ (v960 : Value).ownBlock ∧ k_ ≠ Am ∧ k_ ≠ Nv ∧ k_ ≠ pU) ho0 (fun k_ hk_ => ⟨Or.elim hk_ (fun hs_ => fun e_ => Nat.not_le.2 hs_ (Kd.dI fE.out k_ e_.symm)) (fun hn_ => (Kd.fresh' (Kd.fK (pR_ fE.out)) k_ hn_)), Or.elim hk_ (fun hs_ => fun e_ => Nat.not_le.2 hs_ (by rw [e_]; exact GW957.out)) (fun hn_ => (Kd.fo (g := Am) (o := .cells (t5_ ah ak aj ai aY af.length aT) 24 (0, 0)) bk_ k_ hn_)), Or.elim hk_ (fun hs_ => fun e_ => Nat.not_le.2 hs_ (by rw [e_]; exact GW958.out)) (fun hn_ => (Kd.fo (g := Nv) (o := .cells (t2_ bf (some ad962) aC.length dE) 51 (0, 0)) bk_ k_ hn_)), Or.elim hk_ (fun hs_ => fun e_ => Nat.not_le.2 hs_ (by rw [e_]; exact GW963.out)) (fun hn_ => (Kd.fo (g := pU) (o := .cells (t2_ ((bq aC jm).f0) vv ((bq aC jm).f1).length vw) 51 (0, 0)) bk_ k_ hn_))⟩)) (aI bl_)); replace fE := aa.mk (Kd.dH (pR_ fE.out) hb); replace jD := kb_ jD hb; replace oz := kb_ oz hb; replace ry := kb_ ry hb; replace HB := aa.mk (ax bl_ hb); obtain ⟨Ao33, co33, eo33⟩ := Kd.uA Nw.out; (subst eo33); refine hK.out _ _ ⟨ci_ jD, ci_ jD, ci_ jD, ci_ jD, ci_ jD, ci_ ry, ci_ ry⟩ (fun hHeld => ?_)
            clear hK K; refine jd (a' := ?_) ?_ ?_
            rotate_left
            ·show Act.put _ (some 32) _ = _
             simp only [Act.put, List.setIfInBounds_toArray, List.set_cons_zero, List.set_cons_succ, gM, iE]; rfl
            refine jW (i := 6) (N := some 34) #[true, true, true, true, true, true, true, false, false] rfl rfl (fB HT_.out (by kernel_rfl)) (by decide) (fun K hK => ?_)
            refine mf Tryd.func62 (by kernel_rfl) rfl #[.agg (t5_ t964 t965 t966 t967 Ao33 t968.length co33), .agg (t2_ ((bq aC jm).f0) vv ((bq aC jm).f1).length vw)] (by rfl) rfl rfl mp_ ?_
            with_reducible refine (ih k2 (by have := HJ2.out; have := HK2.out; omega) t964 t965 t966 t967 _ _ t968 ((bq aC jm).f0) _ _ ((bq aC jm).f1) t971 _ ?au ?av ?bO ?bQ A23.out ?tab).mono ?_
            (case tab => exact ptab HTAB.out bl_)
            (case au => exact cb_ ((Kd.kZ Nw.out).2.2))
            (case av => exact (Kd.kZ Nw.out).2.1)
            (case bO => exact cb_ (Kd.aV HR962_1.out HB.out))
            (case bQ => exact HC962_1.out)
            rintro e w34 ⟨rfl, hb⟩
            refine ⟨_, rfl, ?_⟩
            replace fE := aa.mk (Kd.dH (pR_ fE.out) hb); replace Nw := aa.mk (Kd.gP (pV_ Nw.out) hb); replace jD := kb_ jD hb; replace oz := kb_ oz hb; replace ry := kb_ ry hb; replace HB := aa.mk (ax bl_ hb); have p25 : 0 ≤ (jm : Int) := dt_; have q25 : (jm : Int) < ((gq.length : Int) : Int) := dt_; obtain ⟨go25, sU, eo25, gb25, _, cl25, _⟩ := Kd.yl fE.out (by omega); (cases eo25); have GB25 := aa.mk gb25; clear gb25; obtain ⟨hx25_0, hf25_0⟩ := Kd.vK (⟨#[]⟩ : ByteArray) fE.out (jm : Int) p25 q25; replace q25 := eq_true q25; have HP35 := Kd.Rx fE.out (jm : Int) t971; rw [← Ny972.out] at HP35; have HQ35 := aa.mk HP35; clear HP35; refine hK.out _ _ ⟨ci_ jD, ci_ jD, ci_ jD, ci_ jD, ci_ jD, ci_ ry, ci_ ry⟩ (fun hHeld => ?_)
            clear hK K; refine jd (a' := ?_) ?_ ?_
            rotate_left
            ·show Act.put _ (some 34) _ = _
             simp only [Act.put, List.setIfInBounds_toArray, List.set_cons_zero, List.set_cons_succ, gM, iE]; rfl
            refine pu_ HT_ 7 35 (bm 9 255) ?_
            refine tJ (i := 8) (N := none) #[true, true, true, true, true, true, true, true, true] rfl rfl (fB HT_.out (by kernel_rfl)) (by decide) (fun K hK => ?_)
            refine qB (w1 := ?_) (by rfl) rfl ?_ ?_
            rotate_left
            ·go_simp; rfl
            refine hK.out _ _ ?_
            clear hK K; refine mH (jT HT_.out (by kernel_rfl)) ?_
            try go_wp2
            go_roundg k2
            case measure => have := HJ2.out; have := HK2.out; omega
            case rel => exact ⟨(y972), (wrap64 (jm + 1)), rs_, H', ⟨by have := HJ2.out; have := HK2.out; omega⟩, ⟨by exact HQ35.out⟩, ⟨by refine bP ?_ (by have h_ := Kd.nY fE.out jD.out (by decide); intro e_; exact h_ (by rw [e_]; rfl)) _; exact jD.out⟩, ⟨by refine bP ?_ (by have h_ := Kd.nY fE.out oz.out (by decide); intro e_; exact h_ (by rw [e_]; rfl)) _; exact oz.out⟩, ⟨bl_⟩⟩
           ·rw [if_neg c24] at H; exact absurd H (by simp)
          ·rw [if_neg c21] at H; exact absurd H (by simp)
         ·rw [if_neg c20] at H; exact absurd H (by simp)
        ·rw [if_neg c19] at H; have GH := decide_eq_false c19; clear c19; by_cases c36 : ah = 5
         ·rw [if_pos c36] at H; obtain ⟨GI, c36b1⟩ := bq_ c36; clear c36; replace H := Option.bind_eq_some_iff.mp H; obtain ⟨t973, A370, H⟩ := H; have A37 := aa.mk A370; clear A370; by_cases c38 : 1 + t973.size ≤ 9223372036854775807
          ·rw [if_pos c38] at H; try have c38b2 : (9223372036854775807 < 1 + t973.size) = False := eq_false (Nat.not_lt.2 c38)
           by_cases c39 : ((⟨#[40]⟩ : ByteArray) ++ t973).size + 1 ≤ 9223372036854775807
           ·rw [if_pos c39] at H; try skip
            have c39b9 : (9223372036854775807 < 1 + t973.size + 1) = False := by have h := c39; simp only [ByteArray.size_append, CG, List.size_toArray, List.length_cons, List.length_nil] at h; exact eq_false (by omega)
            obtain rfl := Option.some.inj H; obtain ⟨hcz41_0, _, _, _, _, _, _, _, _, _⟩ := bE jD.out; obtain ⟨Ao42, co42, eo42⟩ := Kd.bF fE.out; subst eo42; go_wp2_with (((with_reducible refine ay (f := 72) rfl ?_); refine gl_ (some 41) Tryd.func72 #[.slice Ao42 gq.length co42, .string (⟨#[44, 32]⟩ : ByteArray)] ?_; (with_reducible refine (strings_Join.calls _ _ gq (⟨#[44, 32]⟩ : ByteArray) t973 _ ?au ?av A37.out).mono ?_); (case au => exact cb_ ((Kd.aZ fE.out).2.2)); (case av => exact (Kd.aZ fE.out).2.1); rintro e w43 ⟨rfl, hb⟩; refine ⟨_, rfl, ?_⟩; replace HB := aa.mk (ax bl_ hb)))
            go_ret; exact ⟨re_, bl_⟩
           ·rw [if_neg c39] at H; exact absurd H (by simp)
          ·rw [if_neg c38] at H; exact absurd H (by simp)
         ·rw [if_neg c36] at H; obtain ⟨GI, c36b1⟩ := bn_ c36; replace H := Option.bind_eq_some_iff.mp H; obtain ⟨t974, A440, H⟩ := H; have A44 := aa.mk A440; clear A440; by_cases c45 : 1 + t974.size ≤ 9223372036854775807
          ·rw [if_pos c45] at H; try have c45b2 : (9223372036854775807 < 1 + t974.size) = False := eq_false (Nat.not_lt.2 c45)
           by_cases c46 : ((⟨#[91]⟩ : ByteArray) ++ t974).size + 1 ≤ 9223372036854775807
           ·rw [if_pos c46] at H; try skip
            have c46b9 : (9223372036854775807 < 1 + t974.size + 1) = False := by have h := c46; simp only [ByteArray.size_append, CG, List.size_toArray, List.length_cons, List.length_nil] at h; exact eq_false (by omega)
            obtain rfl := Option.some.inj H; obtain ⟨hcz48_0, _, _, _, _, _, _, _, _, _⟩ := bE jD.out; obtain ⟨Ao49, co49, eo49⟩ := Kd.bF fE.out; subst eo49; go_wp2_with (((with_reducible refine ay (f := 72) rfl ?_); refine gl_ (some 45) Tryd.func72 #[.slice Ao49 gq.length co49, .string (⟨#[44, 32]⟩ : ByteArray)] ?_; (with_reducible refine (strings_Join.calls _ _ gq (⟨#[44, 32]⟩ : ByteArray) t974 _ ?au ?av A44.out).mono ?_); (case au => exact cb_ ((Kd.aZ fE.out).2.2)); (case av => exact (Kd.aZ fE.out).2.1); rintro e w50 ⟨rfl, hb⟩; refine ⟨_, rfl, ?_⟩; replace HB := aa.mk (ax bl_ hb)))
            go_ret; exact ⟨re_, bl_⟩
           ·rw [if_neg c46] at H; exact absurd H (by simp)
          ·rw [if_neg c45] at H; exact absurd H (by simp)
     ·rw [if_neg c13] at H; exact absurd H (by simp)
    ·rw [if_neg c12] at H; exact absurd H (by simp)
   ·replace c11 := Bool.eq_false_iff.mpr c11; subst c11; rw [if_neg (show ¬ (false = true) by decide)] at H; by_cases c51 : ah = 1
    ·rw [if_pos c51] at H; obtain ⟨c51b0, c51b1⟩ := bq_ c51; clear c51; replace H := Option.bind_eq_some_iff.mp H; obtain ⟨t975, A520, H⟩ := H; have A52 := aa.mk A520; clear A520; obtain rfl := Option.some.inj H; obtain ⟨U3, _, _, _, _, _, _, _, _, _⟩ := bE jD.out; obtain ⟨hcz55_0, _, _, _⟩ := dS oz.out; go_wp2_with (((with_reducible refine ay (f := 82) rfl ?_); refine gl_ (some 54) Tryd.func82 #[.bool (bf == 1)] ?_; (with_reducible refine (lS.calls (bf == 1) t975 _ A52.out).mono ?_); rintro e w' ⟨rfl, ⟨nd, rfl⟩⟩; refine ⟨_, rfl, ?_⟩))
     go_ret; exact ⟨re_, bl_⟩
    ·rw [if_neg c51] at H; obtain ⟨c51b0, c51b1⟩ := bn_ c51; replace H := Option.bind_eq_some_iff.mp H; obtain ⟨t976, A560, H⟩ := H; have A56 := aa.mk A560; clear A560; obtain rfl := Option.some.inj H; obtain ⟨hcz58_0, _, _, _, _, _, _, _, _, _⟩ := bE jD.out; obtain ⟨Cg, _, _, _⟩ := dS oz.out; go_wp2_with (((with_reducible refine ay (f := 71) rfl ?_); refine gl_ (some 57) Tryd.func71 #[.int .i64 bf] ?_; (with_reducible refine (lM.calls bf t976 _ A56.out ?tab).mono ?_); (case tab => exact ptab HTAB.out bl_); rintro e w60 ⟨rfl, hb⟩; refine ⟨_, rfl, ?_⟩; replace HB := aa.mk (ax bl_ hb)))
     go_ret; exact ⟨re_, bl_⟩


/-! ### lW: function 32 -/
def lW.f (k : Nat) (ah ak aj ai : Int) (af : List (S24)) (bf : Int) (aC : List (S51)) : Option (ByteArray × Int) := (gX.f k ah ak aj ai af bf aC).bind fun t979 => (if t979 = 0 then ((cB.f k ah ak aj ai af bf aC).bind fun t980 => (some (t980, 0))) else (some ((⟨#[]⟩ : ByteArray), t979)))
set_option maxHeartbeats 8000000 in
set_option maxRecDepth 100000 in
theorem lW.calls (k : Nat) (ah ak aj ai : Int) (aY : Option Addr) (aT : Nat) (af : List (S24)) (bf : Int) (dW : Option Addr) (dE : Nat) (aC : List (S51)) (r1 : ByteArray) (r2 : Int) (w : World) (dD : Kd.C k24 w aY af.length af) (dX : af.length ≤ aT) (iW : Kd.C k51 w dW aC.length aC) (jB : aC.length ≤ dE) (h : lW.f k ah ak aj ai af bf aC = some (r1, r2)) (htab : qx w.heap.size w) :
  Calls Tryd.prog 32 #[.agg #[.int .i64 ah, .int .i64 ak, .int .i64 aj, .int .i64 ai, .slice aY af.length aT], .agg #[.int .i64 bf, .slice dW aC.length dE]] w fun e w' => e = .returned (.tuple #[.string r1, .int .i64 r2]) ∧ Below w.heap.size w w' := by
 have HTAB := aa.mk htab; clear htab; have bT := aa.mk dD; have ed := aa.mk dX; clear dD dX; have jw := aa.mk iW; have lK := aa.mk jB; clear iW jB; have HB := aa.mk (Below.refl w.heap.size w); have H : ((gX.f k ah ak aj ai af bf aC).bind fun t979 => (if t979 = 0 then ((cB.f k ah ak aj ai af bf aC).bind fun t980 => (some (t980, 0))) else (some ((⟨#[]⟩ : ByteArray), t979)))) = some (r1, r2) := h; clear h; replace H := Option.bind_eq_some_iff.mp H; obtain ⟨t979, A30, H⟩ := H; have A3 := aa.mk A30; clear A30; by_cases c4 : t979 = 0
 focus
  rw [if_pos c4] at H; obtain ⟨kN, oZ⟩ := bq_ c4; clear c4; replace H := Option.bind_eq_some_iff.mp H; obtain ⟨t980, A50, H⟩ := H; have A5 := aa.mk A50; clear A50
 rotate_left
 focus
  rw [if_neg c4] at H; obtain ⟨kN, oZ⟩ := bn_ c4
 rotate_left
 all_goals
  simp only [Option.some.injEq, Prod.mk.injEq] at H; obtain ⟨rfl, rfl⟩ := H; go_enter Tryd.func32, Tryd.ntmps32; go_wp2_with (first | ((with_reducible refine aM (N := 2) rfl ?_); refine bx_ ((t5_ ah ak aj ai aY af.length aT)) 24 ?_; intro gb977 hg w6 KG _ HB hb; clear hb hg) | ((with_reducible refine aM (N := 3) rfl ?_); refine bx_ ((t2_ bf dW aC.length dE)) 51 ?_; intro gb978 hg w7 BK978 _ HB hb; replace KG := kb_ KG hb; clear hb hg; obtain ⟨qy, uY, AJ, Fh, CQ, _, _, _, _, _⟩ := bE KG.out; obtain ⟨o8, ql, _, _⟩ := dS BK978.out) | ((with_reducible refine ay (f := 61) rfl ?_); refine gl_ (some 9) Tryd.func61 #[.agg (t5_ ah ak aj ai aY af.length aT), .agg (t2_ bf dW aC.length dE)] ?_; (with_reducible refine (gX.calls k ah ak aj ai _ _ af bf _ _ aC t979 _ ?au ?av ?bO ?bQ A3.out).mono ?_); (case au => exact cb_ (Kd.aV bT.out HB.out)); (case av => exact ed.out); (case bO => exact cb_ (Kd.aV jw.out HB.out)); (case bQ => exact lK.out); rintro e w11 ⟨rfl, hb⟩; refine ⟨_, rfl, ?_⟩; replace KG := kb_ KG hb; replace BK978 := kb_ BK978 hb; replace HB := aa.mk (ax bl_ hb); (try (obtain ⟨pq, rZ, Ci, Cj, zm, _, _, _, _, _⟩ := bE KG.out; obtain ⟨zF, zG, _, _⟩ := dS BK978.out))) | ((with_reducible refine ay (f := 62) rfl ?_); refine gl_ (some 15) Tryd.func62 #[.agg (t5_ ah ak aj ai aY af.length aT), .agg (t2_ bf dW aC.length dE)] ?_; (with_reducible refine (cB.calls k ah ak aj ai _ _ af bf _ _ aC t980 _ ?au ?av ?bO ?bQ A5.out ?tab).mono ?_); (case tab => exact ptab HTAB.out bl_); (case au => exact cb_ (Kd.aV bT.out HB.out)); (case av => exact ed.out); (case bO => exact cb_ (Kd.aV jw.out HB.out)); (case bQ => exact lK.out); rintro e w14 ⟨rfl, hb⟩; refine ⟨_, rfl, ?_⟩; replace HB := aa.mk (ax bl_ hb)))
  go_ret2; exact ⟨re_, bl_⟩


/-! ### bI: function 33 -/
mutual
def bI.j0 : Nat → Bool → Int → List (S51) → Int → List (S51) → Option (Bool)
 | 0, _, _, _, _, _ => none
 | k + 1, x19, Qo, Cx, Qp, Cy => if x19 = true then (none) else (bI.l0 k 0 Qo Cx Qp Cy)
def bI.l0 : Nat → Int → Int → List (S51) → Int → List (S51) → Option (Bool)
 | 0, _, _, _, _, _ => none
 | k + 1, x5, Qo, Cx, Qp, Cy => if x5 < (Cx.length : Int) then (if 0 ≤ x5 then (if x5 < (Cy.length : Int) then ((bI.f k ((bq Cx x5).f0) ((bq Cx x5).f1) ((bq Cy x5).f0) ((bq Cy x5).f1)).bind fun t985 => (if t985 = true then (bI.l0 k (wrap64 (x5 + 1)) Qo Cx Qp Cy) else (none))) else (none)) else (none)) else (some true)
def bI.f : Nat → Int → List (S51) → Int → List (S51) → Option (Bool)
 | 0, _, _, _, _ => none
 | k + 1, ah, ja, bf, aC => if ah = bf then (bI.j0 k ((ja.length : Int) != (aC.length : Int)) ah ja bf aC) else (bI.j0 k true ah ja bf aC)
end
def bI.T6 : Bool × List (List Nat × List Nat) := (true, [([], []), ([0], [0]), ([], []), ([1, 2], [1, 2]), ([3], [3]), ([], []), ([5], [5]), ([], []), ([6, 7], [6, 7]), ([8], [8]), ([4, 9], [4, 9]), ([10], [10])])
def bI.B6 : List Nat := [0, 1, 0, 7, 15, 0, 32, 0, 224, 480, 1023, 2047]
theorem bI.tab6 : jX .any (opsOf Tryd.f33 6) = bI.T6 := by kernel_rfl
theorem bI.Nq : jK bI.T6.2 bI.B6 = true := by kernel_rfl
set_option maxHeartbeats 8000000 in
set_option maxRecDepth 100000 in
theorem bI.calls (k : Nat) : ∀ (ah : Int) (uN : Option Addr) (tV : Nat) (ja : List (S51)) (bf : Int) (dW : Option Addr) (dE : Nat) (aC : List (S51)) (r : Bool) (w : World) (BD : Kd.C k51 w uN ja.length ja) (DV : ja.length ≤ tV) (iW : Kd.C k51 w dW aC.length aC) (jB : aC.length ≤ dE) (h : bI.f k ah ja bf aC = some r),
  Calls Tryd.prog 33 #[.agg #[.int .i64 ah, .slice uN ja.length tV], .agg #[.int .i64 bf, .slice dW aC.length dE]] w fun e w' => e = .returned (.bool r) ∧ Below w.heap.size w w' := by
 induction k using Nat.strongRecOn with
 | _ k ih =>
 intro ah uN tV ja bf dW dE aC r w BD DV iW jB h; cases k with
 | zero => exact absurd h (by simp [bI.f])
 | succ k =>
 simp only [bI.f] at h; have KH := aa.mk BD; clear BD DV; have jw := aa.mk iW; clear iW jB; have HB := aa.mk (Below.refl w.heap.size w); have H : (if ah = bf then (bI.j0 k ((ja.length : Int) != (aC.length : Int)) ah ja bf aC) else (bI.j0 k true ah ja bf aC)) = some r := h; clear h; have HC3 := aa.mk H; clear H; go_enter Tryd.func33, Tryd.ntmps33; go_upto_region 1 with (first | ((with_reducible refine aM (N := 2) rfl ?_); (try (refine gH (by rfl) ?_; dsimp only)); refine bx_ ((t2_ ah uN ja.length tV)) 51 ?_; intro gb981 hg w4 rz _ HB hb; clear hb hg) | ((with_reducible refine aM (N := 3) rfl ?_); (try (refine gH (by rfl) ?_; dsimp only)); refine bx_ ((t2_ bf dW aC.length dE)) 51 ?_; intro gb982 hg w5 vY _ HB hb; replace rz := kb_ rz hb; clear hb hg))
 go_cut [19] (fun v19 wc => ∃ (kq : Nat) (x19_2 : Bool), v19 = .bool x19_2 ∧ aa (bI.j0 kq x19_2 ah ja bf aC = some r) ∧ aa (kq ≤ k) ∧ aa (wc.heap[gb981]? = some (.cells #[.int .i64 ah, (.slice uN ja.length tV)] 51 (0, 0))) ∧ aa (wc.heap[gb982]? = some (.cells #[.int .i64 bf, (.slice dW aC.length dE)] 51 (0, 0))) ∧ aa (Below w.heap.size w wc))
 case first =>
  have H := HC3.out; clear HC3; by_cases c6 : ah = bf
  ·rw [if_pos c6] at H; obtain ⟨rX, c6b1⟩ := bq_ c6; clear c6; (skip)
   have H' := aa.mk H; clear H; obtain ⟨uw, Fj, _, _⟩ := dS rz.out; obtain ⟨qy, uY, _, _⟩ := dS vY.out; go_wp2; go_meet
   case rel => exact ⟨_, (((ja.length : Int) != (aC.length : Int))), rs_, H', ⟨by omega⟩, ⟨bk_⟩, ⟨bk_⟩, ⟨bl_⟩⟩
  ·rw [if_neg c6] at H; obtain ⟨rX, c6b1⟩ := bn_ c6; (skip)
   have H' := aa.mk H; clear H; obtain ⟨xL, _, _, _⟩ := dS rz.out; obtain ⟨pq, _, _, _⟩ := dS vY.out; go_wp2; go_meet
   case rel => exact ⟨_, (true), rs_, H', ⟨by omega⟩, ⟨bk_⟩, ⟨bk_⟩, ⟨bl_⟩⟩
 case rest =>
  clear HC3; (try clear c1); (try clear p2); (try clear c3); (try clear c6); (try clear rX); (try clear c6b1); (try clear c7); (try clear c10); (try clear xL); (try clear pq); (try clear uw Fj); (try clear qy uY); obtain ⟨kq, x19_2, rfl, HA, HJ2, rz, vY, HB⟩ := hcut; cases kq with
  | zero => exact absurd HA.out (by simp [bI.j0])
  | succ kj2 =>
   have H := HA.out; clear HA; simp only [bI.j0] at H; by_cases c13 : x19_2 = true
   ·subst c13; have H1 : (none) = some r := by rw [if_pos rfl] at H; exact H
    clear H; have H := H1; clear H1; exact absurd H (by simp)
   ·replace c13 := Bool.eq_false_iff.mpr c13; subst c13; have H1 : (bI.l0 kj2 0 ah ja bf aC) = some r := by rw [if_neg (show ¬ (false = true) by decide)] at H; exact H
    clear H; have H := H1; clear H1; have H' := aa.mk H; clear H; go_wp2; go_loopg [5] kj2 (fun kq v5 w' => ∃ (gq : Int), v5 = .int .i64 gq ∧ aa (bI.l0 kq gq ah ja bf aC = some r) ∧ aa (kq ≤ kj2) ∧ aa (w'.heap[gb981]? = some (.cells #[.int .i64 ah, (.slice uN ja.length tV)] 51 (0, 0))) ∧ aa (w'.heap[gb982]? = some (.cells #[.int .i64 bf, (.slice dW aC.length dE)] 51 (0, 0))) ∧ aa (Below w.heap.size w w'))
    case atStart => exact ⟨(0), rs_, H', ⟨Nat.le_refl _⟩, ⟨bk_⟩, ⟨bk_⟩, ⟨bl_⟩⟩
    case round =>
     clear H'; (try clear c1); (try clear p2); (try clear c3); (try clear c6); (try clear rX); (try clear c6b1); (try clear c7); (try clear c10); (try clear c13); (try clear xL); (try clear pq); (try clear uw Fj); (try clear qy uY); (try clear p2); obtain ⟨gq, rfl, HA, HK2, rz, vY, HB⟩ := hrel; cases gk with
     | zero => exact absurd HA.out (by simp [bI.l0])
     | succ k2 =>
      have H := HA.out; clear HA; simp only [bI.l0] at H; by_cases c14 : gq < (ja.length : Int)
      ·rw [if_pos c14] at H; have vQ := decide_eq_true c14; clear c14; by_cases c15 : 0 ≤ gq
       ·rw [if_pos c15] at H; have Ag := decide_eq_true c15; clear c15; by_cases c16 : gq < (aC.length : Int)
        ·rw [if_pos c16] at H; have MU := decide_eq_true c16; clear c16; replace H := Option.bind_eq_some_iff.mp H; obtain ⟨t985, A170, H⟩ := H; have A17 := aa.mk A170; clear A170; by_cases c18 : t985 = true
         ·subst c18; have H1 : (bI.l0 k2 (wrap64 (gq + 1)) ah ja bf aC) = some r := by rw [if_pos rfl] at H; exact H
          clear H; have H := H1; clear H1; have H' := aa.mk H; clear H; obtain ⟨_, zl, _, _⟩ := dS rz.out; try go_wp2
          replace rz := aa.mk (dz rz.out); replace vY := aa.mk (dz vY.out); replace HB := aa.mk (eX HB.out); have p983 : 0 ≤ (gq : Int) := dt_; have q983 : gq < (ja.length : Int) := dt_; obtain ⟨ad983, A983_1, c983_1, e983, KI, KJ, WT, WU⟩ := rW KH.out gq p983 q983; have WV := KJ; have WW := KI; cases e983; replace KI := hc_ HB KI; replace KJ := hc_ HB KJ; have WX := aa.mk WU; have HC983_1 := aa.mk WT; clear WU WT; replace p983 := eq_true p983; replace q983 := eq_true q983; have p984 : 0 ≤ (gq : Int) := dt_; have q984 : gq < (aC.length : Int) := dt_; obtain ⟨ad984, A984_1, c984_1, e984, KL, KM, WY, WZ⟩ := rW jw.out gq p984 q984; have W9 := KM; have Xa := KL; cases e984; replace KL := hc_ HB KL; replace KM := hc_ HB KM; have Xb := aa.mk WZ; have HC984_1 := aa.mk WY; clear WZ WY; replace q984 := eq_true q984; refine kL (n := 12) (S := fun w' => w'.cell? ⟨gb981, 0, none⟩ = some (.int .i64 ah) ∧ w'.cell? ⟨gb981, 1, none⟩ = some (.slice (some ad983) ja.length tV) ∧ w'.cell? ⟨gb982, 0, none⟩ = some (.int .i64 bf) ∧ w'.cell? ⟨gb982, 1, none⟩ = some (.slice (some ad984) aC.length dE) ∧ w'.cell? (ad983.add ((gq).toNat * 2)) = some (.int .i64 ((bq ja gq).f0)) ∧ w'.cell? ⟨(ad983.add ((gq).toNat * 2)).block, (ad983.add ((gq).toNat * 2)).off + 1, none⟩ = some (.slice A983_1 ((bq ja gq).f1).length c983_1) ∧ w'.cell? (ad984.add ((gq).toNat * 2)) = some (.int .i64 ((bq aC gq).f0)) ∧ w'.cell? ⟨(ad984.add ((gq).toNat * 2)).block, (ad984.add ((gq).toNat * 2)).off + 1, none⟩ = some (.slice A984_1 ((bq aC gq).f1).length c984_1)) (ds := []) #[false, false, false, false, false, false, false, false, false, false, false, false] (by kernel_rfl) rfl rfl ⟨ci_ rz, ci_ rz, ci_ vY, ci_ vY, (hc_ HB WW), (hc_ HB WV), (hc_ HB Xa), (hc_ HB W9)⟩ (fun hHeld => ?_); refine iG bI.tab6 bI.Nq (fun HT_ HW_ => ?_)
          generalize wr.drew = w21 at rz vY HB WX Xb KI KJ KL KM hHeld ⊢
          refine pu_ HT_ 0 27 (bm 12 1) ?_
          refine pu_ HT_ 2 29 (bm 12 5) ?_
          refine pu_ HT_ 5 32 (bm 12 37) ?_
          refine pu_ HT_ 7 34 (bm 12 165) ?_
          refine ta_ HT_ HW_ 1 28 (bm 12 167) hHeld ?_
          refine pu_ HT_ 3 30 (bm 12 175) ?_
          refine ta_ HT_ HW_ 4 31 (bm 12 191) hHeld ?_
          refine ta_ HT_ HW_ 6 33 (bm 12 255) hHeld ?_
          refine pu_ HT_ 8 35 (bm 12 511) ?_
          refine ta_ HT_ HW_ 9 36 (bm 12 1023) hHeld ?_
          refine jW (i := 10) (N := some 37) #[true, true, true, true, true, true, true, true, true, true, true, false] rfl rfl (fB HT_.out (by kernel_rfl)) (by decide) (fun K hK => ?_)
          refine mf Tryd.func33 (by kernel_rfl) rfl #[.agg (t2_ ((bq ja gq).f0) A983_1 ((bq ja gq).f1).length c983_1), .agg (t2_ ((bq aC gq).f0) A984_1 ((bq aC gq).f1).length c984_1)] (by rfl) rfl rfl mp_ ?_
          with_reducible refine (ih k2 (by have := HJ2.out; have := HK2.out; omega) ((bq ja gq).f0) _ _ ((bq ja gq).f1) ((bq aC gq).f0) _ _ ((bq aC gq).f1) true _ ?au ?av ?bO ?bQ A17.out).mono ?_
          (case au => exact cb_ (Kd.aV WX.out HB.out))
          (case av => exact HC983_1.out)
          (case bO => exact cb_ (Kd.aV Xb.out HB.out))
          (case bQ => exact HC984_1.out)
          rintro e w22 ⟨rfl, hb⟩
          refine ⟨_, rfl, ?_⟩
          replace rz := kb_ rz hb; replace vY := kb_ vY hb; replace HB := aa.mk (ax bl_ hb); refine hK.out _ _ ⟨ci_ rz, ci_ rz, ci_ vY, ci_ vY, (hc_ HB WW), (hc_ HB WV), (hc_ HB Xa), (hc_ HB W9)⟩ (fun hHeld => ?_)
          clear hK K; refine jd (a' := ?_) ?_ ?_
          rotate_left
          ·show Act.put _ (some 37) _ = _
           simp only [Act.put, List.setIfInBounds_toArray, List.set_cons_zero, List.set_cons_succ, gM, iE]; rfl
          refine pu_ HT_ 11 38 #[true, true, true, true, true, true, true, true, true, true, true, true] ?_
          refine mH (jT HT_.out (by kernel_rfl)) ?_
          try go_wp2
          go_roundg k2
          case measure => have := HJ2.out; have := HK2.out; omega
          case rel => exact ⟨(wrap64 (gq + 1)), rs_, H', ⟨by have := HJ2.out; have := HK2.out; omega⟩, ⟨bk_⟩, ⟨bk_⟩, ⟨bl_⟩⟩
         ·replace c18 := Bool.eq_false_iff.mpr c18; subst c18; have H1 : (none) = some r := by rw [if_neg (show ¬ (false = true) by decide)] at H; exact H
          clear H; have H := H1; clear H1; exact absurd H (by simp)
        ·rw [if_neg c16] at H; exact absurd H (by simp)
       ·rw [if_neg c15] at H; exact absurd H (by simp)
      ·rw [if_neg c14] at H; have vQ := decide_eq_false c14; clear c14; obtain rfl := Option.some.inj H; obtain ⟨_, Ck, _, _⟩ := dS rz.out; go_wp2; go_ret; exact ⟨re_, bl_⟩


/-! ### kR: function 95 -/
def kR.f (a0 : Int) (a1 : Int) : Option (Int) := some (mx a0 (mn a1 0))
set_option maxHeartbeats 8000000 in
set_option maxRecDepth 100000 in
theorem kR.calls (a0 : Int) (a1 : Int) (r : Int) (w : World) (h : kR.f a0 a1 = some r) :
    Calls Tryd.prog 95 #[.int .i64 a0, .int .i64 a1] w fun e w' => e = .returned (.int .i64 r) ∧ Below w.heap.size w w' := by
  have HB := aa.mk (Below.refl w.heap.size w)
  have H : (some (mx a0 (mn a1 0))) = some r := h
  clear h
  obtain ⟨ji3, yt⟩ : ∃ j_ : Int, (mn a1 0) = j_ := ⟨_, rfl⟩
  replace H : (some (mx a0 (ji3))) = some r := by first | (rw [yt] at H; exact H) | (simp only [yt] at H ⊢; exact H)
  (try (have hji3h : ji3 ≤ 0 := by (rw [← yt]; unfold mn; (repeat' split) <;> omega)))
  (try (have hji3g : ji3 ≤ 64 := by omega))
  have hji3_ : (if 0 < a1 then 0 else a1) = ji3 := yt
  obtain ⟨ji4, zb⟩ : ∃ j_ : Int, (mx a0 (ji3)) = j_ := ⟨_, rfl⟩
  replace H : (some ji4) = some r := by first | (rw [zb] at H; exact H) | (simp only [zb] at H ⊢; exact H)
  have hji4_ : (if a0 < (ji3) then (ji3) else a0) = ji4 := zb
  obtain rfl := Option.some.inj H
  go_enter Tryd.func95, Tryd.ntmps95
  go_wp2
  go_ret
  exact ⟨by first | rfl | (simp [AA, AB] <;> rfl) | (simp only [← yt, ← zb]; first | rfl | (simp [AA, AB] <;> rfl)) | (simp [*, AA, AB] <;> rfl), by repeat (first | (with_reducible first | exact HB.out | apply jY | apply iF | apply eX) | exact HB.out)⟩


/-! ### bM: function 84 -/
mutual
def bM.j0 : Nat → Int → Int → Int → Int → List (S24) → Int → Option (Int × (List (S51)))
 | 0, _, _, _, _, _, _ => none
 | k + 1, KN, Qq, Qr, Qs, vZ, FW => if KN = 5 then (bM.l0 k 0 KN Qq Qr Qs vZ FW ([] : List (S51))) else (some (FW, ([] : List (S51))))
def bM.l0 : Nat → Int → Int → Int → Int → Int → List (S24) → Int → List (S51) → Option (Int × (List (S51)))
 | 0, _, _, _, _, _, _, _, _ => none
 | k + 1, x4, KN, Qq, Qr, Qs, vZ, FW, Qt => if x4 < (vZ.length : Int) then (if 0 ≤ x4 then ((bM.f k ((ag vZ x4).f0) ((ag vZ x4).f1) ((ag vZ x4).f2) ((ag vZ x4).f3) ((ag vZ x4).f4)).bind fun bt991 => (if Qt.length < 4398046511104 then (bM.l0 k (wrap64 (x4 + 1)) KN Qq Qr Qs vZ FW (Qt ++ [(⟨bt991.1, bt991.2⟩ : S51)])) else (none))) else (none)) else (some (FW, Qt))
def bM.f : Nat → Int → Int → Int → Int → List (S24) → Option (Int × (List (S51)))
 | 0, _, _, _, _, _ => none
 | k + 1, ah, ak, aj, ai, af => if ah = 2 then ((kR.f ak aj).bind fun t989 => (bM.j0 k ah ak aj ai af t989)) else (bM.j0 k ah ak aj ai af 0)
end
def bM.T8 : Bool × List (List Nat × List Nat) := (true, [([], []), ([0], [0]), ([], []), ([2], [2]), ([], []), ([3, 4], [3, 4]), ([5], [5]), ([6], [6]), ([7], [7]), ([1, 8, 7], [1, 8]), ([0, 1, 2, 3, 4, 5, 6, 7, 8, 9], []), ([10, 9, 9, 0, 1, 2, 3, 4, 5, 6, 7, 8, 9], [9, 10])])
def bM.B8 : List Nat := [0, 1, 0, 4, 0, 28, 60, 124, 252, 511, 1023, 2047]
theorem bM.tab8 : jX .any (opsOf Tryd.f84 8) = bM.T8 := by kernel_rfl
theorem bM.bits8 : jK bM.T8.2 bM.B8 = true := by kernel_rfl
set_option maxHeartbeats 8000000 in
set_option maxRecDepth 100000 in
theorem bM.calls (k : Nat) : ∀ (ah ak aj ai : Int) (aY : Option Addr) (aT : Nat) (af : List (S24)) (r1 : Int) (r2 : List (S51)) (w : World) (dD : Kd.C k24 w aY af.length af) (dX : af.length ≤ aT) (h : bM.f k ah ak aj ai af = some (r1, r2)),
  Calls Tryd.prog 84 #[.agg #[.int .i64 ah, .int .i64 ak, .int .i64 aj, .int .i64 ai, .slice aY af.length aT]] w fun e w' => ∃ v1_ : Value, e = .returned (.agg #[.int .i64 r1, v1_]) ∧ Kd.R k51 51 w' w.heap.size (fun _ => True) v1_ r2 ∧ Below w.heap.size w w' := by
 induction k using Nat.strongRecOn with
 | _ k ih =>
 intro ah ak aj ai aY aT af r1 r2 w dD dX h; cases k with
 | zero => exact absurd h (by simp [bM.f])
 | succ k =>
 simp only [bM.f] at h; have bT := aa.mk dD; clear dD dX; have HB := aa.mk (Below.refl w.heap.size w); have H := h; unfold bM.f at H; clear h; have HC2 := aa.mk H; clear H; go_enter Tryd.func84, Tryd.ntmps84; go_upto_if 7 with (first | ((with_reducible refine aM (N := 1) rfl ?_); refine bx_ ((t5_ ah ak aj ai aY af.length aT)) 24 ?_; intro DW hg w3 jo _ HB hb; clear hb hg) | ((with_reducible refine aM (N := 2) rfl ?_); refine bx_ ((t2_ 0 none 0 0)) 51 ?_; intro wh hg w4 rA GW987 HB hb; have GE987 := GW987; replace jo := kb_ jo hb; clear hb hg) | ((with_reducible refine aM (N := 3) rfl ?_); refine bx_ ((t2_ 0 none 0 0)) 51 ?_; intro wU hg w5 nH GW988 HB hb; have GE988 := GW988; have Rc := nl_ jo hg; have Re := nl_ rA hg; replace jo := kb_ jo hb; replace rA := kb_ rA hb; clear hb hg; obtain ⟨uw, Fj, hcz8_2, _, _, _, _, _, _, _⟩ := bE jo.out))
 go_cut [] (fun wc => ∃ (kq : Nat) (ny : Int), aa (bM.j0 kq ah ak aj ai af ny = some (r1, r2)) ∧ aa (kq ≤ k) ∧ aa (wc.heap[DW]? = some (.cells #[.int .i64 ah, .int .i64 ak, .int .i64 aj, .int .i64 ai, (.slice aY af.length aT)] 24 (0, 0))) ∧ aa (wc.heap[wh]? = some (.cells #[.int .i64 0, (.slice none 0 0)] 51 (0, 0))) ∧ aa (wc.heap[wU]? = some (.cells #[.int .i64 ny, (.slice none 0 0)] 51 (0, 0))) ∧ aa (Below w.heap.size w wc))
 case first =>
  have H := HC2.out; clear HC2; by_cases c9 : ah = 2
  ·rw [if_pos c9] at H; obtain ⟨qH, CP⟩ := bq_ c9; clear c9; (rw [qH]); replace H := Option.bind_eq_some_iff.mp H; obtain ⟨t989, zJ, H⟩ := H; have A10 := aa.mk zJ; clear zJ; have H' := aa.mk H; clear H; go_wp2_with (((with_reducible refine ay (f := 95) rfl ?_); refine gl_ (some 12) Tryd.func95 #[.int .i64 ak, .int .i64 aj] ?_; (with_reducible refine (kR.calls ak aj t989 _ A10.out).mono ?_); rintro e w14 ⟨rfl, hb⟩; refine ⟨_, rfl, ?_⟩; replace jo := kb_ jo hb; replace rA := kb_ rA hb; replace nH := kb_ nH hb; replace HB := aa.mk (ax bl_ hb); obtain ⟨qP, _, Wv, _⟩ := dS nH.out))
   go_meet
   case rel => exact ⟨_, (t989), H', ⟨by omega⟩, ⟨by refine bP ?_ Rc.out _; exact jo.out⟩, ⟨by refine bP ?_ Re.out _; exact rA.out⟩, ⟨by refine eP (cs := (t2_ 0 none 0 0)) ?_ 0 _ rfl; exact nH.out⟩, ⟨bl_⟩⟩
  ·rw [if_neg c9] at H; obtain ⟨qH, CP⟩ := bn_ c9; (rw [qH]); have H' := aa.mk H; clear H; go_wp2; go_meet
   case rel => exact ⟨_, (0), H', ⟨by omega⟩, ⟨bk_⟩, ⟨bk_⟩, ⟨bk_⟩, ⟨bl_⟩⟩
 case rest =>
  clear HC2; obtain ⟨kq, ny, HA, HJ1, jo, rA, nH, HB⟩ := hcut; cases kq with
  | zero => exact absurd HA.out (by simp [bM.j0])
  | succ kj1 =>
   have H := HA.out; clear HA; simp only [bM.j0] at H; by_cases c17 : ah = 5
   ·rw [if_pos c17] at H; obtain ⟨Aj, c17b1⟩ := bq_ c17; clear c17; have H' := aa.mk H; clear H; obtain ⟨Cc, _, _, _, _, _, _, _, _, _⟩ := bE jo.out; go_wp2; go_loopg [4] kj1 (fun kq v4 w' => ∃ (ll : Int) (tq : List (S51)) (uH : Value), v4 = .int .i64 ll ∧ aa (bM.l0 kq ll ah ak aj ai af ny tq = some (r1, r2)) ∧ aa (kq ≤ kj1) ∧ aa (Kd.R k51 51 w' w.heap.size (fun k_ => k_ ≠ wh ∧ k_ ≠ wU) uH tq) ∧ aa (w'.heap[DW]? = some (.cells #[.int .i64 ah, .int .i64 ak, .int .i64 aj, .int .i64 ai, (.slice aY af.length aT)] 24 (0, 0))) ∧ aa (w'.heap[wh]? = some (.cells #[.int .i64 0, (.slice none 0 0)] 51 (0, 0))) ∧ aa (w'.heap[wU]? = some (.cells #[.int .i64 ny, uH] 51 (0, 0))) ∧ aa (Below w.heap.size w w'))
    case atStart => exact ⟨(0), (([] : List (S51))), (.slice none 0 0), rs_, H', ⟨Nat.le_refl _⟩, ⟨by exact Kd.jy _ _ _ _ _⟩, ⟨bk_⟩, ⟨bk_⟩, ⟨bk_⟩, ⟨bl_⟩⟩
    case round =>
     clear H'; obtain ⟨ll, tq, uH, rfl, HA, HK2, nz, jo, rA, nH, HB⟩ := hrel; cases gk with
     | zero => exact absurd HA.out (by simp [bM.l0])
     | succ k2 =>
      have H := HA.out; clear HA; simp only [bM.l0] at H; by_cases c21 : ll < (af.length : Int)
      ·rw [if_pos c21] at H; have uQ := decide_eq_true c21; clear c21; by_cases c22 : 0 ≤ ll
       ·rw [if_pos c22] at H; have c22b0 := decide_eq_true c22; clear c22; replace H := Option.bind_eq_some_iff.mp H; obtain ⟨⟨t991, t992⟩, A230, H⟩ := H; (try dsimp only at H); have A23 := aa.mk A230; clear A230; by_cases c24 : tq.length < 4398046511104
        ·rw [if_pos c24] at H; have LMc24 := aa.mk c24; clear c24; generalize hy995 : (tq ++ [(⟨t991, t992⟩ : S51)]) = y995 at H; replace hy995 := hy995.symm; have Ny995 := aa.mk hy995; clear hy995; have H' := aa.mk H; clear H; obtain ⟨_, _, _, _, JH, _, _, _, _, _⟩ := bE jo.out; try go_wp2
         replace nz := aa.mk (Kd.oQ nz.out); replace jo := aa.mk (dz jo.out); replace rA := aa.mk (dz rA.out); replace nH := aa.mk (dz nH.out); replace HB := aa.mk (eX HB.out); have p990 : 0 ≤ (ll : Int) := dt_; have q990 : ll < (af.length : Int) := dt_; obtain ⟨yA, A990_4, c990_4, e990, KO, KP, KQ, KR, KS, Xc, Xd⟩ := gu bT.out ll p990 q990; have FX := KS; have FY := KR; have FZ := KQ; have F3 := KP; have F4 := KO; cases e990; replace KO := hc_ HB KO; replace KP := hc_ HB KP; replace KQ := hc_ HB KQ; replace KR := hc_ HB KR; replace KS := hc_ HB KS; have Xe := aa.mk Xd; have HC990_4 := aa.mk Xc; clear Xd Xc; replace p990 := eq_true p990; replace q990 := eq_true q990; refine kL (n := 12) (S := fun w' => w'.cell? ⟨wU, 0, none⟩ = some (.int .i64 ny) ∧ w'.cell? ⟨wU, 1, none⟩ = some (uH) ∧ w'.cell? ⟨DW, 0, none⟩ = some (.int .i64 ah) ∧ w'.cell? ⟨DW, 1, none⟩ = some (.int .i64 ak) ∧ w'.cell? ⟨DW, 2, none⟩ = some (.int .i64 aj) ∧ w'.cell? ⟨DW, 3, none⟩ = some (.int .i64 ai) ∧ w'.cell? ⟨DW, 4, none⟩ = some (.slice (some yA) af.length aT) ∧ w'.cell? (yA.add ((ll).toNat * 5)) = some (.int .i64 ((ag af ll).f0)) ∧ w'.cell? ⟨(yA.add ((ll).toNat * 5)).block, (yA.add ((ll).toNat * 5)).off + 1, none⟩ = some (.int .i64 ((ag af ll).f1)) ∧ w'.cell? ⟨(yA.add ((ll).toNat * 5)).block, (yA.add ((ll).toNat * 5)).off + 2, none⟩ = some (.int .i64 ((ag af ll).f2)) ∧ w'.cell? ⟨(yA.add ((ll).toNat * 5)).block, (yA.add ((ll).toNat * 5)).off + 3, none⟩ = some (.int .i64 ((ag af ll).f3)) ∧ w'.cell? ⟨(yA.add ((ll).toNat * 5)).block, (yA.add ((ll).toNat * 5)).off + 4, none⟩ = some (.slice A990_4 ((ag af ll).f4).length c990_4)) (ds := [11]) #[false, false, false, false, false, false, false, false, false, false, false, false] (by kernel_rfl) rfl rfl ⟨ci_ nH, ci_ nH, ci_ jo, ci_ jo, ci_ jo, ci_ jo, ci_ jo, (hc_ HB F4), (hc_ HB F3), (hc_ HB FZ), (hc_ HB FY), (hc_ HB FX)⟩ (fun hHeld => ?_); refine iG bM.tab8 bM.bits8 (fun HT_ HW_ => ?_)
         generalize wr.drew = w28 at nz jo rA nH HB Xe KO KP KQ KR KS hHeld ⊢
         refine pu_ HT_ 0 24 (bm 12 1) ?_
         refine pu_ HT_ 2 26 (bm 12 5) ?_
         refine pu_ HT_ 4 28 (bm 12 21) ?_
         refine ta_ HT_ HW_ 1 25 (bm 12 23) hHeld ?_
         refine ta_ HT_ HW_ 3 27 (bm 12 31) hHeld ?_
         refine pu_ HT_ 5 29 (bm 12 63) ?_
         refine ta_ HT_ HW_ 6 30 (bm 12 127) hHeld ?_
         refine jW (i := 7) (N := some 31) #[true, true, true, true, true, true, true, true, false, false, false, false] rfl rfl (fB HT_.out (by kernel_rfl)) (by decide) (fun K hK => ?_)
         refine mf Tryd.func84 (by kernel_rfl) rfl #[.agg (t5_ ((ag af ll).f0) ((ag af ll).f1) ((ag af ll).f2) ((ag af ll).f3) A990_4 ((ag af ll).f4).length c990_4)] (by rfl) rfl rfl mp_ ?_
         with_reducible refine (ih k2 (by have := HJ1.out; have := HK2.out; omega) ((ag af ll).f0) ((ag af ll).f1) ((ag af ll).f2) ((ag af ll).f3) _ _ ((ag af ll).f4) t991 t992 _ ?au ?av A23.out).mono ?_
         (case au => exact cb_ (Kd.aV Xe.out HB.out))
         (case av => exact HC990_4.out)
         rintro e w29 ⟨v993, rfl, ho0, hb⟩
         refine ⟨_, rfl, ?_⟩
         have HO994 := aa.mk (Kd.bN (Kd.iY (Kd.iY (Kd.eG ho0 (Kd.fK (pR_ nz.out))) (g := wh) (o := .cells (t2_ 0 none 0 0) 51 (0, 0)) bk_) (g := wU) (o := .cells #[.int .i64 ny, uH] 51 (0, 0)) bk_) (aI bl_)); replace nz := aa.mk (Kd.fI (pR_ nz.out) (Kd.dI ho0) hb); replace jo := kb_ jo hb; replace rA := kb_ rA hb; replace nH := kb_ nH hb; replace HB := aa.mk (ax bl_ hb); obtain ⟨CW, CX, eo31⟩ := Kd.bF HO994.out; (subst eo31); refine hK.out _ _ ⟨ci_ nH, ci_ nH, ci_ jo, ci_ jo, ci_ jo, ci_ jo, ci_ jo, (hc_ HB F4), (hc_ HB F3), (hc_ HB FZ), (hc_ HB FY), (hc_ HB FX)⟩ (fun hHeld => ?_)
         clear hK K; refine jd (a' := ?_) ?_ ?_
         rotate_left
         ·show Act.put _ (some 31) _ = _
          simp only [Act.put, List.setIfInBounds_toArray, List.set_cons_zero, List.set_cons_succ, gM, iE]; rfl
         refine jW (i := 8) (N := some 32) #[true, true, true, true, true, true, true, true, true, false, false, false] rfl rfl (fB HT_.out (by kernel_rfl)) (by decide) (fun K hK => ?_)
         refine wK (w1 := ?_) (v := ?_) (by rfl) rfl ?_ ?_
         rotate_left 2
         ·go_simp; constructor
          ·rfl
          ·rfl
         refine hK.out _ _ ⟨(bH (eU nH.out _) 0).trans rfl, (bH (eU nH.out _) 1).trans rfl, (bH (eU jo.out _) 0).trans rfl, (bH (eU jo.out _) 1).trans rfl, (bH (eU jo.out _) 2).trans rfl, (bH (eU jo.out _) 3).trans rfl, (bH (eU jo.out _) 4).trans rfl, (World.cell?_alloc_lt _ _ _ (World.block_lt_of_cell? _ _ ((hc_ HB F4)))).trans ((hc_ HB F4)), (World.cell?_alloc_lt _ _ _ (World.block_lt_of_cell? _ _ ((hc_ HB F3)))).trans ((hc_ HB F3)), (World.cell?_alloc_lt _ _ _ (World.block_lt_of_cell? _ _ ((hc_ HB FZ)))).trans ((hc_ HB FZ)), (World.cell?_alloc_lt _ _ _ (World.block_lt_of_cell? _ _ ((hc_ HB FY)))).trans ((hc_ HB FY)), (World.cell?_alloc_lt _ _ _ (World.block_lt_of_cell? _ _ ((hc_ HB FX)))).trans ((hc_ HB FX))⟩ (fun hHeld => ?_)
         clear hK K; refine jd (a' := ?_) ?_ ?_
         rotate_left
         ·show Act.put _ (some 32) _ = _
          simp only [Act.put, List.setIfInBounds_toArray, List.set_cons_zero, List.set_cons_succ, gM, iE]; rfl
         refine jW (i := 9) (N := some 33) #[true, true, true, true, true, true, true, true, true, true, false, false] rfl rfl (fB HT_.out (by kernel_rfl)) (by decide) (fun K hK => ?_)
         refine Kd.qM k51 (w0 := w) w.heap.size (by rfl) (.tmp 25) (.tmp 32) 49 51 (.agg #[(.int .i64 0), (.slice none 0 0)]) 32 rfl Tryd.underlying49 yn rfl (by decide) (by omega) uH tq (⟨t991, t992⟩ : S51) [.int .i64 t991, .slice CW t992.length CX] (fun k_ => k_ ≠ wh ∧ k_ ≠ wU) (fun k_ => ((fun k_ => k_ ≠ wh ∧ k_ ≠ wU)) k_ ∧ some k_ ≠ (uH : Value).ownBlock) rfl rfl ?aP (fun _ hk => hk) ?aF ?aO ?aB ?aS ?aL ?_
         (case aP => exact vL _ _ _ (⟨t991, t992⟩ : S51) (Kd.aX (HO994.out) (fun k_ hk => ⟨⟨hk.1.2, hk.2⟩, hk.1.1.2⟩)))
         (case aB => exact bl_)
         (case aF => exact (fun k_ hk => ⟨Kd.fo (g := wh) (o := .cells (t2_ 0 none 0 0) 51 (0, 0)) bk_ k_ hk, Kd.fo (g := wU) (o := .cells #[.int .i64 ny, uH] 51 (0, 0)) bk_ k_ hk⟩))
         (case aO => exact (by exact Kd.aX nz.out (fun _ hk => ⟨hk.1.1, hk.1.2⟩)))
         (case aS => exact (aI bl_))
         (case aL => have := LMc24.out; omega)
         intro v996 w30 ho hb hg hat; rw [← Ny995.out] at ho; have HO997 := aa.mk (ho); replace jo := aa.mk (eF (g := DW) (o := .cells (t5_ ah ak aj ai (some yA) af.length aT) 24 (0, 0)) bk_ hg (Kd.nY nz.out jo.out (by decide))); replace rA := aa.mk (eF (g := wh) (o := .cells (t2_ 0 none 0 0) 51 (0, 0)) bk_ hg (Kd.pQ nz.out (fun _ hk => hk.1.1))); replace nH := aa.mk (eF (g := wU) (o := .cells #[.int .i64 ny, uH] 51 (0, 0)) bk_ hg (Kd.pQ nz.out (fun _ hk => hk.1.2))); replace HB := aa.mk (hb); clear nz HO994; clear ho hb hg hat; obtain ⟨Ao32, co32, eo32⟩ := Kd.bF HO997.out; (subst eo32); refine hK.out _ _ ⟨ci_ nH, ci_ nH, ci_ jo, ci_ jo, ci_ jo, ci_ jo, ci_ jo, (hc_ HB F4), (hc_ HB F3), (hc_ HB FZ), (hc_ HB FY), (hc_ HB FX)⟩ (fun hHeld => ?_)
         clear hK K; refine jd (a' := ?_) ?_ ?_
         rotate_left
         ·show Act.put _ (some 33) _ = _
          simp only [Act.put, List.setIfInBounds_toArray, List.set_cons_zero, List.set_cons_succ, gM, iE]; rfl
         refine pu_ HT_ 10 34 (bm 12 2047) ?_
         refine tJ (i := 11) (N := none) #[true, true, true, true, true, true, true, true, true, true, true, true] rfl rfl (fB HT_.out (by kernel_rfl)) (by decide) (fun K hK => ?_)
         have hfs33 := fF nH.out 1; refine qB (w1 := ?_) (by rfl) rfl ?_ ?_
         rotate_left
         ·go_simp; rfl
         refine hK.out _ _ ?_
         clear hK K; refine mH (jT HT_.out (by kernel_rfl)) ?_
         try go_wp2
         go_roundg k2
         case measure => have := HJ1.out; have := HK2.out; omega
         case rel => exact ⟨(wrap64 (ll + 1)), (y995), (.slice Ao32 y995.length co32), rs_, H', ⟨by have := HJ1.out; have := HK2.out; omega⟩, ⟨by exact Kd.aX (Kd.bL (p := ⟨wU, 1, none⟩) (Kd.aX HO997.out (fun k_ hk => (⟨hk, by exact hk.2⟩ : _ ∧ k_ ≠ wU))) (fun _ hk => hk.2) (.slice Ao32 y995.length co32)) (fun _ hk => ⟨hk.1.1, hk.1.2⟩)⟩, ⟨by refine bP ?_ Rc.out _; exact jo.out⟩, ⟨by refine bP ?_ Re.out _; exact rA.out⟩, ⟨by refine eP (cs := #[.int .i64 ny, uH]) ?_ 1 _ rfl; exact nH.out⟩, ⟨bl_⟩⟩
        ·rw [if_neg c24] at H; exact absurd H (by simp)
       ·rw [if_neg c22] at H; exact absurd H (by simp)
      ·rw [if_neg c21] at H; have uQ := decide_eq_false c21; clear c21; simp only [Option.some.injEq, Prod.mk.injEq] at H; obtain ⟨rfl, rfl⟩ := H; obtain ⟨_, _, _, _, hcz36_4, _, _, _, _, _⟩ := bE jo.out; obtain ⟨Xf, Vy, _, _⟩ := dS nH.out; obtain ⟨hcz39_0, hcz39_1, hfz39_0, hfz39_1⟩ := dS rA.out; obtain ⟨Ao40, co40, eo40⟩ := Kd.bF nz.out; subst eo40; go_wp2; refine bodyPost_ret (results_cell_row rfl _ _ wh 51 (t2_ ny Ao40 tq.length co40) (0, 0) _ rfl b5_ Tryd.underlying51 rfl (by kernel_rfl)) rfl ?_
       exact ⟨_, re_, by exact Kd.aX (Kd.bL (p := ⟨wh, 1, none⟩) (Kd.bL (p := ⟨wh, 0, none⟩) (Kd.aX nz.out (fun k_ hk => (⟨hk, by exact hk.1⟩ : _ ∧ k_ ≠ wh))) (fun _ hk => hk.2) (.int .i64 ny)) (fun _ hk => hk.2) (.slice Ao40 tq.length co40)) (fun _ hk => trivial), bl_⟩
   ·rw [if_neg c17] at H; obtain ⟨Aj, c17b1⟩ := bn_ c17; simp only [Option.some.injEq, Prod.mk.injEq] at H; obtain ⟨rfl, rfl⟩ := H; obtain ⟨hcz43_0, _, _, _, _, _, _, _, _, _⟩ := bE jo.out; obtain ⟨hcz45_0, hcz45_1, _, _⟩ := dS nH.out; obtain ⟨U4, hcz46_1, hfz46_0, hfz46_1⟩ := dS rA.out; go_wp2; refine bodyPost_ret (results_cell_row rfl _ _ wh 51 (t2_ ny none 0 0) (0, 0) _ rfl b5_ Tryd.underlying51 rfl (by kernel_rfl)) rfl ?_
    exact ⟨_, re_, by exact Kd.jy _ _ _ _ _, bl_⟩

end Go.Proofs.YtggelekooacmnaaDoor.Q
