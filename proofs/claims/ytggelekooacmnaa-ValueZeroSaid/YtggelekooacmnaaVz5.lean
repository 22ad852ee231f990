/- Lemmas for: EC that ru is true for every list of numbers: the zero of a type is a value of it, and the cells of a list behind its length are the zero of its element. -/
import Derived.Test.YtggelekooacmnaaVz2
import Derived.Test.YtggelekooacmnaaVz3
import Derived.Test.YtggelekooacmnaaVz4
-- value.check and the UA wrong, told to the printer as plain functions of valid types
namespace Go.Proofs.Ytggelekooacmnaa.Z
open Go.RowKit Go.Proofs.YtggelekooacmnaaW.bM Go.Proofs.YtggelekooacmnaaW.dR Go.Proofs.YtggelekooacmnaaW.eO
open Go.Proofs.Ytggelekooacmnaa.Pure
set_option linter.unusedVariables false
set_option linter.unusedSimpArgs false
/-- a valid type that is not real, decided -/
def vtb : Nat → S27 → Bool
  | 0, _ => false
  | n + 1, t =>
    if t.f0 = 5 then t.f1 == 0 && t.f2 == 0 && t.f3 == 0 && decide (2 ≤ t.f4.length) && decide (t.f4.length ≤ 4) && t.f4.all fun x => vtb n x && x.f0 != 3
    else if t.f0 = 6 then t.f1 == 0 && t.f2 == 0 && decide (1 ≤ t.f3) && decide (t.f3 ≤ 4) && t.f4.length == 1 && t.f4.all fun x => vtb n x && (x.f0 == 1 || x.f0 == 2)
    else t.f4.isEmpty && t.f3 == 0 && (if t.f0 = 2 then decide (-1000 ≤ t.f1) && decide (t.f1 ≤ t.f2) && decide (t.f2 ≤ 1000) else t.f1 == 0 && t.f2 == 0 && (t.f0 == 1 || t.f0 == 3))
theorem vtb_vt (n : Nat) : ∀ {t : S27}, vtb n t = true → Vt n t ∧ t.f0 ≠ 4 := by
  induction n with
  | zero => intro t h; simp [vtb] at h
  | succ n ih =>
    intro t h
    obtain ⟨a0, a1, a2, a3, l⟩ := t
    simp only [vtb] at h
    by_cases h5 : a0 = 5
    · subst h5
      simp only [if_pos] at h
      simp only [Bool.and_eq_true, beq_iff_eq, decide_eq_true_eq, List.all_eq_true, bne_iff_ne] at h
      obtain ⟨⟨⟨⟨⟨rfl, rfl⟩, rfl⟩, h1⟩, h2⟩, h3⟩ := h
      exact ⟨.tup _ l h1 h2 (fun x hx => (ih (h3 x hx).1).1) (fun x hx => ⟨(h3 x hx).2, (ih (h3 x hx).1).2⟩), by simp⟩
    · rw [if_neg h5] at h
      by_cases h6 : a0 = 6
      · subst h6
        simp only [if_pos] at h
        simp only [Bool.and_eq_true, Bool.or_eq_true, beq_iff_eq, decide_eq_true_eq, List.all_eq_true] at h
        obtain ⟨⟨⟨⟨⟨rfl, rfl⟩, h1⟩, h2⟩, h3⟩, h4⟩ := h
        match l, h3, h4 with
        | [x], _, h4 => exact ⟨.lst _ a3 x h1 h2 (ih (h4 x List.mem_cons_self).1).1 (h4 x List.mem_cons_self).2, by simp⟩
      · rw [if_neg h6] at h
        simp only [Bool.and_eq_true, beq_iff_eq, List.isEmpty_iff] at h
        obtain ⟨⟨rfl, rfl⟩, h⟩ := h
        by_cases h2 : a0 = 2
        · subst h2
          simp only [if_pos, Bool.and_eq_true, decide_eq_true_eq] at h
          exact ⟨.int _ _ _ h.1.1 h.1.2 h.2, by simp⟩
        · rw [if_neg h2] at h
          simp only [Bool.and_eq_true, Bool.or_eq_true, beq_iff_eq] at h
          obtain ⟨⟨rfl, rfl⟩, rfl | rfl⟩ := h
          · exact ⟨.bool _, by simp⟩
          · exact ⟨.nat _, by simp⟩
theorem vt_vtb (n : Nat) : ∀ {t : S27}, Vt n t → t.f0 ≠ 4 → vtb n t = true := by
  induction n with
  | zero => intro t h; cases h
  | succ n ih =>
    intro t h h4
    cases h with
    | bool => simp [vtb]
    | int _ lo hi h1 h2 h3 => simp [vtb, h1, h2, h3]
    | nat => simp [vtb]
    | real => exact absurd rfl h4
    | tup _ l h1 h2 h3 h5 =>
      simp only [vtb, if_pos]
      simp only [Bool.and_eq_true, beq_iff_eq, decide_eq_true_eq, List.all_eq_true, bne_iff_ne]
      exact ⟨⟨⟨⟨⟨by first | rfl | trivial, by first | rfl | trivial⟩, by first | rfl | trivial⟩, h1⟩, h2⟩, fun x hx => ⟨ih (h3 x hx) (h5 x hx).2, (h5 x hx).1⟩⟩
    | lst _ m x h1 h2 h3 h5 =>
      have := ih h3 (by omega)
      simp [vtb, h1, h2, this, h5]
def kz.f (a0 a1 a2 a3 : Int) (l : List S27) (v0 : Int) (vs : List S31) : Option Int := if vtb 10 ⟨a0, a1, a2, a3, l⟩ = true then some (chk 10 ⟨a0, a1, a2, a3, l⟩ ⟨v0, vs⟩) else none
def kM.f (a0 a1 a2 a3 : Int) (l : List S27) (v0 : Int) (vs : List S31) : Option Int := if vtb 10 ⟨a0, a1, a2, a3, l⟩ = true then some (chk 10 ⟨a0, a1, a2, a3, l⟩ ⟨v0, vs⟩) else none
theorem kz.calls (a0 a1 a2 a3 : Int) (A : Option Addr) (c : Nat) (l : List S27) (v0 : Int) (B : Option Addr) (d : Nat) (vs : List S31) (r : Int) (w : World) (hA : Kd.C k27 w A l.length l) (hc : l.length ≤ c) (hB : Kd.C k31 w B vs.length vs) (hd : vs.length ≤ d) (h : kz.f a0 a1 a2 a3 l v0 vs = some r) :
    Calls Try.prog 29 #[.agg #[.int .i64 a0, .int .i64 a1, .int .i64 a2, .int .i64 a3, .slice A l.length c], .agg #[.int .i64 v0, .slice B vs.length d]] w fun e w' => e = .returned (.int .i64 r) ∧ Below w.heap.size w w' := by
  unfold kz.f at h
  by_cases hv : vtb 10 ⟨a0, a1, a2, a3, l⟩ = true
  · rw [if_pos hv] at h
    obtain rfl := Option.some.inj h
    obtain ⟨h1, h2⟩ := vtb_vt 10 hv
    exact Xv 10 ⟨a0, a1, a2, a3, l⟩ ⟨v0, vs⟩ h1 h2 A c B d w hA hc hB hd
  · rw [if_neg hv] at h; cases h
theorem kM.calls (a0 a1 a2 a3 : Int) (A : Option Addr) (c : Nat) (l : List S27) (v0 : Int) (B : Option Addr) (d : Nat) (vs : List S31) (r : Int) (w : World) (hA : Kd.C k27 w A l.length l) (hc : l.length ≤ c) (hB : Kd.C k31 w B vs.length vs) (hd : vs.length ≤ d) (h : kM.f a0 a1 a2 a3 l v0 vs = some r) :
    Calls Try.prog 27 #[.agg #[.int .i64 a0, .int .i64 a1, .int .i64 a2, .int .i64 a3, .slice A l.length c], .agg #[.int .i64 v0, .slice B vs.length d]] w fun e w' => e = .returned (.int .i64 r) ∧ Below w.heap.size w w' := by
  unfold kM.f at h
  by_cases hv : vtb 10 ⟨a0, a1, a2, a3, l⟩ = true
  · rw [if_pos hv] at h
    obtain rfl := Option.some.inj h
    obtain ⟨h1, h2⟩ := vtb_vt 10 hv
    exact Xw 10 ⟨a0, a1, a2, a3, l⟩ ⟨v0, vs⟩ h1 h2 A c B d w hA hc hB hd
  · rw [if_neg hv] at h; cases h
end Go.Proofs.Ytggelekooacmnaa.Z
namespace Go.Proofs.Ytggelekooacmnaa.Z
open Go.RowKit Go.Proofs.YtggelekooacmnaaW.bM Go.Proofs.YtggelekooacmnaaW.dR Go.Proofs.YtggelekooacmnaaW.eO
attribute [local go_sem] iM iN jk jl gW gX iO iP   -- for this text's walks alone
set_option linter.unusedVariables false
set_option linter.unusedSimpArgs false

/-! ### dO: function 9 -/
def dO.f (k : Nat) (ak : Int) (aG : Int) (aH : Int) (aD : Int) (ag : List (S27)) (dS : Int) (cO : List (S31)) : Option (Int) := (gU.f k ak aG aH aD ag).bind fun Ba => (if Ba = 0 then ((kM.f ak aG aH aD ag dS cO).bind fun t259 => (some t259)) else (some Ba))
theorem dO.mono : ∀ a0 a1 a2 a3 a4 a5 a6 k, LeO (dO.f k a0 a1 a2 a3 a4 a5 a6) (dO.f (k + 1) a0 a1 a2 a3 a4 a5 a6) := by
 intro a0 a1 a2 a3 a4 a5 a6 k; unfold dO.f
 repeat' first
   | (with_reducible exact gU.mono _ _ _ _ _ _)
   | (with_reducible exact LeO.refl _)
   | (with_reducible exact LeO.none _)
   | (with_reducible refine LeO.ite ?_ ?_)
   | (with_reducible refine LeO.bind ?_ (fun _ => ?_))
   | exact gU.mono _ _ _ _ _ _
   | exact LeO.none _
   | refine LeO.ite ?_ ?_
   | refine LeO.bind ?_ (fun _ => ?_)
set_option maxHeartbeats 8000000 in
set_option maxRecDepth 100000 in
theorem dO.calls (k : Nat) (ak : Int) (aG : Int) (aH : Int) (aD : Int) (bL : Option Addr) (bF : Nat) (ag : List (S27)) (dS : Int) (nA : Option Addr) (l7 : Nat) (cO : List (S31)) (r : Int) (w : World) (gM : Kd.C k27 w bL ag.length ag) (gN : ag.length ≤ bF) (AB : Kd.C k31 w nA cO.length cO) (AJ : cO.length ≤ l7) (h : dO.f k ak aG aH aD ag dS cO = some r) :
  Calls Try.prog 9 #[.agg #[.int .i64 ak, .int .i64 aG, .int .i64 aH, .int .i64 aD, .slice bL ag.length bF], .agg #[.int .i64 dS, .slice nA cO.length l7]] w fun e w' => e = .returned (.int .i64 r) ∧ Below w.heap.size w w' := by
 have rY := Try.underlying27; have hu31 := Try.underlying31; have dH := aa.mk gM; have fq := aa.mk gN; clear gM gN; have Ex := aa.mk AB; have IP := aa.mk AJ; clear AB AJ; have HB := aa.mk (Below.refl w.heap.size w); have H : ((gU.f k ak aG aH aD ag).bind fun Ba => (if Ba = 0 then ((kM.f ak aG aH aD ag dS cO).bind fun t259 => (some t259)) else (some Ba))) = some r := h; clear h; replace H := Option.bind_eq_some_iff.mp H; obtain ⟨Ba, A30, H⟩ := H; replace H : (if Ba = 0 then ((kM.f ak aG aH aD ag dS cO).bind fun t259 => (some t259)) else (some Ba)) = some r := H; have A3 := aa.mk A30; clear A30; by_cases c4 : Ba = 0
 ·rw [if_pos c4] at H; have nz : (Ba == 0) = true := beq_iff_eq.mpr c4; have CB : (Ba != 0) = false := bne_eq_false_iff_eq.mpr c4; clear c4; replace H := Option.bind_eq_some_iff.mp H; obtain ⟨t259, A50, H⟩ := H; replace H : (some t259) = some r := H; have A5 := aa.mk A50; clear A50; obtain rfl := Option.some.inj H; go_enter Try.func9, Try.ntmps9; go_wp2_with (first | ((with_reducible refine bu (N := 2) rfl ?_); refine bz ?hg (N := 2) ?hd (cs := #[.int .i64 ak, .int .i64 aG, .int .i64 aH, .int .i64 aD, .slice bL ag.length bF]) (t := 27) ?hr ?_; (case hd => rfl); (case hg => rfl); (case hr => first | (go_simp; done) | (go_simp; rfl)); intro gb256 hg w6 aU hb; have su := aa.mk (aU); have GW256 : aa (w.heap.size ≤ gb256) := gw_ hg (aI bl_); have GE256 := GW256; replace HB := aa.mk (ay bl_ hb); clear hb aU hg) | ((with_reducible refine bu (N := 3) rfl ?_); refine bz ?hg (N := 3) ?hd (cs := #[.int .i64 dS, .slice nA cO.length l7]) (t := 31) ?hr ?_; (case hd => rfl); (case hg => rfl); (case hr => first | (go_simp; done) | (go_simp; rfl)); intro gb257 hg w7 aU hb; have IQ := aa.mk (aU); have GW257 : aa (w.heap.size ≤ gb257) := gw_ hg (aI bl_); have GE257 := GW257; have Lp := nl_ su hg; have Lr := ng_ su hg; replace su := kb_ su hb; replace HB := aa.mk (ay bl_ hb); clear hb aU hg; have hnb8 := Lp.out; have hnc8 := Lr.out; obtain ⟨EJ, EK, EL, EM, EN, EO, EP, ER, ES, ET⟩ := bQ su.out) | ((with_reducible refine aZ (f := 26) rfl ?_); refine cz (some 7) rfl rfl Try.func26 (by kernel_rfl) rfl #[.agg #[.int .i64 ak, .int .i64 aG, .int .i64 aH, .int .i64 aD, .slice bL ag.length bF]] rfl mp_ ?_; (with_reducible refine (gU.calls k ak aG aH aD _ _ ag Ba _ ?aX ?aY A3.out).mono ?_); (case aX => exact cb_ (Kd.bX dH.out HB.out)); (case aY => exact fq.out); rintro e w10 ⟨rfl, hb⟩; refine ⟨_, rfl, ?_⟩; replace su := kb_ su hb; replace IQ := kb_ IQ hb; replace HB := aa.mk (ay bl_ hb); (try clear hb); (try clear hb2); (try clear hk); (try clear hi); obtain ⟨yZ, za, zb, ze, zf, zg, zh, zi, zk, zl⟩ := bQ su.out; obtain ⟨nY, nZ, og, oh⟩ := iy IQ.out) | ((with_reducible refine aZ (f := 27) rfl ?_); refine cz (some 13) rfl rfl Try.func27 (by kernel_rfl) rfl #[.agg #[.int .i64 ak, .int .i64 aG, .int .i64 aH, .int .i64 aD, .slice bL ag.length bF], .agg #[.int .i64 dS, .slice nA cO.length l7]] rfl mp_ ?_; (with_reducible refine (kM.calls ak aG aH aD _ _ ag dS _ _ cO t259 _ ?aX ?aY ?gz ?gL A5.out).mono ?_); (case aX => exact cb_ (Kd.bX dH.out HB.out)); (case aY => exact fq.out); (case gz => exact cb_ (Kd.bX Ex.out HB.out)); (case gL => exact IP.out); rintro e w13 ⟨rfl, hb⟩; refine ⟨_, rfl, ?_⟩; replace su := kb_ su hb; replace IQ := kb_ IQ hb; replace HB := aa.mk (ay bl_ hb); (try clear hb); (try clear hb2); (try clear hk); (try clear hi)))
  go_ret; exact ⟨re_, bl_⟩
 ·rw [if_neg c4] at H; have nz : (Ba == 0) = false := beq_eq_false_iff_ne.mpr c4; have CB : (Ba != 0) = true := bne_iff_ne.mpr c4; obtain rfl := Option.some.inj H; go_enter Try.func9, Try.ntmps9; go_wp2_with (first | ((with_reducible refine bu (N := 2) rfl ?_); refine bz ?hg (N := 2) ?hd (cs := #[.int .i64 ak, .int .i64 aG, .int .i64 aH, .int .i64 aD, .slice bL ag.length bF]) (t := 27) ?hr ?_; (case hd => rfl); (case hg => rfl); (case hr => first | (go_simp; done) | (go_simp; rfl)); intro gb256 hg w14 aU hb; have su := aa.mk (aU); have GW256 : aa (w.heap.size ≤ gb256) := gw_ hg (aI bl_); have GE256 := GW256; replace HB := aa.mk (ay bl_ hb); clear hb aU hg) | ((with_reducible refine bu (N := 3) rfl ?_); refine bz ?hg (N := 3) ?hd (cs := #[.int .i64 dS, .slice nA cO.length l7]) (t := 31) ?hr ?_; (case hd => rfl); (case hg => rfl); (case hr => first | (go_simp; done) | (go_simp; rfl)); intro gb257 hg w15 aU hb; have IQ := aa.mk (aU); have GW257 : aa (w.heap.size ≤ gb257) := gw_ hg (aI bl_); have GE257 := GW257; have Lp := nl_ su hg; have Lr := ng_ su hg; replace su := kb_ su hb; replace HB := aa.mk (ay bl_ hb); clear hb aU hg; have Mr := Lp.out; have Ms := Lr.out; obtain ⟨FR, FT, FU, FV, FW, FX, FY, FZ, F3, F4⟩ := bQ su.out) | ((with_reducible refine aZ (f := 26) rfl ?_); refine cz (some 7) rfl rfl Try.func26 (by kernel_rfl) rfl #[.agg #[.int .i64 ak, .int .i64 aG, .int .i64 aH, .int .i64 aD, .slice bL ag.length bF]] rfl mp_ ?_; (with_reducible refine (gU.calls k ak aG aH aD _ _ ag Ba _ ?aX ?aY A3.out).mono ?_); (case aX => exact cb_ (Kd.bX dH.out HB.out)); (case aY => exact fq.out); rintro e w18 ⟨rfl, hb⟩; refine ⟨_, rfl, ?_⟩; replace su := kb_ su hb; replace IQ := kb_ IQ hb; replace HB := aa.mk (ay bl_ hb); (try clear hb); (try clear hb2); (try clear hk); (try clear hi)))
  go_ret; exact ⟨re_, bl_⟩

end Go.Proofs.Ytggelekooacmnaa.Z
namespace Go.Proofs.Ytggelekooacmnaa.Z
open Go.RowKit Go.Proofs.YtggelekooacmnaaW.bM Go.Proofs.YtggelekooacmnaaW.dR Go.Proofs.YtggelekooacmnaaW.eO
attribute [local go_sem] iM iN jk jl gW gX iO iP   -- for this text's walks alone
set_option linter.unusedVariables false
set_option linter.unusedSimpArgs false

/-! ### eX: function 28 -/
def eX.f (k : Nat) (ak : Int) (aG : Int) (aH : Int) (aD : Int) (ag : List (S27)) : Option (Int) := (ic.f k ak aG aH aD ag).bind fun Aq => (if Aq = 0 then (if ak = 4 then (some 8) else (some 0)) else (some Aq))
theorem eX.mono : ∀ a0 a1 a2 a3 a4 k, LeO (eX.f k a0 a1 a2 a3 a4) (eX.f (k + 1) a0 a1 a2 a3 a4) := by
 intro a0 a1 a2 a3 a4 k; unfold eX.f
 repeat' first
   | (with_reducible exact ic.mono _ _ _ _ _ _)
   | (with_reducible exact LeO.refl _)
   | (with_reducible exact LeO.none _)
   | (with_reducible refine LeO.ite ?_ ?_)
   | (with_reducible refine LeO.bind ?_ (fun _ => ?_))
   | exact ic.mono _ _ _ _ _ _
   | exact LeO.none _
   | refine LeO.ite ?_ ?_
   | refine LeO.bind ?_ (fun _ => ?_)
set_option maxHeartbeats 8000000 in
set_option maxRecDepth 100000 in
theorem eX.calls (k : Nat) (ak : Int) (aG : Int) (aH : Int) (aD : Int) (bL : Option Addr) (bF : Nat) (ag : List (S27)) (r : Int) (w : World) (gM : Kd.C k27 w bL ag.length ag) (gN : ag.length ≤ bF) (h : eX.f k ak aG aH aD ag = some r) :
  Calls Try.prog 28 #[.agg #[.int .i64 ak, .int .i64 aG, .int .i64 aH, .int .i64 aD, .slice bL ag.length bF]] w fun e w' => e = .returned (.int .i64 r) ∧ Below w.heap.size w w' := by
 have rY := Try.underlying27; have dH := aa.mk gM; have fq := aa.mk gN; clear gM gN; have HB := aa.mk (Below.refl w.heap.size w); have H : ((ic.f k ak aG aH aD ag).bind fun Aq => (if Aq = 0 then (if ak = 4 then (some 8) else (some 0)) else (some Aq))) = some r := h; clear h; replace H := Option.bind_eq_some_iff.mp H; obtain ⟨Aq, A20, H⟩ := H; replace H : (if Aq = 0 then (if ak = 4 then (some 8) else (some 0)) else (some Aq)) = some r := H; have A2 := aa.mk A20; clear A20; by_cases c3 : Aq = 0
 ·rw [if_pos c3] at H; have lW : (Aq == 0) = true := beq_iff_eq.mpr c3; have oJ : (Aq != 0) = false := bne_eq_false_iff_eq.mpr c3; clear c3; by_cases c4 : ak = 4
  ·rw [if_pos c4] at H; have nz : (ak == 4) = true := beq_iff_eq.mpr c4; have CB : (ak != 4) = false := bne_eq_false_iff_eq.mpr c4; clear c4; obtain rfl := Option.some.inj H; go_enter Try.func28, Try.ntmps28; go_wp2_with (first | ((with_reducible refine bu (N := 1) rfl ?_); refine bz ?hg (N := 1) ?hd (cs := #[.int .i64 ak, .int .i64 aG, .int .i64 aH, .int .i64 aD, .slice bL ag.length bF]) (t := 27) ?hr ?_; (case hd => rfl); (case hg => rfl); (case hr => first | (go_simp; done) | (go_simp; rfl)); intro Qi hg w5 aU hb; have zU := aa.mk (aU); have Qj : aa (w.heap.size ≤ Qi) := gw_ hg (aI bl_); have GE283 := Qj; replace HB := aa.mk (ay bl_ hb); clear hb aU hg; obtain ⟨JQ, JR, JS, JU, JV, JW, JX, JY, JZ, J2⟩ := bQ zU.out) | ((with_reducible refine aZ (f := 44) rfl ?_); refine cz (some 5) rfl rfl Try.func44 (by kernel_rfl) rfl #[.agg #[.int .i64 ak, .int .i64 aG, .int .i64 aH, .int .i64 aD, .slice bL ag.length bF]] rfl mp_ ?_; (with_reducible refine (ic.calls k ak aG aH aD _ _ ag Aq _ ?aX ?aY A2.out).mono ?_); (case aX => exact cb_ (Kd.bX dH.out HB.out)); (case aY => exact fq.out); rintro e w7 ⟨rfl, hb⟩; refine ⟨_, rfl, ?_⟩; replace zU := kb_ zU hb; replace HB := aa.mk (ay bl_ hb); (try clear hb); (try clear hb2); (try clear hk); (try clear hi); obtain ⟨HY, HZ, Ua, Ub, Uc, H5, H6, Ud, Ue, Uf⟩ := bQ zU.out))
   go_ret; exact ⟨re_, bl_⟩
  ·rw [if_neg c4] at H; have nz : (ak == 4) = false := beq_eq_false_iff_ne.mpr c4; have CB : (ak != 4) = true := bne_iff_ne.mpr c4; obtain rfl := Option.some.inj H; go_enter Try.func28, Try.ntmps28; go_wp2_with (first | ((with_reducible refine bu (N := 1) rfl ?_); refine bz ?hg (N := 1) ?hd (cs := #[.int .i64 ak, .int .i64 aG, .int .i64 aH, .int .i64 aD, .slice bL ag.length bF]) (t := 27) ?hr ?_; (case hd => rfl); (case hg => rfl); (case hr => first | (go_simp; done) | (go_simp; rfl)); intro Qi hg w9 aU hb; have zU := aa.mk (aU); have Qj : aa (w.heap.size ≤ Qi) := gw_ hg (aI bl_); have GE283 := Qj; replace HB := aa.mk (ay bl_ hb); clear hb aU hg; obtain ⟨qB, qC, rJ, rM, rO, qD, qE, rP, rQ, rR⟩ := bQ zU.out) | ((with_reducible refine aZ (f := 44) rfl ?_); refine cz (some 5) rfl rfl Try.func44 (by kernel_rfl) rfl #[.agg #[.int .i64 ak, .int .i64 aG, .int .i64 aH, .int .i64 aD, .slice bL ag.length bF]] rfl mp_ ?_; (with_reducible refine (ic.calls k ak aG aH aD _ _ ag Aq _ ?aX ?aY A2.out).mono ?_); (case aX => exact cb_ (Kd.bX dH.out HB.out)); (case aY => exact fq.out); rintro e w11 ⟨rfl, hb⟩; refine ⟨_, rfl, ?_⟩; replace zU := kb_ zU hb; replace HB := aa.mk (ay bl_ hb); (try clear hb); (try clear hb2); (try clear hk); (try clear hi); obtain ⟨nY, nZ, uM, uN, uO, og, oh, uP, uQ, uR⟩ := bQ zU.out))
   go_ret; exact ⟨re_, bl_⟩
 ·rw [if_neg c3] at H; have lW : (Aq == 0) = false := beq_eq_false_iff_ne.mpr c3; have oJ : (Aq != 0) = true := bne_iff_ne.mpr c3; obtain rfl := Option.some.inj H; go_enter Try.func28, Try.ntmps28; go_wp2_with (first | ((with_reducible refine bu (N := 1) rfl ?_); refine bz ?hg (N := 1) ?hd (cs := #[.int .i64 ak, .int .i64 aG, .int .i64 aH, .int .i64 aD, .slice bL ag.length bF]) (t := 27) ?hr ?_; (case hd => rfl); (case hg => rfl); (case hr => first | (go_simp; done) | (go_simp; rfl)); intro Qi hg w13 aU hb; have zU := aa.mk (aU); have Qj : aa (w.heap.size ≤ Qi) := gw_ hg (aI bl_); have GE283 := Qj; replace HB := aa.mk (ay bl_ hb); clear hb aU hg; obtain ⟨mg, mh, mi, mo, mq, mr, mD, mE, mF, mG⟩ := bQ zU.out) | ((with_reducible refine aZ (f := 44) rfl ?_); refine cz (some 5) rfl rfl Try.func44 (by kernel_rfl) rfl #[.agg #[.int .i64 ak, .int .i64 aG, .int .i64 aH, .int .i64 aD, .slice bL ag.length bF]] rfl mp_ ?_; (with_reducible refine (ic.calls k ak aG aH aD _ _ ag Aq _ ?aX ?aY A2.out).mono ?_); (case aX => exact cb_ (Kd.bX dH.out HB.out)); (case aY => exact fq.out); rintro e w15 ⟨rfl, hb⟩; refine ⟨_, rfl, ?_⟩; replace zU := kb_ zU hb; replace HB := aa.mk (ay bl_ hb); (try clear hb); (try clear hb2); (try clear hk); (try clear hi)))
  go_ret; exact ⟨re_, bl_⟩

end Go.Proofs.Ytggelekooacmnaa.Z
namespace Go.Proofs.Ytggelekooacmnaa.Z
open Go.RowKit Go.Proofs.YtggelekooacmnaaW.bM Go.Proofs.YtggelekooacmnaaW.dR Go.Proofs.YtggelekooacmnaaW.eO
attribute [local go_sem] iM iN jk jl gW gX iO iP   -- for this text's walks alone
set_option linter.unusedVariables false
set_option linter.unusedSimpArgs false

/-! ### gp: function 10 -/
def gp.f (k : Nat) (ak : Int) (aG : Int) (aH : Int) (aD : Int) (ag : List (S27)) (dS : Int) (cO : List (S31)) : Option (Int) := (eX.f k ak aG aH aD ag).bind fun Bb => (if Bb = 0 then ((kz.f ak aG aH aD ag dS cO).bind fun t292 => (some t292)) else (some Bb))
theorem gp.mono : ∀ a0 a1 a2 a3 a4 a5 a6 k, LeO (gp.f k a0 a1 a2 a3 a4 a5 a6) (gp.f (k + 1) a0 a1 a2 a3 a4 a5 a6) := by
 intro a0 a1 a2 a3 a4 a5 a6 k; unfold gp.f
 repeat' first
   | (with_reducible exact eX.mono _ _ _ _ _ _)
   | (with_reducible exact LeO.refl _)
   | (with_reducible exact LeO.none _)
   | (with_reducible refine LeO.ite ?_ ?_)
   | (with_reducible refine LeO.bind ?_ (fun _ => ?_))
   | exact eX.mono _ _ _ _ _ _
   | exact LeO.none _
   | refine LeO.ite ?_ ?_
   | refine LeO.bind ?_ (fun _ => ?_)
set_option maxHeartbeats 8000000 in
set_option maxRecDepth 100000 in
theorem gp.calls (k : Nat) (ak : Int) (aG : Int) (aH : Int) (aD : Int) (bL : Option Addr) (bF : Nat) (ag : List (S27)) (dS : Int) (nA : Option Addr) (l7 : Nat) (cO : List (S31)) (r : Int) (w : World) (gM : Kd.C k27 w bL ag.length ag) (gN : ag.length ≤ bF) (AB : Kd.C k31 w nA cO.length cO) (AJ : cO.length ≤ l7) (h : gp.f k ak aG aH aD ag dS cO = some r) :
  Calls Try.prog 10 #[.agg #[.int .i64 ak, .int .i64 aG, .int .i64 aH, .int .i64 aD, .slice bL ag.length bF], .agg #[.int .i64 dS, .slice nA cO.length l7]] w fun e w' => e = .returned (.int .i64 r) ∧ Below w.heap.size w w' := by
 have rY := Try.underlying27; have hu31 := Try.underlying31; have dH := aa.mk gM; have fq := aa.mk gN; clear gM gN; have Ex := aa.mk AB; have IP := aa.mk AJ; clear AB AJ; have HB := aa.mk (Below.refl w.heap.size w); have H : ((eX.f k ak aG aH aD ag).bind fun Bb => (if Bb = 0 then ((kz.f ak aG aH aD ag dS cO).bind fun t292 => (some t292)) else (some Bb))) = some r := h; clear h; replace H := Option.bind_eq_some_iff.mp H; obtain ⟨Bb, A30, H⟩ := H; replace H : (if Bb = 0 then ((kz.f ak aG aH aD ag dS cO).bind fun t292 => (some t292)) else (some Bb)) = some r := H; have A3 := aa.mk A30; clear A30; by_cases c4 : Bb = 0
 ·rw [if_pos c4] at H; have nz : (Bb == 0) = true := beq_iff_eq.mpr c4; have CB : (Bb != 0) = false := bne_eq_false_iff_eq.mpr c4; clear c4; replace H := Option.bind_eq_some_iff.mp H; obtain ⟨t292, A50, H⟩ := H; replace H : (some t292) = some r := H; have A5 := aa.mk A50; clear A50; obtain rfl := Option.some.inj H; go_enter Try.func10, Try.ntmps10; go_wp2_with (first | ((with_reducible refine bu (N := 2) rfl ?_); refine bz ?hg (N := 2) ?hd (cs := #[.int .i64 ak, .int .i64 aG, .int .i64 aH, .int .i64 aD, .slice bL ag.length bF]) (t := 27) ?hr ?_; (case hd => rfl); (case hg => rfl); (case hr => first | (go_simp; done) | (go_simp; rfl)); intro gb289 hg w6 aU hb; have sw := aa.mk (aU); have GW289 : aa (w.heap.size ≤ gb289) := gw_ hg (aI bl_); have GE289 := GW289; replace HB := aa.mk (ay bl_ hb); clear hb aU hg) | ((with_reducible refine bu (N := 3) rfl ?_); refine bz ?hg (N := 3) ?hd (cs := #[.int .i64 dS, .slice nA cO.length l7]) (t := 31) ?hr ?_; (case hd => rfl); (case hg => rfl); (case hr => first | (go_simp; done) | (go_simp; rfl)); intro gb290 hg w7 aU hb; have IU := aa.mk (aU); have GW290 : aa (w.heap.size ≤ gb290) := gw_ hg (aI bl_); have GE290 := GW290; have Ls := nl_ sw hg; have Lt := ng_ sw hg; replace sw := kb_ sw hb; replace HB := aa.mk (ay bl_ hb); clear hb aU hg; have hnb8 := Ls.out; have hnc8 := Lt.out; obtain ⟨EJ, EK, EL, EM, EN, EO, EP, ER, ES, ET⟩ := bQ sw.out) | ((with_reducible refine aZ (f := 28) rfl ?_); refine cz (some 7) rfl rfl Try.func28 (by kernel_rfl) rfl #[.agg #[.int .i64 ak, .int .i64 aG, .int .i64 aH, .int .i64 aD, .slice bL ag.length bF]] rfl mp_ ?_; (with_reducible refine (eX.calls k ak aG aH aD _ _ ag Bb _ ?aX ?aY A3.out).mono ?_); (case aX => exact cb_ (Kd.bX dH.out HB.out)); (case aY => exact fq.out); rintro e w10 ⟨rfl, hb⟩; refine ⟨_, rfl, ?_⟩; replace sw := kb_ sw hb; replace IU := kb_ IU hb; replace HB := aa.mk (ay bl_ hb); (try clear hb); (try clear hb2); (try clear hk); (try clear hi); obtain ⟨yZ, za, zb, ze, zf, zg, zh, zi, zk, zl⟩ := bQ sw.out; obtain ⟨nY, nZ, og, oh⟩ := iy IU.out) | ((with_reducible refine aZ (f := 29) rfl ?_); refine cz (some 13) rfl rfl Try.func29 (by kernel_rfl) rfl #[.agg #[.int .i64 ak, .int .i64 aG, .int .i64 aH, .int .i64 aD, .slice bL ag.length bF], .agg #[.int .i64 dS, .slice nA cO.length l7]] rfl mp_ ?_; (with_reducible refine (kz.calls ak aG aH aD _ _ ag dS _ _ cO t292 _ ?aX ?aY ?gz ?gL A5.out).mono ?_); (case aX => exact cb_ (Kd.bX dH.out HB.out)); (case aY => exact fq.out); (case gz => exact cb_ (Kd.bX Ex.out HB.out)); (case gL => exact IP.out); rintro e w13 ⟨rfl, hb⟩; refine ⟨_, rfl, ?_⟩; replace sw := kb_ sw hb; replace IU := kb_ IU hb; replace HB := aa.mk (ay bl_ hb); (try clear hb); (try clear hb2); (try clear hk); (try clear hi)))
  go_ret; exact ⟨re_, bl_⟩
 ·rw [if_neg c4] at H; have nz : (Bb == 0) = false := beq_eq_false_iff_ne.mpr c4; have CB : (Bb != 0) = true := bne_iff_ne.mpr c4; obtain rfl := Option.some.inj H; go_enter Try.func10, Try.ntmps10; go_wp2_with (first | ((with_reducible refine bu (N := 2) rfl ?_); refine bz ?hg (N := 2) ?hd (cs := #[.int .i64 ak, .int .i64 aG, .int .i64 aH, .int .i64 aD, .slice bL ag.length bF]) (t := 27) ?hr ?_; (case hd => rfl); (case hg => rfl); (case hr => first | (go_simp; done) | (go_simp; rfl)); intro gb289 hg w14 aU hb; have sw := aa.mk (aU); have GW289 : aa (w.heap.size ≤ gb289) := gw_ hg (aI bl_); have GE289 := GW289; replace HB := aa.mk (ay bl_ hb); clear hb aU hg) | ((with_reducible refine bu (N := 3) rfl ?_); refine bz ?hg (N := 3) ?hd (cs := #[.int .i64 dS, .slice nA cO.length l7]) (t := 31) ?hr ?_; (case hd => rfl); (case hg => rfl); (case hr => first | (go_simp; done) | (go_simp; rfl)); intro gb290 hg w15 aU hb; have IU := aa.mk (aU); have GW290 : aa (w.heap.size ≤ gb290) := gw_ hg (aI bl_); have GE290 := GW290; have Ls := nl_ sw hg; have Lt := ng_ sw hg; replace sw := kb_ sw hb; replace HB := aa.mk (ay bl_ hb); clear hb aU hg; have Mr := Ls.out; have Ms := Lt.out; obtain ⟨FR, FT, FU, FV, FW, FX, FY, FZ, F3, F4⟩ := bQ sw.out) | ((with_reducible refine aZ (f := 28) rfl ?_); refine cz (some 7) rfl rfl Try.func28 (by kernel_rfl) rfl #[.agg #[.int .i64 ak, .int .i64 aG, .int .i64 aH, .int .i64 aD, .slice bL ag.length bF]] rfl mp_ ?_; (with_reducible refine (eX.calls k ak aG aH aD _ _ ag Bb _ ?aX ?aY A3.out).mono ?_); (case aX => exact cb_ (Kd.bX dH.out HB.out)); (case aY => exact fq.out); rintro e w18 ⟨rfl, hb⟩; refine ⟨_, rfl, ?_⟩; replace sw := kb_ sw hb; replace IU := kb_ IU hb; replace HB := aa.mk (ay bl_ hb); (try clear hb); (try clear hb2); (try clear hk); (try clear hi)))
  go_ret; exact ⟨re_, bl_⟩

end Go.Proofs.Ytggelekooacmnaa.Z
namespace Go.Proofs.Ytggelekooacmnaa.Z
open Go.RowKit Go.Proofs.YtggelekooacmnaaW.bM Go.Proofs.YtggelekooacmnaaW.dR Go.Proofs.YtggelekooacmnaaW.eO
attribute [local go_sem] iM iN jk jl gW gX iO iP   -- for this text's walks alone
set_option linter.unusedVariables false
set_option linter.unusedSimpArgs false

/-! ### dE: function 34 -/
mutual
def dE.l0 : Nat → List (S27) → Int → Int → Int → List (S31) → Option (Int × (List (S31)))
 | 0, _, _, _, _, _ => none
 | k + 1, x20, x21, x22, WG, SN => if x22 < x21 then (if 0 ≤ x22 then (if x22 < (x20.length : Int) then ((dE.f k ((aj x20 x22).f0) ((aj x20 x22).f1) ((aj x20 x22).f2) ((aj x20 x22).f3) ((aj x20 x22).f4)).bind fun bt298 => (if SN.length < 4398046511104 then (dE.l0 k x20 x21 (wrap64 (x22 + 1)) WG (SN ++ [(⟨bt298.1, bt298.2⟩ : S31)])) else (none))) else (none)) else (none)) else (some (WG, SN))
def dE.f : Nat → Int → Int → Int → Int → List (S27) → Option (Int × (List (S31)))
 | 0, _, _, _, _, _ => none
 | k + 1, ak, aG, aH, aD, ag => if ak = 2 then (some (mx aG (mn 0 aH), ([] : List (S31)))) else (if ak = 5 then (dE.l0 k ag (ag.length : Int) 0 0 ([] : List (S31))) else (some (0, ([] : List (S31)))))
end
theorem dE.iU : ∀ k, (∀ y0 y1 y2 y3 y4, LeO (dE.f k y0 y1 y2 y3 y4) (dE.f (k + 1) y0 y1 y2 y3 y4)) ∧ (∀ y0 y1 y2 y3 y4, LeO (dE.l0 k y0 y1 y2 y3 y4) (dE.l0 (k + 1) y0 y1 y2 y3 y4))
 | 0 => ⟨fun _ _ _ _ _ r h => by simp [dE.f] at h, fun _ _ _ _ _ r h => by simp [dE.l0] at h⟩
 | k + 1 => by
  obtain ⟨ih0, ih1⟩ := dE.iU k; refine ⟨?_, ?_⟩
  ·intro y0 y1 y2 y3 y4; unfold dE.f; repeat' first
   | (with_reducible exact ih0 _ _ _ _ _)
   | (with_reducible exact ih1 _ _ _ _ _)
   | (with_reducible exact LeO.refl _)
   | (with_reducible exact LeO.none _)
   | (with_reducible refine LeO.ite ?_ ?_)
   | (with_reducible refine LeO.bind ?_ (fun _ => ?_))
   | exact ih0 _ _ _ _ _
   | exact ih1 _ _ _ _ _
   | exact LeO.none _
   | refine LeO.ite ?_ ?_
   | refine LeO.bind ?_ (fun _ => ?_)
  ·intro y0 y1 y2 y3 y4; unfold dE.l0; repeat' first
   | (with_reducible exact ih0 _ _ _ _ _)
   | (with_reducible exact ih1 _ _ _ _ _)
   | (with_reducible exact LeO.refl _)
   | (with_reducible exact LeO.none _)
   | (with_reducible refine LeO.ite ?_ ?_)
   | (with_reducible refine LeO.bind ?_ (fun _ => ?_))
   | exact ih0 _ _ _ _ _
   | exact ih1 _ _ _ _ _
   | exact LeO.none _
   | refine LeO.ite ?_ ?_
   | refine LeO.bind ?_ (fun _ => ?_)
theorem dE.mono : ∀ a0 a1 a2 a3 a4 k, LeO (dE.f k a0 a1 a2 a3 a4) (dE.f (k + 1) a0 a1 a2 a3 a4) := by
 intro a0 a1 a2 a3 a4 k; obtain ⟨ih0, ih1⟩ := dE.iU k; exact ih0 a0 a1 a2 a3 a4
def dE.T9 : Bool × List (List Nat × List Nat) := (true, [([], []), ([0], [0]), ([], []), ([2], [2]), ([3], [3]), ([1, 4, 3], [1, 4]), ([0, 1, 2, 3, 4, 5], []), ([6, 5, 5, 0, 1, 2, 3, 4, 5], [5, 6])])
def dE.B9 : List Nat := [0, 1, 0, 4, 12, 31, 63, 127]
theorem dE.tab9 : mf .any (opsOf Try.f34 9) = dE.T9 := by kernel_rfl
theorem dE.bits9 : nW dE.T9.2 dE.B9 = true := by kernel_rfl
set_option maxHeartbeats 8000000 in
set_option maxRecDepth 100000 in
theorem dE.calls (k : Nat) : ∀ (ak : Int) (aG : Int) (aH : Int) (aD : Int) (bL : Option Addr) (bF : Nat) (ag : List (S27)) (r1 : Int) (r2 : List (S31)) (w : World) (gM : Kd.C k27 w bL ag.length ag) (gN : ag.length ≤ bF) (h : dE.f k ak aG aH aD ag = some (r1, r2)),
  Calls Try.prog 34 #[.agg #[.int .i64 ak, .int .i64 aG, .int .i64 aH, .int .i64 aD, .slice bL ag.length bF]] w fun e w' => ∃ v1_ : Value, e = .returned (.agg #[.int .i64 r1, v1_]) ∧ Kd.R k31 31 w' w.heap.size (fun _ => True) v1_ r2 ∧ Below w.heap.size w w' := by
 induction k using Nat.strongRecOn with
 | _ k ih =>
 intro ak aG aH aD bL bF ag r1 r2 w gM gN h; cases k with
 | zero => exact absurd h (by simp [dE.f])
 | succ k =>
 simp only [dE.f] at h; have rY := Try.underlying27; have hu31 := Try.underlying31; have dH := aa.mk gM; have fq := aa.mk gN; clear gM gN; have HB := aa.mk (Below.refl w.heap.size w); have H : (if ak = 2 then (some (mx aG (mn 0 aH), ([] : List (S31)))) else (if ak = 5 then (dE.l0 k ag (ag.length : Int) 0 0 ([] : List (S31))) else (some (0, ([] : List (S31)))))) = some (r1, r2) := h; clear h; by_cases c2 : ak = 2
 ·rw [if_pos c2] at H; have Ag : (ak == 2) = true := beq_iff_eq.mpr c2; have Cq : (ak != 2) = false := bne_eq_false_iff_eq.mpr c2; clear c2; obtain ⟨ji3, hji3⟩ : ∃ j_ : Int, (mn 0 aH) = j_ := ⟨_, rfl⟩; replace H : (some (mx aG (ji3), ([] : List (S31)))) = some (r1, r2) := by first | (rw [hji3] at H; exact H) | (simp only [hji3] at H ⊢; exact H)
  (try (have hji3h : ji3 ≤ 0 := by (rw [← hji3]; unfold mn; (repeat' split) <;> omega)))
  (try (have hji3g : ji3 ≤ 64 := by omega))
  have hji3_ : (if aH < 0 then aH else 0) = ji3 := hji3; obtain ⟨ji4, C8⟩ : ∃ j_ : Int, (mx aG (ji3)) = j_ := ⟨_, rfl⟩; replace H : (some (ji4, ([] : List (S31)))) = some (r1, r2) := by first | (rw [C8] at H; exact H) | (simp only [C8] at H ⊢; exact H)
  have hji4_ : (if aG < (ji3) then (ji3) else aG) = ji4 := C8; simp only [Option.some.injEq, Prod.mk.injEq] at H; obtain ⟨rfl, rfl⟩ := H; go_enter Try.func34, Try.ntmps34; go_wp2_with (first | ((with_reducible refine bu (N := 1) rfl ?_); refine bz ?hg (N := 1) ?hd (cs := #[.int .i64 ak, .int .i64 aG, .int .i64 aH, .int .i64 aD, .slice bL ag.length bF]) (t := 27) ?hr ?_; (case hd => rfl); (case hg => rfl); (case hr => first | (go_simp; done) | (go_simp; rfl)); intro IV hg w5 aU hb; have jm := aa.mk (aU); have Qk : aa (w.heap.size ≤ IV) := gw_ hg (aI bl_); have GE293 := Qk; replace HB := aa.mk (ay bl_ hb); clear hb aU hg) | ((with_reducible refine bu (N := 2) rfl ?_); refine bz ?hg (N := 2) ?hd (cs := #[.int .i64 0, .slice none 0 0]) (t := 31) ?hr ?_; (case hd => rfl); (case hg => rfl); (case hr => first | (go_simp; done) | (go_simp; rfl)); intro qH hg w6 aU hb; have kG := aa.mk (aU); have Ql : aa (w.heap.size ≤ qH) := gw_ hg (aI bl_); have GE294 := Ql; have Ca := nl_ jm hg; have Cb := ng_ jm hg; replace jm := kb_ jm hb; replace HB := aa.mk (ay bl_ hb); clear hb aU hg) | ((with_reducible refine bu (N := 3) rfl ?_); refine bz ?hg (N := 3) ?hd (cs := #[.int .i64 0, .slice none 0 0]) (t := 31) ?hr ?_; (case hd => rfl); (case hg => rfl); (case hr => first | (go_simp; done) | (go_simp; rfl)); intro qU hg w7 aU hb; have lH := aa.mk (aU); have Qm : aa (w.heap.size ≤ qU) := gw_ hg (aI bl_); have GE295 := Qm; have vI := nl_ jm hg; have yw := ng_ jm hg; have vJ := nl_ kG hg; have Cc := ng_ kG hg; replace jm := kb_ jm hb; replace kG := kb_ kG hb; replace HB := aa.mk (ay bl_ hb); clear hb aU hg; have hnb8 := Ca.out; have hnc8 := Cb.out; have hnb9 := vI.out; have hnc9 := yw.out; obtain ⟨qB, qC, rJ, rM, rO, qD, qE, rP, rQ, rR⟩ := bQ jm.out; have hnb11 := Cc.out; have hnc11 := vJ.out; obtain ⟨nY, nZ, og, oh⟩ := iy lH.out; obtain ⟨SG, SH, SI, SK⟩ := iy kG.out))
  refine bodyPost_ret (results_cell_row rfl _ _ qH 31 #[.int .i64 ji4, .slice none 0 0] (0, 0) _ rfl (by (with_reducible repeat (first | refine ah ?_ _ | refine ai ?_ | refine af ?_ _)); refine aW (cs := #[.int .i64 ji4, .slice none 0 0]) ?_ 1 _ rfl; (with_reducible repeat (first | refine ah ?_ _ | refine ai ?_ | refine af ?_ _)); refine aW (cs := #[.int .i64 0, .slice none 0 0]) ?_ 0 _ rfl; (with_reducible repeat (first | refine ah ?_ _ | refine ai ?_ | refine af ?_ _)); refine aQ ?_ vJ.out _; (with_reducible repeat (first | refine ah ?_ _ | refine ai ?_ | refine af ?_ _)); exact kG.out) Try.underlying31 rfl (by kernel_rfl)) rfl ?_
  exact ⟨_, by first | rfl | (simp [iI, iJ] <;> rfl) | (simp only [← hji3, ← C8]; first | rfl | (simp [iI, iJ] <;> rfl)) | (simp [*, iI, iJ] <;> rfl), by first | exact Kd.jv _ _ _ _ _ | exact Kd.kV _ _ _ _ _ | exact Kd.jZ _ _ _ _ _ | exact Kd.kT _ _ _ _ _ | exact Kd.kU _ _ _ _ _, bl_⟩
 ·rw [if_neg c2] at H; have Ag : (ak == 2) = false := beq_eq_false_iff_ne.mpr c2; have Cq : (ak != 2) = true := bne_iff_ne.mpr c2; by_cases c14 : ak = 5
  ·rw [if_pos c14] at H; have xJ : (ak == 5) = true := beq_iff_eq.mpr c14; have Ej : (ak != 5) = false := bne_eq_false_iff_eq.mpr c14; clear c14; have H' := aa.mk H; clear H; go_enter Try.func34, Try.ntmps34; go_wp2_with (first | ((with_reducible refine bu (N := 1) rfl ?_); refine bz ?hg (N := 1) ?hd (cs := #[.int .i64 ak, .int .i64 aG, .int .i64 aH, .int .i64 aD, .slice bL ag.length bF]) (t := 27) ?hr ?_; (case hd => rfl); (case hg => rfl); (case hr => first | (go_simp; done) | (go_simp; rfl)); intro IV hg w15 aU hb; have jm := aa.mk (aU); have Qk : aa (w.heap.size ≤ IV) := gw_ hg (aI bl_); have GE293 := Qk; replace HB := aa.mk (ay bl_ hb); clear hb aU hg) | ((with_reducible refine bu (N := 2) rfl ?_); refine bz ?hg (N := 2) ?hd (cs := #[.int .i64 0, .slice none 0 0]) (t := 31) ?hr ?_; (case hd => rfl); (case hg => rfl); (case hr => first | (go_simp; done) | (go_simp; rfl)); intro qH hg w16 aU hb; have kG := aa.mk (aU); have Ql : aa (w.heap.size ≤ qH) := gw_ hg (aI bl_); have GE294 := Ql; have Ca := nl_ jm hg; have Cb := ng_ jm hg; replace jm := kb_ jm hb; replace HB := aa.mk (ay bl_ hb); clear hb aU hg) | ((with_reducible refine bu (N := 3) rfl ?_); refine bz ?hg (N := 3) ?hd (cs := #[.int .i64 0, .slice none 0 0]) (t := 31) ?hr ?_; (case hd => rfl); (case hg => rfl); (case hr => first | (go_simp; done) | (go_simp; rfl)); intro qU hg w17 aU hb; have lH := aa.mk (aU); have Qm : aa (w.heap.size ≤ qU) := gw_ hg (aI bl_); have GE295 := Qm; have vI := nl_ jm hg; have yw := ng_ jm hg; have vJ := nl_ kG hg; have Cc := ng_ kG hg; replace jm := kb_ jm hb; replace kG := kb_ kG hb; replace HB := aa.mk (ay bl_ hb); clear hb aU hg; have hnb18 := Ca.out; have hnc18 := Cb.out; have hnb19 := vI.out; have hnc19 := yw.out; obtain ⟨zG, zH, zI, zJ, zK, zL, zM, zN, zO, zP⟩ := bQ jm.out))
   go_loopg [22] k (fun kq v22 w' => ∃ (eB : Int) (qb : List (S31)) (rU : Value), v22 = .int .i64 eB ∧ aa (dE.l0 kq ag (ag.length : Int) eB 0 qb = some (r1, r2)) ∧ aa (kq ≤ k) ∧ aa (Kd.R k31 31 w' w.heap.size (fun k_ => k_ ≠ qH ∧ k_ ≠ qU) rU qb) ∧ aa (w'.heap[IV]? = some (.cells #[.int .i64 ak, .int .i64 aG, .int .i64 aH, .int .i64 aD, (.slice bL ag.length bF)] 27 (0, 0))) ∧ aa (w'.heap[qH]? = some (.cells #[.int .i64 0, (.slice none 0 0)] 31 (0, 0))) ∧ aa (w'.heap[qU]? = some (.cells #[.int .i64 0, rU] 31 (0, 0))) ∧ aa (Below w.heap.size w w'))
   case atStart => exact ⟨(0), (([] : List (S31))), (.slice none 0 0), rs_, H', ⟨Nat.le_refl _⟩, ⟨by first | exact Kd.jv _ _ _ _ _ | exact Kd.kV _ _ _ _ _ | exact Kd.jZ _ _ _ _ _ | exact Kd.kT _ _ _ _ _ | exact Kd.kU _ _ _ _ _⟩, ⟨bk_⟩, ⟨bk_⟩, ⟨bk_⟩, ⟨bl_⟩⟩
   case round =>
    clear H'; (try clear c1); (try clear c2); (try clear Ag); (try clear Cq); (try clear p2); (try clear c3); (try clear c8); (try clear c9); (try clear c11); (try clear c14); (try clear xJ); (try clear Ej); (try clear c18); (try clear c19); (try clear qB qC rJ rM rO qD qE rP rQ rR); (try clear nY nZ og oh); (try clear SG SH SI SK); (try clear zG zH zI zJ zK zL zM zN zO zP); obtain ⟨eB, qb, rU, rfl, HA, HK1, kH, jm, kG, lH, HB⟩ := hrel; cases gk with
    | zero => exact absurd HA.out (by simp [dE.l0])
    | succ k1 =>
     have H := HA.out; clear HA; simp only [dE.l0] at H; by_cases c21 : eB < (ag.length : Int)
     ·rw [if_pos c21] at H; have Eu : decide (eB < (ag.length : Int)) = true := decide_eq_true c21; clear c21; by_cases c22 : 0 ≤ eB
      ·rw [if_pos c22] at H; have KV : decide (0 ≤ eB) = true := decide_eq_true c22; clear c22; by_cases c23 : eB < (ag.length : Int)
       ·rw [if_pos c23] at H; have uH : decide (eB < (ag.length : Int)) = true := decide_eq_true c23; clear c23; replace H := Option.bind_eq_some_iff.mp H; obtain ⟨⟨t298, t299⟩, A240, H⟩ := H; replace H : (if qb.length < 4398046511104 then (dE.l0 k1 ag (ag.length : Int) (wrap64 (eB + 1)) 0 (qb ++ [(⟨t298, t299⟩ : S31)])) else (none)) = some (r1, r2) := H; have A24 := aa.mk A240; clear A240; by_cases c25 : qb.length < 4398046511104
        ·rw [if_pos c25] at H; have LMc25 := aa.mk c25; clear c25; obtain ⟨y302, Qn⟩ : ∃ y_ : List (S31), y_ = (qb ++ [(⟨t298, t299⟩ : S31)]) := ⟨_, rfl⟩; replace H : (dE.l0 k1 ag (ag.length : Int) (wrap64 (eB + 1)) 0 y302) = some (r1, r2) := by first | (rw [Qn]; with_reducible exact H) | (have H2_ := (Option.bind_some _ _).symm.trans H; rw [Qn]; with_reducible exact H2_) | (have H2_ := (Option.bind_some _ _).symm.trans H; with_reducible exact H2_) | with_reducible exact H | (rw [Qn]; exact H) | exact H
         have Ny302 := aa.mk Qn; clear Qn; have H' := aa.mk H; clear H; have p296 : 0 ≤ (eB : Int) := dt_; have q296 : eB < (ag.length : Int) := dt_; obtain ⟨ad296, wz, wB, e296, WH, WI, WJ, WK, WL, WM, WN⟩ := gQ dH.out eB p296 q296; cases e296; replace WH := hc_ HB WH; replace WI := hc_ HB WI; replace WJ := hc_ HB WJ; replace WK := hc_ HB WK; replace WL := hc_ HB WL; have HR296_4 := aa.mk WN; have HC296_4 := aa.mk WM; clear WN WM; replace p296 := eq_true p296; replace q296 := eq_true q296; try go_wp2_with (first | ((with_reducible refine bu (N := 5) rfl ?_); refine bz ?hg (N := 5) ?hd (cs := #[.int .i64 0, .int .i64 0, .int .i64 0, .int .i64 0, .slice none 0 0]) (t := 27) ?hr ?_; (case hd => rfl); (case hg => rfl); (case hr => first | (go_simp; done) | (go_simp; rfl)); intro ja hg w26 aU hb; have kY := aa.mk (aU); have GW297 : aa (w.heap.size ≤ ja) := gw_ hg (aI bl_); have GE297 := GW297; have Ce := nl_ jm hg; have XI := ng_ jm hg; have Cf := nl_ kG hg; have XJ := ng_ kG hg; have yx := nl_ lH hg; have TG := ng_ lH hg; replace kH := aa.mk (Kd.dQ (pR_ kH.out) hb); replace jm := kb_ jm hb; replace kG := kb_ kG hb; replace lH := kb_ lH hb; replace HB := aa.mk (ay bl_ hb); clear hb aU hg; have Pk := XI.out; have Pm := Ce.out; have hnb28 := XJ.out; have hnc28 := Cf.out; have hnb29 := TG.out; have hnc29 := yx.out; obtain ⟨BP, BQ, JK, JL, JM, BR, BS, JN, JO, JP⟩ := bQ kY.out))
         have n0_ : aa (Kd.R k31 31 (((((w26.setCell ⟨ja, 0, none⟩ (.int .i64 ((aj ag eB).f0))).setCell ⟨ja, 1, none⟩ (.int .i64 ((aj ag eB).f1))).setCell ⟨ja, 2, none⟩ (.int .i64 ((aj ag eB).f2))).setCell ⟨ja, 3, none⟩ (.int .i64 ((aj ag eB).f3))).setCell ⟨ja, 4, none⟩ (.slice wz ((aj ag eB).f4).length wB)) w.heap.size (fun k_ => k_ ≠ qH ∧ k_ ≠ qU) rU qb) := ⟨by (with_reducible repeat (first | apply Kd.fQ | apply Kd.fT | apply Kd.fI)); exact Kd.dn (Kd.fB (p := ⟨ja, 4, none⟩) (Kd.fB (p := ⟨ja, 3, none⟩) (Kd.fB (p := ⟨ja, 2, none⟩) (Kd.fB (p := ⟨ja, 1, none⟩) (Kd.fB (p := ⟨ja, 0, none⟩) (Kd.wC kH.out kY.out (by decide)) (fun _ hk => hk.2) (.int .i64 ((aj ag eB).f0))) (fun _ hk => hk.2) (.int .i64 ((aj ag eB).f1))) (fun _ hk => hk.2) (.int .i64 ((aj ag eB).f2))) (fun _ hk => hk.2) (.int .i64 ((aj ag eB).f3))) (fun _ hk => hk.2) (.slice wz ((aj ag eB).f4).length wB)) (fun _ hk => ⟨hk.1.1, hk.1.2⟩)⟩; have n1_ : aa ((((((w26.setCell ⟨ja, 0, none⟩ (.int .i64 ((aj ag eB).f0))).setCell ⟨ja, 1, none⟩ (.int .i64 ((aj ag eB).f1))).setCell ⟨ja, 2, none⟩ (.int .i64 ((aj ag eB).f2))).setCell ⟨ja, 3, none⟩ (.int .i64 ((aj ag eB).f3))).setCell ⟨ja, 4, none⟩ (.slice wz ((aj ag eB).f4).length wB)).heap[IV]? = some (.cells #[.int .i64 ak, .int .i64 aG, .int .i64 aH, .int .i64 aD, .slice (some ad296) ag.length bF] 27 (0, 0))) := ⟨by (with_reducible repeat (first | refine ah ?_ _ | refine ai ?_ | refine af ?_ _)); refine aQ ?_ Ce.out _; (with_reducible repeat (first | refine ah ?_ _ | refine ai ?_ | refine af ?_ _)); refine aQ ?_ Ce.out _; (with_reducible repeat (first | refine ah ?_ _ | refine ai ?_ | refine af ?_ _)); refine aQ ?_ Ce.out _; (with_reducible repeat (first | refine ah ?_ _ | refine ai ?_ | refine af ?_ _)); refine aQ ?_ Ce.out _; (with_reducible repeat (first | refine ah ?_ _ | refine ai ?_ | refine af ?_ _)); refine aQ ?_ Ce.out _; (with_reducible repeat (first | refine ah ?_ _ | refine ai ?_ | refine af ?_ _)); exact jm.out⟩; have n2_ : aa ((((((w26.setCell ⟨ja, 0, none⟩ (.int .i64 ((aj ag eB).f0))).setCell ⟨ja, 1, none⟩ (.int .i64 ((aj ag eB).f1))).setCell ⟨ja, 2, none⟩ (.int .i64 ((aj ag eB).f2))).setCell ⟨ja, 3, none⟩ (.int .i64 ((aj ag eB).f3))).setCell ⟨ja, 4, none⟩ (.slice wz ((aj ag eB).f4).length wB)).heap[qH]? = some (.cells #[.int .i64 0, .slice none 0 0] 31 (0, 0))) := ⟨by (with_reducible repeat (first | refine ah ?_ _ | refine ai ?_ | refine af ?_ _)); refine aQ ?_ Cf.out _; (with_reducible repeat (first | refine ah ?_ _ | refine ai ?_ | refine af ?_ _)); refine aQ ?_ Cf.out _; (with_reducible repeat (first | refine ah ?_ _ | refine ai ?_ | refine af ?_ _)); refine aQ ?_ Cf.out _; (with_reducible repeat (first | refine ah ?_ _ | refine ai ?_ | refine af ?_ _)); refine aQ ?_ Cf.out _; (with_reducible repeat (first | refine ah ?_ _ | refine ai ?_ | refine af ?_ _)); refine aQ ?_ Cf.out _; (with_reducible repeat (first | refine ah ?_ _ | refine ai ?_ | refine af ?_ _)); exact kG.out⟩
         have n3_ : aa ((((((w26.setCell ⟨ja, 0, none⟩ (.int .i64 ((aj ag eB).f0))).setCell ⟨ja, 1, none⟩ (.int .i64 ((aj ag eB).f1))).setCell ⟨ja, 2, none⟩ (.int .i64 ((aj ag eB).f2))).setCell ⟨ja, 3, none⟩ (.int .i64 ((aj ag eB).f3))).setCell ⟨ja, 4, none⟩ (.slice wz ((aj ag eB).f4).length wB)).heap[qU]? = some (.cells #[.int .i64 0, rU] 31 (0, 0))) := ⟨by (with_reducible repeat (first | refine ah ?_ _ | refine ai ?_ | refine af ?_ _)); refine aQ ?_ yx.out _; (with_reducible repeat (first | refine ah ?_ _ | refine ai ?_ | refine af ?_ _)); refine aQ ?_ yx.out _; (with_reducible repeat (first | refine ah ?_ _ | refine ai ?_ | refine af ?_ _)); refine aQ ?_ yx.out _; (with_reducible repeat (first | refine ah ?_ _ | refine ai ?_ | refine af ?_ _)); refine aQ ?_ yx.out _; (with_reducible repeat (first | refine ah ?_ _ | refine ai ?_ | refine af ?_ _)); refine aQ ?_ yx.out _; (with_reducible repeat (first | refine ah ?_ _ | refine ai ?_ | refine af ?_ _)); exact lH.out⟩; have n4_ : aa ((((((w26.setCell ⟨ja, 0, none⟩ (.int .i64 ((aj ag eB).f0))).setCell ⟨ja, 1, none⟩ (.int .i64 ((aj ag eB).f1))).setCell ⟨ja, 2, none⟩ (.int .i64 ((aj ag eB).f2))).setCell ⟨ja, 3, none⟩ (.int .i64 ((aj ag eB).f3))).setCell ⟨ja, 4, none⟩ (.slice wz ((aj ag eB).f4).length wB)).heap[ja]? = some (.cells #[.int .i64 ((aj ag eB).f0), .int .i64 ((aj ag eB).f1), .int .i64 ((aj ag eB).f2), .int .i64 ((aj ag eB).f3), .slice wz ((aj ag eB).f4).length wB] 27 (0, 0))) := ⟨by (with_reducible repeat (first | refine ah ?_ _ | refine ai ?_ | refine af ?_ _)); refine aW (cs := #[.int .i64 ((aj ag eB).f0), .int .i64 ((aj ag eB).f1), .int .i64 ((aj ag eB).f2), .int .i64 ((aj ag eB).f3), .slice none 0 0]) ?_ 4 _ rfl; (with_reducible repeat (first | refine ah ?_ _ | refine ai ?_ | refine af ?_ _)); refine aW (cs := #[.int .i64 ((aj ag eB).f0), .int .i64 ((aj ag eB).f1), .int .i64 ((aj ag eB).f2), .int .i64 0, .slice none 0 0]) ?_ 3 _ rfl; (with_reducible repeat (first | refine ah ?_ _ | refine ai ?_ | refine af ?_ _)); refine aW (cs := #[.int .i64 ((aj ag eB).f0), .int .i64 ((aj ag eB).f1), .int .i64 0, .int .i64 0, .slice none 0 0]) ?_ 2 _ rfl; (with_reducible repeat (first | refine ah ?_ _ | refine ai ?_ | refine af ?_ _)); refine aW (cs := #[.int .i64 ((aj ag eB).f0), .int .i64 0, .int .i64 0, .int .i64 0, .slice none 0 0]) ?_ 1 _ rfl; (with_reducible repeat (first | refine ah ?_ _ | refine ai ?_ | refine af ?_ _)); refine aW (cs := #[.int .i64 0, .int .i64 0, .int .i64 0, .int .i64 0, .slice none 0 0]) ?_ 0 _ rfl; (with_reducible repeat (first | refine ah ?_ _ | refine ai ?_ | refine af ?_ _)); exact kY.out⟩
         have n5_ : aa (Below w.heap.size w (((((w26.setCell ⟨ja, 0, none⟩ (.int .i64 ((aj ag eB).f0))).setCell ⟨ja, 1, none⟩ (.int .i64 ((aj ag eB).f1))).setCell ⟨ja, 2, none⟩ (.int .i64 ((aj ag eB).f2))).setCell ⟨ja, 3, none⟩ (.int .i64 ((aj ag eB).f3))).setCell ⟨ja, 4, none⟩ (.slice wz ((aj ag eB).f4).length wB))) := ⟨bl_⟩; (try clear kH)
         (try clear jm)
         (try clear kG)
         (try clear lH)
         (try clear kY)
         (try clear HB)
         generalize (((((w26.setCell ⟨ja, 0, none⟩ (.int .i64 ((aj ag eB).f0))).setCell ⟨ja, 1, none⟩ (.int .i64 ((aj ag eB).f1))).setCell ⟨ja, 2, none⟩ (.int .i64 ((aj ag eB).f2))).setCell ⟨ja, 3, none⟩ (.int .i64 ((aj ag eB).f3))).setCell ⟨ja, 4, none⟩ (.slice wz ((aj ag eB).f4).length wB)) = w31 at n0_ n1_ n2_ n3_ n4_ n5_ ⊢
         have kH := n0_; have jm := n1_; have kG := n2_; have lH := n3_; have kY := n4_; have HB := n5_; clear n0_ n1_ n2_ n3_ n4_ n5_; replace kH := aa.mk (Kd.fI kH.out); replace jm := aa.mk (ai jm.out); replace kG := aa.mk (ai kG.out); replace lH := aa.mk (ai lH.out); replace kY := aa.mk (ai kY.out); replace HB := aa.mk (bV HB.out); refine qQ (n := 8) (S := fun w' => w'.cell? ⟨qU, 0, none⟩ = some (.int .i64 0) ∧ w'.cell? ⟨qU, 1, none⟩ = some (rU) ∧ w'.cell? ⟨ja, 0, none⟩ = some (.int .i64 ((aj ag eB).f0)) ∧ w'.cell? ⟨ja, 1, none⟩ = some (.int .i64 ((aj ag eB).f1)) ∧ w'.cell? ⟨ja, 2, none⟩ = some (.int .i64 ((aj ag eB).f2)) ∧ w'.cell? ⟨ja, 3, none⟩ = some (.int .i64 ((aj ag eB).f3)) ∧ w'.cell? ⟨ja, 4, none⟩ = some (.slice wz ((aj ag eB).f4).length wB)) (ds := [7]) #[false, false, false, false, false, false, false, false] (by kernel_rfl) rfl rfl ⟨(aA lH.out 0).trans rfl, (aA lH.out 1).trans rfl, (aA kY.out 0).trans rfl, (aA kY.out 1).trans rfl, (aA kY.out 2).trans rfl, (aA kY.out 3).trans rfl, (aA kY.out 4).trans rfl⟩ (fun hHeld => ?_); refine mO dE.tab9 dE.bits9 (fun HT_ HW_ => ?_)
         generalize w31.drew = w32 at kH jm kG lH kY HB hHeld ⊢
         refine pu_ HT_ 0 26 (bm 8 1) ?_
         refine ta_ HT_ HW_ 1 27 (bm 8 3) hHeld ?_
         refine ta_ HT_ HW_ 2 28 (bm 8 7) hHeld ?_
         refine qJ (i := 3) (N := some 29) #[true, true, true, true, false, false, false, false] rfl rfl (kL HT_.out (by kernel_rfl)) (by decide) (fun K hK => ?_)
         refine xI Try.func34 (by kernel_rfl) rfl #[.agg #[.int .i64 ((aj ag eB).f0), .int .i64 ((aj ag eB).f1), .int .i64 ((aj ag eB).f2), .int .i64 ((aj ag eB).f3), .slice wz ((aj ag eB).f4).length wB]] (by rfl) rfl rfl mp_ ?_
         with_reducible refine (ih k1 (by have := HK1.out; omega) ((aj ag eB).f0) ((aj ag eB).f1) ((aj ag eB).f2) ((aj ag eB).f3) _ _ ((aj ag eB).f4) t298 t299 _ ?aX ?aY A24.out).mono ?_
         (case aX => exact cb_ (Kd.bX HR296_4.out HB.out))
         (case aY => exact HC296_4.out)
         rintro e w33 ⟨v300, rfl, ho0, hb⟩
         refine ⟨_, rfl, ?_⟩
         have HO301 := aa.mk (Kd.gm (Kd.pX (Kd.pX (Kd.oH ho0 (Kd.ou (pR_ kH.out))) (g := qH) (o := .cells #[.int .i64 0, .slice none 0 0] 31 (0, 0)) bk_) (g := qU) (o := .cells #[.int .i64 0, rU] 31 (0, 0)) bk_) (aI bl_)); replace kH := aa.mk (Kd.mK (pR_ kH.out) (Kd.eZ ho0) hb); replace jm := kb_ jm hb; replace kG := kb_ kG hb; replace lH := kb_ lH hb; replace kY := kb_ kY hb; replace HB := aa.mk (ay bl_ hb); (try clear hb)
         (try clear hb2)
         (try clear hk)
         (try clear hi)
         (try clear ho0)
         obtain ⟨Ao35, co35, eo35⟩ := Kd.fH HO301.out; (first | subst eo35 | (injection eo35 with f1_ f2_ f3_; have f4_ := f1_.symm; have f5_ := f3_.symm; clear f1_ f2_ f3_; subst f4_; subst f5_))
         refine hK.out _ _ ⟨(aA lH.out 0).trans rfl, (aA lH.out 1).trans rfl, (aA kY.out 0).trans rfl, (aA kY.out 1).trans rfl, (aA kY.out 2).trans rfl, (aA kY.out 3).trans rfl, (aA kY.out 4).trans rfl⟩ (fun hHeld => ?_)
         clear hK K; refine iH (a' := ?_) ?_ ?_
         rotate_left
         ·show Act.put _ (some 29) _ = _
          simp only [Act.put, List.setIfInBounds_toArray, List.set_cons_zero, List.set_cons_succ, eQ, fe]; rfl
         refine qJ (i := 4) (N := some 30) #[true, true, true, true, true, false, false, false] rfl rfl (kL HT_.out (by kernel_rfl)) (by decide) (fun K hK => ?_)
         refine O6 (w1 := ?_) (v := ?_) (by rfl) rfl ?_ ?_
         rotate_left 2
         ·go_simp; constructor
          ·rfl
          ·rfl
         refine hK.out _ _ ⟨(aA (af lH.out _) 0).trans rfl, (aA (af lH.out _) 1).trans rfl, (aA (af kY.out _) 0).trans rfl, (aA (af kY.out _) 1).trans rfl, (aA (af kY.out _) 2).trans rfl, (aA (af kY.out _) 3).trans rfl, (aA (af kY.out _) 4).trans rfl⟩ (fun hHeld => ?_)
         clear hK K; refine iH (a' := ?_) ?_ ?_
         rotate_left
         ·show Act.put _ (some 30) _ = _
          simp only [Act.put, List.setIfInBounds_toArray, List.set_cons_zero, List.set_cons_succ, eQ, fe]; rfl
         refine qJ (i := 5) (N := some 31) #[true, true, true, true, true, true, false, false] rfl rfl (kL HT_.out (by kernel_rfl)) (by decide) (fun K hK => ?_)
         refine Kd.Av k31 (w0 := w) w.heap.size (by rfl) (.tmp 27) (.tmp 30) 29 31 (.agg #[(.int .i64 0), (.slice none 0 0)]) 32 rfl Try.underlying29 Jf rfl (by decide) (by omega) rU qb (⟨t298, t299⟩ : S31) [.int .i64 t298, .slice Ao35 t299.length co35] (fun k_ => k_ ≠ qH ∧ k_ ≠ qU) (fun k_ => ((fun k_ => k_ ≠ qH ∧ k_ ≠ qU)) k_ ∧ some k_ ≠ (rU : Value).ownBlock) rfl rfl ?aP (fun _ hk => hk) ?aF ?aO ?aB ?aS ?aL ?_
         (case aP => exact Bh _ _ _ (⟨t298, t299⟩ : S31) (Kd.dn (HO301.out) (fun k_ hk => ⟨⟨hk.1.2, hk.2⟩, hk.1.1.2⟩)))
         (case aB => exact bl_)
         (case aF => exact (fun k_ hk => ⟨Kd.dY (g := qH) (o := .cells #[.int .i64 0, .slice none 0 0] 31 (0, 0)) bk_ k_ hk, Kd.dY (g := qU) (o := .cells #[.int .i64 0, rU] 31 (0, 0)) bk_ k_ hk⟩))
         (case aO => exact (by (with_reducible repeat (first | apply Kd.fQ | apply Kd.fT | apply Kd.fI)); exact Kd.dn kH.out (fun _ hk => ⟨hk.1.1, hk.1.2⟩)))
         (case aS => exact (aI bl_))
         (case aL => have := LMc25.out; omega)
         intro v303 w34 ho hb hg hat; rw [← Ny302.out] at ho; have HO304 := aa.mk (ho); replace jm := aa.mk (iq (g := IV) (o := .cells #[.int .i64 ak, .int .i64 aG, .int .i64 aH, .int .i64 aD, .slice (some ad296) ag.length bF] 27 (0, 0)) bk_ hg (Kd.xB kH.out jm.out (by decide))); replace kG := aa.mk (iq (g := qH) (o := .cells #[.int .i64 0, .slice none 0 0] 31 (0, 0)) bk_ hg (Kd.xM kH.out (fun _ hk => hk.1.1))); replace lH := aa.mk (iq (g := qU) (o := .cells #[.int .i64 0, rU] 31 (0, 0)) bk_ hg (Kd.xM kH.out (fun _ hk => hk.1.2))); replace kY := aa.mk (iq (g := ja) (o := .cells #[.int .i64 ((aj ag eB).f0), .int .i64 ((aj ag eB).f1), .int .i64 ((aj ag eB).f2), .int .i64 ((aj ag eB).f3), .slice wz ((aj ag eB).f4).length wB] 27 (0, 0)) bk_ hg (Kd.xB kH.out kY.out (by decide))); replace HB := aa.mk (hb); clear kH HO301; clear ho hb hg hat; obtain ⟨Ao36, co36, eo36⟩ := Kd.fH HO304.out; (first | subst eo36 | (injection eo36 with f1_ f2_ f3_; have f4_ := f1_.symm; have f5_ := f3_.symm; clear f1_ f2_ f3_; subst f4_; subst f5_))
         refine hK.out _ _ ⟨(aA lH.out 0).trans rfl, (aA lH.out 1).trans rfl, (aA kY.out 0).trans rfl, (aA kY.out 1).trans rfl, (aA kY.out 2).trans rfl, (aA kY.out 3).trans rfl, (aA kY.out 4).trans rfl⟩ (fun hHeld => ?_)
         clear hK K; refine iH (a' := ?_) ?_ ?_
         rotate_left
         ·show Act.put _ (some 31) _ = _
          simp only [Act.put, List.setIfInBounds_toArray, List.set_cons_zero, List.set_cons_succ, eQ, fe]; rfl
         refine pu_ HT_ 6 32 (bm 8 127) ?_
         refine Kw (i := 7) (N := none) #[true, true, true, true, true, true, true, true] rfl rfl (kL HT_.out (by kernel_rfl)) (by decide) (fun K hK => ?_)
         have hs37 : w34.cell? ⟨qU, 1, none⟩ = some (rU) := (aA lH.out 1).trans rfl; have hfs37 := fE lH.out 1; have hns37_0 := vI.out; have hns37_1 := vJ.out; have hns37_3 := TG.out; have hms37_0 := yw.out; have hms37_1 := Cc.out; have hms37_3 := yx.out; refine Kz (w1 := ?_) (by rfl) rfl ?_ ?_
         rotate_left
         ·go_simp; rfl
         refine hK.out _ _ ?_
         clear hK K; refine uG (qp HT_.out (by kernel_rfl)) ?_
         try go_wp2
         go_roundg k1
         case measure => have := HK1.out; omega
         case rel => exact ⟨(wrap64 (eB + 1)), (y302), (.slice Ao36 y302.length co36), rs_, H', ⟨by have := HK1.out; omega⟩, ⟨by (with_reducible repeat (first | apply Kd.fQ | apply Kd.fT | apply Kd.fI)); exact Kd.dn (Kd.fB (p := ⟨qU, 1, none⟩) (Kd.dn HO304.out (fun k_ hk => (⟨hk, by first | exact hk.2 | exact hk.1 | exact hk.2 | exact hk.1.1 | exact hk.1.2⟩ : _ ∧ k_ ≠ qU))) (fun _ hk => hk.2) (.slice Ao36 y302.length co36)) (fun _ hk => ⟨hk.1.1, hk.1.2⟩)⟩, ⟨by (with_reducible repeat (first | refine ah ?_ _ | refine ai ?_ | refine af ?_ _)); refine aQ ?_ vI.out _; (with_reducible repeat (first | refine ah ?_ _ | refine ai ?_ | refine af ?_ _)); exact jm.out⟩, ⟨by (with_reducible repeat (first | refine ah ?_ _ | refine ai ?_ | refine af ?_ _)); refine aQ ?_ vJ.out _; (with_reducible repeat (first | refine ah ?_ _ | refine ai ?_ | refine af ?_ _)); exact kG.out⟩, ⟨by (with_reducible repeat (first | refine ah ?_ _ | refine ai ?_ | refine af ?_ _)); refine aW (cs := #[.int .i64 0, rU]) ?_ 1 _ rfl; (with_reducible repeat (first | refine ah ?_ _ | refine ai ?_ | refine af ?_ _)); exact lH.out⟩, ⟨bl_⟩⟩
        ·rw [if_neg c25] at H; exact absurd H (by simp)
       ·rw [if_neg c23] at H; exact absurd H (by simp)
      ·rw [if_neg c22] at H; exact absurd H (by simp)
     ·rw [if_neg c21] at H; have Eu : decide (eB < (ag.length : Int)) = false := decide_eq_false c21; clear c21; simp only [Option.some.injEq, Prod.mk.injEq] at H; obtain ⟨rfl, rfl⟩ := H; have hnb38 := yw.out; have hnc38 := vI.out; have hnb39 := Cc.out; have hnc39 := vJ.out; obtain ⟨hcz40_0, hcz40_1, hfz40_0, hfz40_1⟩ := iy lH.out; have hnb41 := Cb.out; have hnc41 := Ca.out; obtain ⟨C9, Da, Db, Dc⟩ := iy kG.out; obtain ⟨Ao43, co43, eo43⟩ := Kd.fH kH.out; subst eo43; go_wp2; refine bodyPost_ret (results_cell_row rfl _ _ qH 31 #[.int .i64 0, .slice Ao43 qb.length co43] (0, 0) _ rfl (by (with_reducible repeat (first | refine ah ?_ _ | refine ai ?_ | refine af ?_ _)); refine aW (cs := #[.int .i64 0, .slice none 0 0]) ?_ 1 _ rfl; (with_reducible repeat (first | refine ah ?_ _ | refine ai ?_ | refine af ?_ _)); refine aW (cs := #[.int .i64 0, .slice none 0 0]) ?_ 0 _ rfl; (with_reducible repeat (first | refine ah ?_ _ | refine ai ?_ | refine af ?_ _)); exact kG.out) Try.underlying31 rfl (by kernel_rfl)) rfl ?_
      exact ⟨_, re_, by (with_reducible repeat (first | apply Kd.fQ | apply Kd.fT | apply Kd.fI)); exact Kd.dn (Kd.fB (p := ⟨qH, 1, none⟩) (Kd.fB (p := ⟨qH, 0, none⟩) (Kd.dn kH.out (fun k_ hk => (⟨hk, by first | exact hk.1 | exact hk.1 | exact hk.2 | exact hk.1.1 | exact hk.1.2⟩ : _ ∧ k_ ≠ qH))) (fun _ hk => hk.2) (.int .i64 0)) (fun _ hk => hk.2) (.slice Ao43 qb.length co43)) (fun _ hk => trivial), bl_⟩
  ·rw [if_neg c14] at H; have xJ : (ak == 5) = false := beq_eq_false_iff_ne.mpr c14; have Ej : (ak != 5) = true := bne_iff_ne.mpr c14; simp only [Option.some.injEq, Prod.mk.injEq] at H; obtain ⟨rfl, rfl⟩ := H; go_enter Try.func34, Try.ntmps34; go_wp2_with (first | ((with_reducible refine bu (N := 1) rfl ?_); refine bz ?hg (N := 1) ?hd (cs := #[.int .i64 ak, .int .i64 aG, .int .i64 aH, .int .i64 aD, .slice bL ag.length bF]) (t := 27) ?hr ?_; (case hd => rfl); (case hg => rfl); (case hr => first | (go_simp; done) | (go_simp; rfl)); intro IV hg w44 aU hb; have jm := aa.mk (aU); have Qk : aa (w.heap.size ≤ IV) := gw_ hg (aI bl_); have GE293 := Qk; replace HB := aa.mk (ay bl_ hb); clear hb aU hg) | ((with_reducible refine bu (N := 2) rfl ?_); refine bz ?hg (N := 2) ?hd (cs := #[.int .i64 0, .slice none 0 0]) (t := 31) ?hr ?_; (case hd => rfl); (case hg => rfl); (case hr => first | (go_simp; done) | (go_simp; rfl)); intro qH hg w45 aU hb; have kG := aa.mk (aU); have Ql : aa (w.heap.size ≤ qH) := gw_ hg (aI bl_); have GE294 := Ql; have Ca := nl_ jm hg; have Cb := ng_ jm hg; replace jm := kb_ jm hb; replace HB := aa.mk (ay bl_ hb); clear hb aU hg) | ((with_reducible refine bu (N := 3) rfl ?_); refine bz ?hg (N := 3) ?hd (cs := #[.int .i64 0, .slice none 0 0]) (t := 31) ?hr ?_; (case hd => rfl); (case hg => rfl); (case hr => first | (go_simp; done) | (go_simp; rfl)); intro qU hg w46 aU hb; have lH := aa.mk (aU); have Qm : aa (w.heap.size ≤ qU) := gw_ hg (aI bl_); have GE295 := Qm; have vI := nl_ jm hg; have yw := ng_ jm hg; have vJ := nl_ kG hg; have Cc := ng_ kG hg; replace jm := kb_ jm hb; replace kG := kb_ kG hb; replace HB := aa.mk (ay bl_ hb); clear hb aU hg; have hnb47 := Ca.out; have hnc47 := Cb.out; have hnb48 := vI.out; have hnc48 := yw.out; obtain ⟨NC, ND, NF, NG, NH, NI, NJ, NK, NL, NM⟩ := bQ jm.out; have hnb50 := Cc.out; have hnc50 := vJ.out; obtain ⟨hcz51_0, hcz51_1, hfz51_0, hfz51_1⟩ := iy lH.out; obtain ⟨MU, MV, MW, MX⟩ := iy kG.out))
   refine bodyPost_ret (results_cell_row rfl _ _ qH 31 #[.int .i64 0, .slice none 0 0] (0, 0) _ rfl (by (with_reducible repeat (first | refine ah ?_ _ | refine ai ?_ | refine af ?_ _)); refine aW (cs := #[.int .i64 0, .slice none 0 0]) ?_ 1 _ rfl; (with_reducible repeat (first | refine ah ?_ _ | refine ai ?_ | refine af ?_ _)); refine aW (cs := #[.int .i64 0, .slice none 0 0]) ?_ 0 _ rfl; (with_reducible repeat (first | refine ah ?_ _ | refine ai ?_ | refine af ?_ _)); exact kG.out) Try.underlying31 rfl (by kernel_rfl)) rfl ?_
   exact ⟨_, re_, by first | exact Kd.jv _ _ _ _ _ | exact Kd.kV _ _ _ _ _ | exact Kd.jZ _ _ _ _ _ | exact Kd.kT _ _ _ _ _ | exact Kd.kU _ _ _ _ _, bl_⟩

end Go.Proofs.Ytggelekooacmnaa.Z
namespace Go.Proofs.Ytggelekooacmnaa.Z
open Go.RowKit Go.Proofs.YtggelekooacmnaaW.bM Go.Proofs.YtggelekooacmnaaW.dR Go.Proofs.YtggelekooacmnaaW.eO
attribute [local go_sem] iM iN jk jl gW gX iO iP   -- for this text's walks alone
set_option linter.unusedVariables false
set_option linter.unusedSimpArgs false

/-! ### aV: function 31 -/
mutual
def aV.l0 : Nat → List Int → List (S31) → Int → Int → Int → Int → Int → Int → List (S27) → Option (List Int)
 | 0, _, _, _, _, _, _, _, _, _ => none
 | k + 1, x5, x16, x17, x18, Gu, Gv, Gw, D5, jD => if x18 < x17 then (if 0 ≤ x18 then (if x18 < (x16.length : Int) then (if x18 < (jD.length : Int) then ((aV.f k ((aj jD x18).f0) ((aj jD x18).f1) ((aj jD x18).f2) ((aj jD x18).f3) ((aj jD x18).f4) ((dM x16 x18).f0) ((dM x16 x18).f1)).bind fun t310 => (if x5.length + t310.length < 17592186044416 then (aV.l0 k (x5 ++ t310) x16 x17 (wrap64 (x18 + 1)) Gu Gv Gw D5 jD) else (none))) else (none)) else (none)) else (none)) else (some x5)
def aV.l1 : Nat → List Int → List (S31) → Int → Int → Int → Int → Int → Int → List (S27) → Int → List (S31) → Option (List Int)
 | 0, _, _, _, _, _, _, _, _, _, _, _ => none
 | k + 1, x8, x41, x42, x43, Gu, Gv, Gw, D5, jD, x307000, WO => if x43 < x42 then (if 0 ≤ x43 then (if x43 < (x41.length : Int) then (if 0 < (jD.length : Int) then ((aV.f k ((aj jD 0).f0) ((aj jD 0).f1) ((aj jD 0).f2) ((aj jD 0).f3) ((aj jD 0).f4) ((dM x41 x43).f0) ((dM x41 x43).f1)).bind fun t322 => (if x8.length + t322.length < 17592186044416 then (aV.l1 k (x8 ++ t322) x41 x42 (wrap64 (x43 + 1)) Gu Gv Gw D5 jD x307000 WO) else (none))) else (none)) else (none)) else (none)) else (aV.l2 k x8 (wrap64 (D5 - (WO.length : Int))) 0 Gu Gv Gw D5 jD)
def aV.l2 : Nat → List Int → Int → Int → Int → Int → Int → Int → List (S27) → Option (List Int)
 | 0, _, _, _, _, _, _, _, _ => none
 | k + 1, x8, x61, x62, Gu, Gv, Gw, D5, jD => if x62 < x61 then (if 0 < (jD.length : Int) then ((dE.f k ((aj jD 0).f0) ((aj jD 0).f1) ((aj jD 0).f2) ((aj jD 0).f3) ((aj jD 0).f4)).bind fun bt330 => ((aV.f k ((aj jD 0).f0) ((aj jD 0).f1) ((aj jD 0).f2) ((aj jD 0).f3) ((aj jD 0).f4) bt330.1 bt330.2).bind fun D6 => (if x8.length + D6.length < 17592186044416 then (aV.l2 k (x8 ++ D6) x61 (wrap64 (x62 + 1)) Gu Gv Gw D5 jD) else (none)))) else (none)) else (some x8)
def aV.f : Nat → Int → Int → Int → Int → List (S27) → Int → List (S31) → Option (List Int)
 | 0, _, _, _, _, _, _, _ => none
 | k + 1, ak, aG, aH, aD, ag, dS, cO => if ak = 5 then (aV.l0 k ([] : List Int) cO (cO.length : Int) 0 ak aG aH aD ag) else (if ak = 6 then (aV.l1 k (([(cO.length : Int)] : List Int)) cO (cO.length : Int) 0 ak aG aH aD ag dS cO) else (some (([dS] : List Int))))
end
theorem aV.iU : ∀ k, (∀ y0 y1 y2 y3 y4 y5 y6, LeO (aV.f k y0 y1 y2 y3 y4 y5 y6) (aV.f (k + 1) y0 y1 y2 y3 y4 y5 y6)) ∧ (∀ y0 y1 y2 y3 y4 y5 y6 y7 y8, LeO (aV.l0 k y0 y1 y2 y3 y4 y5 y6 y7 y8) (aV.l0 (k + 1) y0 y1 y2 y3 y4 y5 y6 y7 y8)) ∧ (∀ y0 y1 y2 y3 y4 y5 y6 y7 y8 y9 y10, LeO (aV.l1 k y0 y1 y2 y3 y4 y5 y6 y7 y8 y9 y10) (aV.l1 (k + 1) y0 y1 y2 y3 y4 y5 y6 y7 y8 y9 y10)) ∧ (∀ y0 y1 y2 y3 y4 y5 y6 y7, LeO (aV.l2 k y0 y1 y2 y3 y4 y5 y6 y7) (aV.l2 (k + 1) y0 y1 y2 y3 y4 y5 y6 y7))
 | 0 => ⟨fun _ _ _ _ _ _ _ r h => by simp [aV.f] at h, fun _ _ _ _ _ _ _ _ _ r h => by simp [aV.l0] at h, fun _ _ _ _ _ _ _ _ _ _ _ r h => by simp [aV.l1] at h, fun _ _ _ _ _ _ _ _ r h => by simp [aV.l2] at h⟩
 | k + 1 => by
  obtain ⟨ih0, ih1, ih2, ih3⟩ := aV.iU k; refine ⟨?_, ?_, ?_, ?_⟩
  ·intro y0 y1 y2 y3 y4 y5 y6; unfold aV.f; repeat' first
   | (with_reducible exact ih0 _ _ _ _ _ _ _)
   | (with_reducible exact ih1 _ _ _ _ _ _ _ _ _)
   | (with_reducible exact ih2 _ _ _ _ _ _ _ _ _ _ _)
   | (with_reducible exact ih3 _ _ _ _ _ _ _ _)
   | (with_reducible exact dE.mono _ _ _ _ _ _)
   | (with_reducible exact LeO.refl _)
   | (with_reducible exact LeO.none _)
   | (with_reducible refine LeO.ite ?_ ?_)
   | (with_reducible refine LeO.bind ?_ (fun _ => ?_))
   | exact ih0 _ _ _ _ _ _ _
   | exact ih1 _ _ _ _ _ _ _ _ _
   | exact ih2 _ _ _ _ _ _ _ _ _ _ _
   | exact ih3 _ _ _ _ _ _ _ _
   | exact dE.mono _ _ _ _ _ _
   | exact LeO.none _
   | refine LeO.ite ?_ ?_
   | refine LeO.bind ?_ (fun _ => ?_)
  ·intro y0 y1 y2 y3 y4 y5 y6 y7 y8; unfold aV.l0; repeat' first
   | (with_reducible exact ih0 _ _ _ _ _ _ _)
   | (with_reducible exact ih1 _ _ _ _ _ _ _ _ _)
   | (with_reducible exact ih2 _ _ _ _ _ _ _ _ _ _ _)
   | (with_reducible exact ih3 _ _ _ _ _ _ _ _)
   | (with_reducible exact dE.mono _ _ _ _ _ _)
   | (with_reducible exact LeO.refl _)
   | (with_reducible exact LeO.none _)
   | (with_reducible refine LeO.ite ?_ ?_)
   | (with_reducible refine LeO.bind ?_ (fun _ => ?_))
   | exact ih0 _ _ _ _ _ _ _
   | exact ih1 _ _ _ _ _ _ _ _ _
   | exact ih2 _ _ _ _ _ _ _ _ _ _ _
   | exact ih3 _ _ _ _ _ _ _ _
   | exact dE.mono _ _ _ _ _ _
   | exact LeO.none _
   | refine LeO.ite ?_ ?_
   | refine LeO.bind ?_ (fun _ => ?_)
  ·intro y0 y1 y2 y3 y4 y5 y6 y7 y8 y9 y10; unfold aV.l1; repeat' first
   | (with_reducible exact ih0 _ _ _ _ _ _ _)
   | (with_reducible exact ih1 _ _ _ _ _ _ _ _ _)
   | (with_reducible exact ih2 _ _ _ _ _ _ _ _ _ _ _)
   | (with_reducible exact ih3 _ _ _ _ _ _ _ _)
   | (with_reducible exact dE.mono _ _ _ _ _ _)
   | (with_reducible exact LeO.refl _)
   | (with_reducible exact LeO.none _)
   | (with_reducible refine LeO.ite ?_ ?_)
   | (with_reducible refine LeO.bind ?_ (fun _ => ?_))
   | exact ih0 _ _ _ _ _ _ _
   | exact ih1 _ _ _ _ _ _ _ _ _
   | exact ih2 _ _ _ _ _ _ _ _ _ _ _
   | exact ih3 _ _ _ _ _ _ _ _
   | exact dE.mono _ _ _ _ _ _
   | exact LeO.none _
   | refine LeO.ite ?_ ?_
   | refine LeO.bind ?_ (fun _ => ?_)
  ·intro y0 y1 y2 y3 y4 y5 y6 y7; unfold aV.l2; repeat' first
   | (with_reducible exact ih0 _ _ _ _ _ _ _)
   | (with_reducible exact ih1 _ _ _ _ _ _ _ _ _)
   | (with_reducible exact ih2 _ _ _ _ _ _ _ _ _ _ _)
   | (with_reducible exact ih3 _ _ _ _ _ _ _ _)
   | (with_reducible exact dE.mono _ _ _ _ _ _)
   | (with_reducible exact LeO.refl _)
   | (with_reducible exact LeO.none _)
   | (with_reducible refine LeO.ite ?_ ?_)
   | (with_reducible refine LeO.bind ?_ (fun _ => ?_))
   | exact ih0 _ _ _ _ _ _ _
   | exact ih1 _ _ _ _ _ _ _ _ _
   | exact ih2 _ _ _ _ _ _ _ _ _ _ _
   | exact ih3 _ _ _ _ _ _ _ _
   | exact dE.mono _ _ _ _ _ _
   | exact LeO.none _
   | refine LeO.ite ?_ ?_
   | refine LeO.bind ?_ (fun _ => ?_)
theorem aV.mono : ∀ a0 a1 a2 a3 a4 a5 a6 k, LeO (aV.f k a0 a1 a2 a3 a4 a5 a6) (aV.f (k + 1) a0 a1 a2 a3 a4 a5 a6) := by
 intro a0 a1 a2 a3 a4 a5 a6 k; obtain ⟨ih0, ih1, ih2, ih3⟩ := aV.iU k; exact ih0 a0 a1 a2 a3 a4 a5 a6
def aV.T7 : Bool × List (List Nat × List Nat) := (true, [([], []), ([], []), ([1], [1]), ([], []), ([2, 3], [2, 3]), ([4], [4]), ([], []), ([5, 6], [5, 6]), ([0, 7, 7], [0, 7]), ([8, 8, 0, 1, 2, 3, 4, 5, 6, 7, 8], [0, 8])])
def aV.B7 : List Nat := [0, 0, 2, 0, 14, 30, 0, 126, 255, 511]
theorem aV.tab7 : mf .any (opsOf Try.f31 7) = aV.T7 := by kernel_rfl
theorem aV.bits7 : nW aV.T7.2 aV.B7 = true := by kernel_rfl
def aV.T15 : Bool × List (List Nat × List Nat) := (true, [([], []), ([], []), ([1], [1]), ([2], [2]), ([3], [3]), ([], []), ([4, 5], [4, 5]), ([0, 6, 6], [0, 6]), ([7, 7, 0, 1, 2, 3, 4, 5, 6, 7], [0, 7])])
def aV.B15 : List Nat := [0, 0, 2, 6, 14, 0, 62, 127, 255]
theorem aV.NN : mf .any (opsOf Try.f31 15) = aV.T15 := by kernel_rfl
theorem aV.Ki : nW aV.T15.2 aV.B15 = true := by kernel_rfl
def aV.T19 : Bool × List (List Nat × List Nat) := (true, [([], []), ([], []), ([1], [1]), ([2], [2]), ([3], [3]), ([], []), ([5], [5]), ([6], [6]), ([7], [7]), ([8], [8]), ([4, 9, 9], [4, 9]), ([0, 10, 10], [0, 10]), ([11, 11, 0, 1, 2, 3, 4, 5, 6, 7, 8, 9, 10, 11], [0, 11])])
def aV.B19 : List Nat := [0, 0, 2, 6, 14, 0, 32, 96, 224, 480, 1022, 2047, 4095]
theorem aV.tab19 : mf .any (opsOf Try.f31 19) = aV.T19 := by kernel_rfl
theorem aV.bits19 : nW aV.T19.2 aV.B19 = true := by kernel_rfl
set_option maxHeartbeats 8000000 in
set_option maxRecDepth 100000 in
theorem aV.calls (k : Nat) : ∀ (ak : Int) (aG : Int) (aH : Int) (aD : Int) (bL : Option Addr) (bF : Nat) (ag : List (S27)) (dS : Int) (nA : Option Addr) (l7 : Nat) (cO : List (S31)) (r : List Int) (w : World) (gM : Kd.C k27 w bL ag.length ag) (gN : ag.length ≤ bF) (AB : Kd.C k31 w nA cO.length cO) (AJ : cO.length ≤ l7) (h : aV.f k ak aG aH aD ag dS cO = some r),
  Calls Try.prog 31 #[.agg #[.int .i64 ak, .int .i64 aG, .int .i64 aH, .int .i64 aD, .slice bL ag.length bF], .agg #[.int .i64 dS, .slice nA cO.length l7]] w fun e w' => ∃ v0_ : Value, e = .returned (v0_) ∧ Kd.R (Kd.int .i64) 3 w' w.heap.size (fun _ => True) v0_ r ∧ Below w.heap.size w w' := by
 induction k using Nat.strongRecOn with
 | _ k ih =>
 intro ak aG aH aD bL bF ag dS nA l7 cO r w gM gN AB AJ h; cases k with
 | zero => exact absurd h (by simp [aV.f])
 | succ k =>
 simp only [aV.f] at h; have rY := Try.underlying27; have hu31 := Try.underlying31; have dH := aa.mk gM; have fq := aa.mk gN; clear gM gN; have Ex := aa.mk AB; have IP := aa.mk AJ; clear AB AJ; have HB := aa.mk (Below.refl w.heap.size w); have H : (if ak = 5 then (aV.l0 k ([] : List Int) cO (cO.length : Int) 0 ak aG aH aD ag) else (if ak = 6 then (aV.l1 k (([(cO.length : Int)] : List Int)) cO (cO.length : Int) 0 ak aG aH aD ag dS cO) else (some (([dS] : List Int))))) = some r := h; clear h; by_cases c3 : ak = 5
 ·rw [if_pos c3] at H; have lW : (ak == 5) = true := beq_iff_eq.mpr c3; have oJ : (ak != 5) = false := bne_eq_false_iff_eq.mpr c3; clear c3; have H' := aa.mk H; clear H; go_enter Try.func31, Try.ntmps31; go_wp2_with (first | ((with_reducible refine bu (N := 2) rfl ?_); refine bz ?hg (N := 2) ?hd (cs := #[.int .i64 ak, .int .i64 aG, .int .i64 aH, .int .i64 aD, .slice bL ag.length bF]) (t := 27) ?hr ?_; (case hd => rfl); (case hg => rfl); (case hr => first | (go_simp; done) | (go_simp; rfl)); intro lY hg w4 aU hb; have dL := aa.mk (aU); have Qo : aa (w.heap.size ≤ lY) := gw_ hg (aI bl_); have GE305 := Qo; replace HB := aa.mk (ay bl_ hb); clear hb aU hg) | ((with_reducible refine bu (N := 3) rfl ?_); refine bz ?hg (N := 3) ?hd (cs := #[.int .i64 dS, .slice nA cO.length l7]) (t := 31) ?hr ?_; (case hd => rfl); (case hg => rfl); (case hr => first | (go_simp; done) | (go_simp; rfl)); intro xL hg w5 aU hb; have iR := aa.mk (aU); have Qp : aa (w.heap.size ≤ xL) := gw_ hg (aI bl_); have GE306 := Qp; have Cg := nl_ dL hg; have Ch := ng_ dL hg; replace dL := kb_ dL hb; replace HB := aa.mk (ay bl_ hb); clear hb aU hg; have hnb6 := Cg.out; have hnc6 := Ch.out; obtain ⟨EG, EH, Lg, P7, P8, H7, EI, Lh, P9, Qa⟩ := bQ dL.out; obtain ⟨HY, HZ, H5, H6⟩ := iy iR.out))
  go_loopg [5, 18] k (fun kq v5 v18 w' => ∃ (jA : List Int) (fU : Int), v18 = .int .i64 fU ∧ aa (aV.l0 kq jA cO (cO.length : Int) fU ak aG aH aD ag = some r) ∧ aa (kq ≤ k) ∧ aa (Kd.R (Kd.int .i64) 3 w' w.heap.size (fun _ => True) v5 jA) ∧ aa (w'.heap[lY]? = some (.cells #[.int .i64 ak, .int .i64 aG, .int .i64 aH, .int .i64 aD, (.slice bL ag.length bF)] 27 (0, 0))) ∧ aa (w'.heap[xL]? = some (.cells #[.int .i64 dS, (.slice nA cO.length l7)] 31 (0, 0))) ∧ aa (Below w.heap.size w w'))
  case atStart => exact ⟨(([] : List Int)), (0), rs_, H', ⟨Nat.le_refl _⟩, ⟨by first | exact Kd.jv _ _ _ _ _ | exact Kd.kV _ _ _ _ _ | exact Kd.jZ _ _ _ _ _ | exact Kd.kT _ _ _ _ _ | exact Kd.kU _ _ _ _ _⟩, ⟨bk_⟩, ⟨bk_⟩, ⟨bl_⟩⟩
  case round =>
   clear H'; (try clear c1); (try clear p2); (try clear c3); (try clear lW); (try clear oJ); (try clear c6); (try clear EG EH Lg P7 P8 H7 EI Lh P9 Qa); (try clear HY HZ H5 H6); obtain ⟨jA, fU, rfl, HA, HK1, qL, dL, iR, HB⟩ := hrel; cases gk with
   | zero => exact absurd HA.out (by simp [aV.l0])
   | succ k1 =>
    have H := HA.out; clear HA; simp only [aV.l0] at H; by_cases c9 : fU < (cO.length : Int)
    ·rw [if_pos c9] at H; have Dy : decide (fU < (cO.length : Int)) = true := decide_eq_true c9; clear c9; by_cases c10 : 0 ≤ fU
     ·rw [if_pos c10] at H; have r9 : decide (0 ≤ fU) = true := decide_eq_true c10; clear c10; by_cases c11 : fU < (cO.length : Int)
      ·rw [if_pos c11] at H; have Ay : decide (fU < (cO.length : Int)) = true := decide_eq_true c11; clear c11; by_cases c12 : fU < (ag.length : Int)
       ·rw [if_pos c12] at H; have uu : decide (fU < (ag.length : Int)) = true := decide_eq_true c12; clear c12; replace H := Option.bind_eq_some_iff.mp H; obtain ⟨t310, A130, H⟩ := H; replace H : (if jA.length + t310.length < 17592186044416 then (aV.l0 k1 (jA ++ t310) cO (cO.length : Int) (wrap64 (fU + 1)) ak aG aH aD ag) else (none)) = some r := H; have A13 := aa.mk A130; clear A130; by_cases c14 : jA.length + t310.length < 17592186044416
        ·rw [if_pos c14] at H; have LMc14 := aa.mk c14; clear c14; obtain ⟨y313, Qq⟩ : ∃ y_ : List Int, y_ = (jA ++ t310) := ⟨_, rfl⟩; replace H : (aV.l0 k1 y313 cO (cO.length : Int) (wrap64 (fU + 1)) ak aG aH aD ag) = some r := by first | (rw [Qq]; with_reducible exact H) | (have H2_ := (Option.bind_some _ _).symm.trans H; rw [Qq]; with_reducible exact H2_) | (have H2_ := (Option.bind_some _ _).symm.trans H; with_reducible exact H2_) | with_reducible exact H | (rw [Qq]; exact H) | exact H
         have Ny313 := aa.mk Qq; clear Qq; have H' := aa.mk H; clear H; have p307 : 0 ≤ (fU : Int) := dt_; have q307 : fU < (cO.length : Int) := dt_; obtain ⟨ad307, yz, yA, e307, NP, NQ, WQ, WR⟩ := Jg Ex.out fU p307 q307; cases e307; replace NP := hc_ HB NP; replace NQ := hc_ HB NQ; have HR307_1 := aa.mk WR; have HC307_1 := aa.mk WQ; clear WR WQ; replace p307 := eq_true p307; replace q307 := eq_true q307; try go_wp2_with (first | ((with_reducible refine bu (N := 7) rfl ?_); refine bz ?hg (N := 7) ?hd (cs := #[.int .i64 0, .slice none 0 0]) (t := 31) ?hr ?_; (case hd => rfl); (case hg => rfl); (case hr => first | (go_simp; done) | (go_simp; rfl)); intro qV hg w15 aU hb; have sD := aa.mk (aU); have GW308 : aa (w.heap.size ≤ qV) := gw_ hg (aI bl_); have GE308 := GW308; have Lu := nl_ dL hg; have XK := ng_ dL hg; have Lv := nl_ iR hg; have XL := ng_ iR hg; replace qL := aa.mk (Kd.dQ (pR_ qL.out) hb); replace dL := kb_ dL hb; replace iR := kb_ iR hb; replace HB := aa.mk (ay bl_ hb); clear hb aU hg; have Mr := XK.out; have Ms := Lu.out; have hnb17 := XL.out; have hnc17 := Lv.out; obtain ⟨oU, oV, oW, oZ⟩ := iy sD.out))
         have n0_ : aa (Kd.R (Kd.int .i64) 3 ((w15.setCell ⟨qV, 0, none⟩ (.int .i64 ((dM cO fU).f0))).setCell ⟨qV, 1, none⟩ (.slice yz ((dM cO fU).f1).length yA)) w.heap.size (fun _ => True) u5 jA) := ⟨by (with_reducible repeat (first | apply Kd.fQ | apply Kd.fT | apply Kd.fI)); exact Kd.dn (Kd.fB (p := ⟨qV, 1, none⟩) (Kd.fB (p := ⟨qV, 0, none⟩) (Kd.wC qL.out sD.out (by decide)) (fun _ hk => hk.2) (.int .i64 ((dM cO fU).f0))) (fun _ hk => hk.2) (.slice yz ((dM cO fU).f1).length yA)) (fun _ hk => trivial)⟩; have n1_ : aa (((w15.setCell ⟨qV, 0, none⟩ (.int .i64 ((dM cO fU).f0))).setCell ⟨qV, 1, none⟩ (.slice yz ((dM cO fU).f1).length yA)).heap[lY]? = some (.cells #[.int .i64 ak, .int .i64 aG, .int .i64 aH, .int .i64 aD, .slice bL ag.length bF] 27 (0, 0))) := ⟨by (with_reducible repeat (first | refine ah ?_ _ | refine ai ?_ | refine af ?_ _)); refine aQ ?_ Lu.out _; (with_reducible repeat (first | refine ah ?_ _ | refine ai ?_ | refine af ?_ _)); refine aQ ?_ Lu.out _; (with_reducible repeat (first | refine ah ?_ _ | refine ai ?_ | refine af ?_ _)); exact dL.out⟩; have n2_ : aa (((w15.setCell ⟨qV, 0, none⟩ (.int .i64 ((dM cO fU).f0))).setCell ⟨qV, 1, none⟩ (.slice yz ((dM cO fU).f1).length yA)).heap[xL]? = some (.cells #[.int .i64 dS, .slice (some ad307) cO.length l7] 31 (0, 0))) := ⟨by (with_reducible repeat (first | refine ah ?_ _ | refine ai ?_ | refine af ?_ _)); refine aQ ?_ Lv.out _; (with_reducible repeat (first | refine ah ?_ _ | refine ai ?_ | refine af ?_ _)); refine aQ ?_ Lv.out _; (with_reducible repeat (first | refine ah ?_ _ | refine ai ?_ | refine af ?_ _)); exact iR.out⟩; have n3_ : aa (((w15.setCell ⟨qV, 0, none⟩ (.int .i64 ((dM cO fU).f0))).setCell ⟨qV, 1, none⟩ (.slice yz ((dM cO fU).f1).length yA)).heap[qV]? = some (.cells #[.int .i64 ((dM cO fU).f0), .slice yz ((dM cO fU).f1).length yA] 31 (0, 0))) := ⟨by (with_reducible repeat (first | refine ah ?_ _ | refine ai ?_ | refine af ?_ _)); refine aW (cs := #[.int .i64 ((dM cO fU).f0), .slice none 0 0]) ?_ 1 _ rfl; (with_reducible repeat (first | refine ah ?_ _ | refine ai ?_ | refine af ?_ _)); refine aW (cs := #[.int .i64 0, .slice none 0 0]) ?_ 0 _ rfl; (with_reducible repeat (first | refine ah ?_ _ | refine ai ?_ | refine af ?_ _)); exact sD.out⟩; have n4_ : aa (Below w.heap.size w ((w15.setCell ⟨qV, 0, none⟩ (.int .i64 ((dM cO fU).f0))).setCell ⟨qV, 1, none⟩ (.slice yz ((dM cO fU).f1).length yA))) := ⟨bl_⟩; (try clear qL)
         (try clear dL)
         (try clear iR)
         (try clear sD)
         (try clear HB)
         generalize ((w15.setCell ⟨qV, 0, none⟩ (.int .i64 ((dM cO fU).f0))).setCell ⟨qV, 1, none⟩ (.slice yz ((dM cO fU).f1).length yA)) = w19 at n0_ n1_ n2_ n3_ n4_ ⊢
         have qL := n0_; have dL := n1_; have iR := n2_; have sD := n3_; have HB := n4_; clear n0_ n1_ n2_ n3_ n4_; replace qL := aa.mk (Kd.fI qL.out); replace dL := aa.mk (ai dL.out); replace iR := aa.mk (ai iR.out); replace sD := aa.mk (ai sD.out); replace HB := aa.mk (bV HB.out); have p309 : 0 ≤ (fU : Int) := dt_; have q309 : fU < (ag.length : Int) := dt_; obtain ⟨CJ, A309_4, c309_4, e309, Gx, Gy, Gz, GA, GD, WS, WT⟩ := gQ dH.out fU p309 q309; have GG := GD; have GH := GA; have GI := Gz; have GJ := Gy; have GK := Gx; cases e309; replace Gx := hc_ HB Gx; replace Gy := hc_ HB Gy; replace Gz := hc_ HB Gz; replace GA := hc_ HB GA; replace GD := hc_ HB GD; have WU := aa.mk WT; have HC309_4 := aa.mk WS; clear WT WS; replace p309 := eq_true p309; replace q309 := eq_true q309; refine qQ (n := 10) (S := fun w' => w'.cell? ⟨lY, 0, none⟩ = some (.int .i64 ak) ∧ w'.cell? ⟨lY, 1, none⟩ = some (.int .i64 aG) ∧ w'.cell? ⟨lY, 2, none⟩ = some (.int .i64 aH) ∧ w'.cell? ⟨lY, 3, none⟩ = some (.int .i64 aD) ∧ w'.cell? ⟨lY, 4, none⟩ = some (.slice (some CJ) ag.length bF) ∧ w'.cell? ⟨qV, 0, none⟩ = some (.int .i64 ((dM cO fU).f0)) ∧ w'.cell? ⟨qV, 1, none⟩ = some (.slice yz ((dM cO fU).f1).length yA) ∧ w'.cell? (CJ.add ((fU).toNat * 5)) = some (.int .i64 ((aj ag fU).f0)) ∧ w'.cell? ⟨(CJ.add ((fU).toNat * 5)).block, (CJ.add ((fU).toNat * 5)).off + 1, none⟩ = some (.int .i64 ((aj ag fU).f1)) ∧ w'.cell? ⟨(CJ.add ((fU).toNat * 5)).block, (CJ.add ((fU).toNat * 5)).off + 2, none⟩ = some (.int .i64 ((aj ag fU).f2)) ∧ w'.cell? ⟨(CJ.add ((fU).toNat * 5)).block, (CJ.add ((fU).toNat * 5)).off + 3, none⟩ = some (.int .i64 ((aj ag fU).f3)) ∧ w'.cell? ⟨(CJ.add ((fU).toNat * 5)).block, (CJ.add ((fU).toNat * 5)).off + 4, none⟩ = some (.slice A309_4 ((aj ag fU).f4).length c309_4)) (ds := []) #[false, false, false, false, false, false, false, false, false, false] (by kernel_rfl) rfl rfl ⟨(aA dL.out 0).trans rfl, (aA dL.out 1).trans rfl, (aA dL.out 2).trans rfl, (aA dL.out 3).trans rfl, (aA dL.out 4).trans rfl, (aA sD.out 0).trans rfl, (aA sD.out 1).trans rfl, ((HB.out.cell (World.block_lt_of_cell? w _ GK)).trans GK), ((HB.out.cell (World.block_lt_of_cell? w _ GJ)).trans GJ), ((HB.out.cell (World.block_lt_of_cell? w _ GI)).trans GI), ((HB.out.cell (World.block_lt_of_cell? w _ GH)).trans GH), ((HB.out.cell (World.block_lt_of_cell? w _ GG)).trans GG)⟩ (fun hHeld => ?_); refine mO aV.tab7 aV.bits7 (fun HT_ HW_ => ?_)
         generalize w19.drew = w20 at qL dL iR sD HB WU Gx Gy Gz GA GD hHeld ⊢
         refine pu_ HT_ 0 23 (bm 10 1) ?_
         refine pu_ HT_ 1 24 (bm 10 3) ?_
         refine pu_ HT_ 3 26 (bm 10 11) ?_
         refine ta_ HT_ HW_ 2 25 (bm 10 15) hHeld ?_
         refine pu_ HT_ 4 27 (bm 10 31) ?_
         refine ta_ HT_ HW_ 5 28 (bm 10 63) hHeld ?_
         refine ta_ HT_ HW_ 6 29 (bm 10 127) hHeld ?_
         refine qJ (i := 7) (N := some 30) #[true, true, true, true, true, true, true, true, false, false] rfl rfl (kL HT_.out (by kernel_rfl)) (by decide) (fun K hK => ?_)
         refine xI Try.func31 (by kernel_rfl) rfl #[.agg #[.int .i64 ((aj ag fU).f0), .int .i64 ((aj ag fU).f1), .int .i64 ((aj ag fU).f2), .int .i64 ((aj ag fU).f3), .slice A309_4 ((aj ag fU).f4).length c309_4], .agg #[.int .i64 ((dM cO fU).f0), .slice yz ((dM cO fU).f1).length yA]] (by rfl) rfl rfl mp_ ?_
         with_reducible refine (ih k1 (by have := HK1.out; omega) ((aj ag fU).f0) ((aj ag fU).f1) ((aj ag fU).f2) ((aj ag fU).f3) _ _ ((aj ag fU).f4) ((dM cO fU).f0) _ _ ((dM cO fU).f1) t310 _ ?aX ?aY ?gz ?gL A13.out).mono ?_
         (case aX => exact cb_ (Kd.bX WU.out HB.out))
         (case aY => exact HC309_4.out)
         (case gz => exact cb_ (Kd.bX HR307_1.out HB.out))
         (case gL => exact HC307_1.out)
         rintro e w21 ⟨v311, rfl, ho0, hb⟩
         refine ⟨_, rfl, ?_⟩
         have Qr := aa.mk (Kd.gm (Kd.oH ho0 (Kd.ou (pR_ qL.out))) (aI bl_)); replace qL := aa.mk (Kd.mK (pR_ qL.out) (Kd.eZ ho0) hb); replace dL := kb_ dL hb; replace iR := kb_ iR hb; replace sD := kb_ sD hb; replace HB := aa.mk (ay bl_ hb); (try clear hb)
         (try clear hb2)
         (try clear hk)
         (try clear hi)
         (try clear ho0)
         obtain ⟨Fa, Fb, eo23⟩ := Kd.fH Qr.out; (first | subst eo23 | (injection eo23 with f1_ f2_ f3_; have f4_ := f1_.symm; have f5_ := f3_.symm; clear f1_ f2_ f3_; subst f4_; subst f5_))
         refine hK.out _ _ ⟨(aA dL.out 0).trans rfl, (aA dL.out 1).trans rfl, (aA dL.out 2).trans rfl, (aA dL.out 3).trans rfl, (aA dL.out 4).trans rfl, (aA sD.out 0).trans rfl, (aA sD.out 1).trans rfl, ((HB.out.cell (World.block_lt_of_cell? w _ GK)).trans GK), ((HB.out.cell (World.block_lt_of_cell? w _ GJ)).trans GJ), ((HB.out.cell (World.block_lt_of_cell? w _ GI)).trans GI), ((HB.out.cell (World.block_lt_of_cell? w _ GH)).trans GH), ((HB.out.cell (World.block_lt_of_cell? w _ GG)).trans GG)⟩ (fun hHeld => ?_)
         clear hK K; refine iH (a' := ?_) ?_ ?_
         rotate_left
         ·show Act.put _ (some 30) _ = _
          simp only [Act.put, List.setIfInBounds_toArray, List.set_cons_zero, List.set_cons_succ, eQ, fe]; rfl
         refine qJ (i := 8) (N := some 31) #[true, true, true, true, true, true, true, true, true, false] rfl rfl (kL HT_.out (by kernel_rfl)) (by decide) (fun K hK => ?_)
         refine Kd.xO (Kd.int .i64) (w0 := w) w.heap.size (by rfl) (.tmp 23) (.tmp 30) 22 3 (.int .i64 0) 8 rfl Try.underlying22 info3 rfl (by decide) (by omega) u5 jA t310 _ _ _ (fun k_ => some k_ ≠ (.slice Fa t310.length Fb : Value).ownBlock) (fun _ => False) rfl rfl ?aO ?aR (fun _ _ h => h) (fun _ h => h.elim) ?aF ?aB ?aS ?aL ?_
         (case aR => exact cb_ ((Kd.eu Qr.out).2.2))
         (case aB => exact bl_)
         (case aF => exact (fun k_ hk => Kd.fresh' (Kd.ou (pR_ Qr.out)) k_ hk))
         (case aO => exact (by (with_reducible repeat (first | apply Kd.fQ | apply Kd.fT | apply Kd.fI)); exact Kd.dn qL.out (fun _ hk => hk.2)))
         (case aS => exact (aI bl_))
         (case aL => have := LMc14.out; omega)
         intro v314 w22 ho hb hg hat; rw [← Ny313.out] at ho; have HO315 := aa.mk (ho); replace dL := aa.mk (iq (g := lY) (o := .cells #[.int .i64 ak, .int .i64 aG, .int .i64 aH, .int .i64 aD, .slice (some CJ) ag.length bF] 27 (0, 0)) bk_ hg (Kd.xB qL.out dL.out (by decide))); replace iR := aa.mk (iq (g := xL) (o := .cells #[.int .i64 dS, .slice (some ad307) cO.length l7] 31 (0, 0)) bk_ hg (Kd.xB qL.out iR.out (by decide))); replace sD := aa.mk (iq (g := qV) (o := .cells #[.int .i64 ((dM cO fU).f0), .slice yz ((dM cO fU).f1).length yA] 31 (0, 0)) bk_ hg (Kd.xB qL.out sD.out (by decide))); replace Qr := aa.mk (Kd.Jb (ok := (fun _ => True)) (pR_ Qr.out) hg hat); replace HB := aa.mk (hb); clear qL; clear ho hb hg hat; refine hK.out _ _ ⟨(aA dL.out 0).trans rfl, (aA dL.out 1).trans rfl, (aA dL.out 2).trans rfl, (aA dL.out 3).trans rfl, (aA dL.out 4).trans rfl, (aA sD.out 0).trans rfl, (aA sD.out 1).trans rfl, ((HB.out.cell (World.block_lt_of_cell? w _ GK)).trans GK), ((HB.out.cell (World.block_lt_of_cell? w _ GJ)).trans GJ), ((HB.out.cell (World.block_lt_of_cell? w _ GI)).trans GI), ((HB.out.cell (World.block_lt_of_cell? w _ GH)).trans GH), ((HB.out.cell (World.block_lt_of_cell? w _ GG)).trans GG)⟩ (fun hHeld => ?_)
         clear hK K; refine iH (a' := ?_) ?_ ?_
         rotate_left
         ·show Act.put _ (some 31) _ = _
          simp only [Act.put, List.setIfInBounds_toArray, List.set_cons_zero, List.set_cons_succ, eQ, fe]; rfl
         refine pu_ HT_ 9 5 #[true, true, true, true, true, true, true, true, true, true] ?_
         refine uG (qp HT_.out (by kernel_rfl)) ?_
         try go_wp2
         go_roundg k1
         case measure => have := HK1.out; omega
         case rel => exact ⟨(y313), (wrap64 (fU + 1)), rs_, H', ⟨by have := HK1.out; omega⟩, ⟨by (with_reducible repeat (first | apply Kd.fQ | apply Kd.fT | apply Kd.fI)); exact Kd.dn HO315.out (fun _ hk => trivial)⟩, ⟨bk_⟩, ⟨bk_⟩, ⟨bl_⟩⟩
        ·rw [if_neg c14] at H; exact absurd H (by simp)
       ·rw [if_neg c12] at H; exact absurd H (by simp)
      ·rw [if_neg c11] at H; exact absurd H (by simp)
     ·rw [if_neg c10] at H; exact absurd H (by simp)
    ·rw [if_neg c9] at H; have Dy : decide (fU < (cO.length : Int)) = false := decide_eq_false c9; clear c9; obtain rfl := Option.some.inj H; go_wp2; go_ret; exact ⟨_, re_, pR_ qL.out, bl_⟩
 ·rw [if_neg c3] at H; have lW : (ak == 5) = false := beq_eq_false_iff_ne.mpr c3; have oJ : (ak != 5) = true := bne_iff_ne.mpr c3; by_cases c24 : ak = 6
  ·rw [if_pos c24] at H; have xK : (ak == 6) = true := beq_iff_eq.mpr c24; have Qb : (ak != 6) = false := bne_eq_false_iff_eq.mpr c24; clear c24; obtain ⟨y316, Qs⟩ : ∃ y_ : List Int, y_ = (([(cO.length : Int)] : List Int)) := ⟨_, rfl⟩; replace H : (aV.l1 k y316 cO (cO.length : Int) 0 ak aG aH aD ag dS cO) = some r := by first | (rw [Qs]; with_reducible exact H) | (have H2_ := (Option.bind_some _ _).symm.trans H; rw [Qs]; with_reducible exact H2_) | (have H2_ := (Option.bind_some _ _).symm.trans H; with_reducible exact H2_) | with_reducible exact H | (rw [Qs]; exact H) | exact H
   have Ny316 := aa.mk Qs; clear Qs; have H' := aa.mk H; clear H; go_enter Try.func31, Try.ntmps31; go_wp2_with (first | ((with_reducible refine bu (N := 2) rfl ?_); refine bz ?hg (N := 2) ?hd (cs := #[.int .i64 ak, .int .i64 aG, .int .i64 aH, .int .i64 aD, .slice bL ag.length bF]) (t := 27) ?hr ?_; (case hd => rfl); (case hg => rfl); (case hr => first | (go_simp; done) | (go_simp; rfl)); intro lY hg w25 aU hb; have dL := aa.mk (aU); have Qo : aa (w.heap.size ≤ lY) := gw_ hg (aI bl_); have GE305 := Qo; replace HB := aa.mk (ay bl_ hb); clear hb aU hg) | ((with_reducible refine bu (N := 3) rfl ?_); refine bz ?hg (N := 3) ?hd (cs := #[.int .i64 dS, .slice nA cO.length l7]) (t := 31) ?hr ?_; (case hd => rfl); (case hg => rfl); (case hr => first | (go_simp; done) | (go_simp; rfl)); intro xL hg w26 aU hb; have iR := aa.mk (aU); have Qp : aa (w.heap.size ≤ xL) := gw_ hg (aI bl_); have GE306 := Qp; have Cg := nl_ dL hg; have Ch := ng_ dL hg; replace dL := kb_ dL hb; replace HB := aa.mk (ay bl_ hb); clear hb aU hg; have Pk := Cg.out; have Pm := Ch.out; obtain ⟨nK, nL, oL, oM, oN, nM, nN, oO, oP, oQ⟩ := bQ dL.out; obtain ⟨qx, qy, qz, qA⟩ := iy iR.out) | ((with_reducible refine bu (N := 39) rfl ?_); refine Kd.um (Kd.int .i64) _ 3 ?hg (N := 39) ?hd (xs := ([(cO.length : Int)] : List Int)) (inner := [.int .i64 (cO.length : Int)]) (ok := fun _ => True) (okp := fun _ => True) ?hr ?hp (fun _ hk => hk) trivial (Below.refl _ _) (Nat.le_refl _) (by simp) ?_; (case hd => rfl); (case hg => rfl); (case hr => first | (go_simp; done) | (go_simp; rfl)); (case hp => exact (dP.one (show Kd.M (Kd.int .i64) _ _ _ (cO.length : Int) [.int .i64 (cO.length : Int)] from rfl) (dP.none _ _))); intro v317 w30 ho31 hb hg_ jw; clear hg_ jw; (first | rw [← Ny316.out] at ho31 | (simp only [Int.reduceToNat] at ho31; rw [← Ny316.out] at ho31)); have HO318 := aa.mk (Kd.gm ho31 (aI bl_)); replace dL := kb_ dL hb; replace iR := kb_ iR hb; replace HB := aa.mk (ay bl_ hb); clear hb ho31; obtain ⟨wW, wX, wY, wZ⟩ := iy iR.out))
   go_loopg [8, 43] k (fun kq v8 v43 w' => ∃ (x8_1 : List Int) (jE : Int), v43 = .int .i64 jE ∧ aa (aV.l1 kq x8_1 cO (cO.length : Int) jE ak aG aH aD ag dS cO = some r) ∧ aa (kq ≤ k) ∧ aa (Kd.R (Kd.int .i64) 3 w' w.heap.size (fun _ => True) v8 x8_1) ∧ aa (w'.heap[lY]? = some (.cells #[.int .i64 ak, .int .i64 aG, .int .i64 aH, .int .i64 aD, (.slice bL ag.length bF)] 27 (0, 0))) ∧ aa (w'.heap[xL]? = some (.cells #[.int .i64 dS, (.slice nA cO.length l7)] 31 (0, 0))) ∧ aa (Below w.heap.size w w'))
   case atStart => exact ⟨(y316), (0), rs_, H', ⟨Nat.le_refl _⟩, ⟨pR_ HO318.out⟩, ⟨bk_⟩, ⟨bk_⟩, ⟨bl_⟩⟩
   case round =>
    clear H'; (try clear c1); (try clear c2); (try clear p2); (try clear c3); (try clear lW); (try clear oJ); (try clear p3); (try clear q3); (try clear hx3); (try clear c6); (try clear p6); (try clear c9); (try clear Dy); (try clear c10); (try clear r9); (try clear c11); (try clear Ay); (try clear c12); (try clear uu); (try clear c14); (try clear c16); (try clear c17); (try clear c24); (try clear xK); (try clear Qb); (try clear c27); (try clear c30); (try clear p30); (try clear q30); (try clear hx30); (try clear c31); (try clear oU oV oW oZ); (try clear nK nL oL oM oN nM nN oO oP oQ); (try clear qx qy qz qA); (try clear wW wX wY wZ); (try clear EG EH Lg P7 P8 H7 EI Lh P9 Qa); (try clear HY HZ H5 H6); (try clear NP); (try clear NQ); (try clear Gx); (try clear Gy); (try clear Gz); (try clear GA); (try clear GD); (try clear p2); (try clear p307); (try clear p309); (try clear q307); (try clear q309); obtain ⟨x8_1, jE, rfl, HA, HK1, ni, dL, iR, HB⟩ := hrel; cases gk with
    | zero => exact absurd HA.out (by simp [aV.l1])
    | succ k1 =>
     have H := HA.out; clear HA; simp only [aV.l1] at H; by_cases c33 : jE < (cO.length : Int)
     ·rw [if_pos c33] at H; have yN : decide (jE < (cO.length : Int)) = true := decide_eq_true c33; clear c33; by_cases c34 : 0 ≤ jE
      ·rw [if_pos c34] at H; have KL : decide (0 ≤ jE) = true := decide_eq_true c34; clear c34; by_cases c35 : jE < (cO.length : Int)
       ·rw [if_pos c35] at H; have c35b0 : decide (jE < (cO.length : Int)) = true := decide_eq_true c35; clear c35; by_cases c36 : 0 < (ag.length : Int)
        ·rw [if_pos c36] at H; have Cz : decide (0 < (ag.length : Int)) = true := decide_eq_true c36; have NR : decide (0 < ag.length) = true := decide_eq_true (by omega); clear c36; replace H := Option.bind_eq_some_iff.mp H; obtain ⟨t322, A370, H⟩ := H; replace H : (if x8_1.length + t322.length < 17592186044416 then (aV.l1 k1 (x8_1 ++ t322) cO (cO.length : Int) (wrap64 (jE + 1)) ak aG aH aD ag dS cO) else (none)) = some r := H; have A37 := aa.mk A370; clear A370; by_cases c38 : x8_1.length + t322.length < 17592186044416
         ·rw [if_pos c38] at H; have LMc38 := aa.mk c38; clear c38; obtain ⟨y325, Qt⟩ : ∃ y_ : List Int, y_ = (x8_1 ++ t322) := ⟨_, rfl⟩; replace H : (aV.l1 k1 y325 cO (cO.length : Int) (wrap64 (jE + 1)) ak aG aH aD ag dS cO) = some r := by first | (rw [Qt]; with_reducible exact H) | (have H2_ := (Option.bind_some _ _).symm.trans H; rw [Qt]; with_reducible exact H2_) | (have H2_ := (Option.bind_some _ _).symm.trans H; with_reducible exact H2_) | with_reducible exact H | (rw [Qt]; exact H) | exact H
          have Ny325 := aa.mk Qt; clear Qt; have H' := aa.mk H; clear H; have p319 : 0 ≤ (jE : Int) := dt_; have q319 : jE < (cO.length : Int) := dt_; obtain ⟨ad319, yB, yC, e319, SQ, SS, WV, WW⟩ := Jg Ex.out jE p319 q319; cases e319; replace SQ := hc_ HB SQ; replace SS := hc_ HB SS; have HR319_1 := aa.mk WW; have HC319_1 := aa.mk WV; clear WW WV; replace p319 := eq_true p319; replace q319 := eq_true q319; try go_wp2_with (first | ((with_reducible refine bu (N := 10) rfl ?_); refine bz ?hg (N := 10) ?hd (cs := #[.int .i64 0, .slice none 0 0]) (t := 31) ?hr ?_; (case hd => rfl); (case hg => rfl); (case hr => first | (go_simp; done) | (go_simp; rfl)); intro qW hg w39 aU hb; have sF := aa.mk (aU); have GW320 : aa (w.heap.size ≤ qW) := gw_ hg (aI bl_); have GE320 := GW320; have Lx := nl_ dL hg; have XM := ng_ dL hg; have LA := nl_ iR hg; have XN := ng_ iR hg; replace ni := aa.mk (Kd.dQ (pR_ ni.out) hb); replace dL := kb_ dL hb; replace iR := kb_ iR hb; replace HB := aa.mk (ay bl_ hb); clear hb aU hg; have hnb40 := XM.out; have hnc40 := Lx.out; have hnb41 := XN.out; have hnc41 := LA.out; obtain ⟨C9, Da, Db, Dc⟩ := iy sF.out))
          have n0_ : aa (Kd.R (Kd.int .i64) 3 ((w39.setCell ⟨qW, 0, none⟩ (.int .i64 ((dM cO jE).f0))).setCell ⟨qW, 1, none⟩ (.slice yB ((dM cO jE).f1).length yC)) w.heap.size (fun _ => True) u8 x8_1) := ⟨by (with_reducible repeat (first | apply Kd.fQ | apply Kd.fT | apply Kd.fI)); exact Kd.dn (Kd.fB (p := ⟨qW, 1, none⟩) (Kd.fB (p := ⟨qW, 0, none⟩) (Kd.wC ni.out sF.out (by decide)) (fun _ hk => hk.2) (.int .i64 ((dM cO jE).f0))) (fun _ hk => hk.2) (.slice yB ((dM cO jE).f1).length yC)) (fun _ hk => trivial)⟩; have n1_ : aa (((w39.setCell ⟨qW, 0, none⟩ (.int .i64 ((dM cO jE).f0))).setCell ⟨qW, 1, none⟩ (.slice yB ((dM cO jE).f1).length yC)).heap[lY]? = some (.cells #[.int .i64 ak, .int .i64 aG, .int .i64 aH, .int .i64 aD, .slice bL ag.length bF] 27 (0, 0))) := ⟨by (with_reducible repeat (first | refine ah ?_ _ | refine ai ?_ | refine af ?_ _)); refine aQ ?_ Lx.out _; (with_reducible repeat (first | refine ah ?_ _ | refine ai ?_ | refine af ?_ _)); refine aQ ?_ Lx.out _; (with_reducible repeat (first | refine ah ?_ _ | refine ai ?_ | refine af ?_ _)); exact dL.out⟩; have n2_ : aa (((w39.setCell ⟨qW, 0, none⟩ (.int .i64 ((dM cO jE).f0))).setCell ⟨qW, 1, none⟩ (.slice yB ((dM cO jE).f1).length yC)).heap[xL]? = some (.cells #[.int .i64 dS, .slice (some ad319) cO.length l7] 31 (0, 0))) := ⟨by (with_reducible repeat (first | refine ah ?_ _ | refine ai ?_ | refine af ?_ _)); refine aQ ?_ LA.out _; (with_reducible repeat (first | refine ah ?_ _ | refine ai ?_ | refine af ?_ _)); refine aQ ?_ LA.out _; (with_reducible repeat (first | refine ah ?_ _ | refine ai ?_ | refine af ?_ _)); exact iR.out⟩; have n3_ : aa (((w39.setCell ⟨qW, 0, none⟩ (.int .i64 ((dM cO jE).f0))).setCell ⟨qW, 1, none⟩ (.slice yB ((dM cO jE).f1).length yC)).heap[qW]? = some (.cells #[.int .i64 ((dM cO jE).f0), .slice yB ((dM cO jE).f1).length yC] 31 (0, 0))) := ⟨by (with_reducible repeat (first | refine ah ?_ _ | refine ai ?_ | refine af ?_ _)); refine aW (cs := #[.int .i64 ((dM cO jE).f0), .slice none 0 0]) ?_ 1 _ rfl; (with_reducible repeat (first | refine ah ?_ _ | refine ai ?_ | refine af ?_ _)); refine aW (cs := #[.int .i64 0, .slice none 0 0]) ?_ 0 _ rfl; (with_reducible repeat (first | refine ah ?_ _ | refine ai ?_ | refine af ?_ _)); exact sF.out⟩; have n4_ : aa (Below w.heap.size w ((w39.setCell ⟨qW, 0, none⟩ (.int .i64 ((dM cO jE).f0))).setCell ⟨qW, 1, none⟩ (.slice yB ((dM cO jE).f1).length yC))) := ⟨bl_⟩; (try clear ni)
          (try clear dL)
          (try clear iR)
          (try clear sF)
          (try clear HB)
          generalize ((w39.setCell ⟨qW, 0, none⟩ (.int .i64 ((dM cO jE).f0))).setCell ⟨qW, 1, none⟩ (.slice yB ((dM cO jE).f1).length yC)) = w43 at n0_ n1_ n2_ n3_ n4_ ⊢
          have ni := n0_; have dL := n1_; have iR := n2_; have sF := n3_; have HB := n4_; clear n0_ n1_ n2_ n3_ n4_; replace ni := aa.mk (Kd.fI ni.out); replace dL := aa.mk (ai dL.out); replace iR := aa.mk (ai iR.out); replace sF := aa.mk (ai sF.out); replace HB := aa.mk (bV HB.out); have p321 : 0 ≤ (0 : Int) := (by omega); have q321 : 0 < (ag.length : Int) := dt_; obtain ⟨CK, A321_4, c321_4, e321, GL, GM, GN, GQ, GR, WX, WY⟩ := gQ dH.out 0 p321 q321; have D7 := GR; (try simp only [z0_, Nat.zero_mul, Addr.add_zero'] at D7)
          have D8 := GQ; (try simp only [z0_, Nat.zero_mul, Addr.add_zero'] at D8)
          have D9 := GN; (try simp only [z0_, Nat.zero_mul, Addr.add_zero'] at D9)
          have Ea := GM; (try simp only [z0_, Nat.zero_mul, Addr.add_zero'] at Ea)
          have Eb := GL; (try simp only [z0_, Nat.zero_mul, Addr.add_zero'] at Eb)
          cases e321; have qi321 : (0 < ag.length) = True := eq_true (by omega); (try simp only [z0_, Nat.zero_mul, Addr.add_zero'] at GL GM GN GQ GR)
          replace GL := hc_ HB GL; replace GM := hc_ HB GM; replace GN := hc_ HB GN; replace GQ := hc_ HB GQ; replace GR := hc_ HB GR; have WZ := aa.mk WY; have HC321_4 := aa.mk WX; clear WY WX; replace p321 := eq_true p321; replace q321 := eq_true q321; refine qQ (n := 9) (S := fun w' => w'.cell? ⟨lY, 0, none⟩ = some (.int .i64 ak) ∧ w'.cell? ⟨lY, 1, none⟩ = some (.int .i64 aG) ∧ w'.cell? ⟨lY, 2, none⟩ = some (.int .i64 aH) ∧ w'.cell? ⟨lY, 3, none⟩ = some (.int .i64 aD) ∧ w'.cell? ⟨lY, 4, none⟩ = some (.slice (some CK) ag.length bF) ∧ w'.cell? ⟨qW, 0, none⟩ = some (.int .i64 ((dM cO jE).f0)) ∧ w'.cell? ⟨qW, 1, none⟩ = some (.slice yB ((dM cO jE).f1).length yC) ∧ w'.cell? CK = some (.int .i64 ((aj ag 0).f0)) ∧ w'.cell? ⟨CK.block, CK.off + 1, none⟩ = some (.int .i64 ((aj ag 0).f1)) ∧ w'.cell? ⟨CK.block, CK.off + 2, none⟩ = some (.int .i64 ((aj ag 0).f2)) ∧ w'.cell? ⟨CK.block, CK.off + 3, none⟩ = some (.int .i64 ((aj ag 0).f3)) ∧ w'.cell? ⟨CK.block, CK.off + 4, none⟩ = some (.slice A321_4 ((aj ag 0).f4).length c321_4)) (ds := []) #[false, false, false, false, false, false, false, false, false] (by kernel_rfl) rfl rfl ⟨(aA dL.out 0).trans rfl, (aA dL.out 1).trans rfl, (aA dL.out 2).trans rfl, (aA dL.out 3).trans rfl, (aA dL.out 4).trans rfl, (aA sF.out 0).trans rfl, (aA sF.out 1).trans rfl, ((HB.out.cell (World.block_lt_of_cell? w _ Eb)).trans Eb), ((HB.out.cell (World.block_lt_of_cell? w _ Ea)).trans Ea), ((HB.out.cell (World.block_lt_of_cell? w _ D9)).trans D9), ((HB.out.cell (World.block_lt_of_cell? w _ D8)).trans D8), ((HB.out.cell (World.block_lt_of_cell? w _ D7)).trans D7)⟩ (fun hHeld => ?_); refine mO aV.NN aV.Ki (fun HT_ HW_ => ?_)
          generalize w43.drew = w44 at ni dL iR sF HB WZ GL GM GN GQ GR hHeld ⊢
          refine pu_ HT_ 0 47 (bm 9 1) ?_
          refine pu_ HT_ 1 48 (bm 9 3) ?_
          refine ta_ HT_ HW_ 2 49 (bm 9 7) hHeld ?_
          refine pu_ HT_ 3 50 (bm 9 15) ?_
          refine ta_ HT_ HW_ 4 51 (bm 9 31) hHeld ?_
          refine ta_ HT_ HW_ 5 52 (bm 9 63) hHeld ?_
          refine qJ (i := 6) (N := some 53) #[true, true, true, true, true, true, true, false, false] rfl rfl (kL HT_.out (by kernel_rfl)) (by decide) (fun K hK => ?_)
          refine xI Try.func31 (by kernel_rfl) rfl #[.agg #[.int .i64 ((aj ag 0).f0), .int .i64 ((aj ag 0).f1), .int .i64 ((aj ag 0).f2), .int .i64 ((aj ag 0).f3), .slice A321_4 ((aj ag 0).f4).length c321_4], .agg #[.int .i64 ((dM cO jE).f0), .slice yB ((dM cO jE).f1).length yC]] (by rfl) rfl rfl mp_ ?_
          with_reducible refine (ih k1 (by have := HK1.out; omega) ((aj ag 0).f0) ((aj ag 0).f1) ((aj ag 0).f2) ((aj ag 0).f3) _ _ ((aj ag 0).f4) ((dM cO jE).f0) _ _ ((dM cO jE).f1) t322 _ ?aX ?aY ?gz ?gL A37.out).mono ?_
          (case aX => exact cb_ (Kd.bX WZ.out HB.out))
          (case aY => exact HC321_4.out)
          (case gz => exact cb_ (Kd.bX HR319_1.out HB.out))
          (case gL => exact HC319_1.out)
          rintro e w45 ⟨v323, rfl, ho0, hb⟩
          refine ⟨_, rfl, ?_⟩
          have Qu := aa.mk (Kd.gm (Kd.oH ho0 (Kd.ou (pR_ ni.out))) (aI bl_)); replace ni := aa.mk (Kd.mK (pR_ ni.out) (Kd.eZ ho0) hb); replace dL := kb_ dL hb; replace iR := kb_ iR hb; replace sF := kb_ sF hb; replace HB := aa.mk (ay bl_ hb); (try clear hb)
          (try clear hb2)
          (try clear hk)
          (try clear hi)
          (try clear ho0)
          obtain ⟨Ao47, co47, eo47⟩ := Kd.fH Qu.out; (first | subst eo47 | (injection eo47 with f1_ f2_ f3_; have f4_ := f1_.symm; have f5_ := f3_.symm; clear f1_ f2_ f3_; subst f4_; subst f5_))
          refine hK.out _ _ ⟨(aA dL.out 0).trans rfl, (aA dL.out 1).trans rfl, (aA dL.out 2).trans rfl, (aA dL.out 3).trans rfl, (aA dL.out 4).trans rfl, (aA sF.out 0).trans rfl, (aA sF.out 1).trans rfl, ((HB.out.cell (World.block_lt_of_cell? w _ Eb)).trans Eb), ((HB.out.cell (World.block_lt_of_cell? w _ Ea)).trans Ea), ((HB.out.cell (World.block_lt_of_cell? w _ D9)).trans D9), ((HB.out.cell (World.block_lt_of_cell? w _ D8)).trans D8), ((HB.out.cell (World.block_lt_of_cell? w _ D7)).trans D7)⟩ (fun hHeld => ?_)
          clear hK K; refine iH (a' := ?_) ?_ ?_
          rotate_left
          ·show Act.put _ (some 53) _ = _
           simp only [Act.put, List.setIfInBounds_toArray, List.set_cons_zero, List.set_cons_succ, eQ, fe]; rfl
          refine qJ (i := 7) (N := some 54) #[true, true, true, true, true, true, true, true, false] rfl rfl (kL HT_.out (by kernel_rfl)) (by decide) (fun K hK => ?_)
          refine Kd.xO (Kd.int .i64) (w0 := w) w.heap.size (by rfl) (.tmp 47) (.tmp 53) 22 3 (.int .i64 0) 8 rfl Try.underlying22 info3 rfl (by decide) (by omega) u8 x8_1 t322 _ _ _ (fun k_ => some k_ ≠ (.slice Ao47 t322.length co47 : Value).ownBlock) (fun _ => False) rfl rfl ?aO ?aR (fun _ _ h => h) (fun _ h => h.elim) ?aF ?aB ?aS ?aL ?_
          (case aR => exact cb_ ((Kd.eu Qu.out).2.2))
          (case aB => exact bl_)
          (case aF => exact (fun k_ hk => Kd.fresh' (Kd.ou (pR_ Qu.out)) k_ hk))
          (case aO => exact (by (with_reducible repeat (first | apply Kd.fQ | apply Kd.fT | apply Kd.fI)); exact Kd.dn ni.out (fun _ hk => hk.2)))
          (case aS => exact (aI bl_))
          (case aL => have := LMc38.out; omega)
          intro v326 w46 ho hb hg hat; rw [← Ny325.out] at ho; have HO327 := aa.mk (ho); replace dL := aa.mk (iq (g := lY) (o := .cells #[.int .i64 ak, .int .i64 aG, .int .i64 aH, .int .i64 aD, .slice (some CK) ag.length bF] 27 (0, 0)) bk_ hg (Kd.xB ni.out dL.out (by decide))); replace iR := aa.mk (iq (g := xL) (o := .cells #[.int .i64 dS, .slice (some ad319) cO.length l7] 31 (0, 0)) bk_ hg (Kd.xB ni.out iR.out (by decide))); replace sF := aa.mk (iq (g := qW) (o := .cells #[.int .i64 ((dM cO jE).f0), .slice yB ((dM cO jE).f1).length yC] 31 (0, 0)) bk_ hg (Kd.xB ni.out sF.out (by decide))); replace Qu := aa.mk (Kd.Jb (ok := (fun _ => True)) (pR_ Qu.out) hg hat); replace HB := aa.mk (hb); clear ni; clear ho hb hg hat; refine hK.out _ _ ⟨(aA dL.out 0).trans rfl, (aA dL.out 1).trans rfl, (aA dL.out 2).trans rfl, (aA dL.out 3).trans rfl, (aA dL.out 4).trans rfl, (aA sF.out 0).trans rfl, (aA sF.out 1).trans rfl, ((HB.out.cell (World.block_lt_of_cell? w _ Eb)).trans Eb), ((HB.out.cell (World.block_lt_of_cell? w _ Ea)).trans Ea), ((HB.out.cell (World.block_lt_of_cell? w _ D9)).trans D9), ((HB.out.cell (World.block_lt_of_cell? w _ D8)).trans D8), ((HB.out.cell (World.block_lt_of_cell? w _ D7)).trans D7)⟩ (fun hHeld => ?_)
          clear hK K; refine iH (a' := ?_) ?_ ?_
          rotate_left
          ·show Act.put _ (some 54) _ = _
           simp only [Act.put, List.setIfInBounds_toArray, List.set_cons_zero, List.set_cons_succ, eQ, fe]; rfl
          refine pu_ HT_ 8 8 #[true, true, true, true, true, true, true, true, true] ?_
          refine uG (qp HT_.out (by kernel_rfl)) ?_
          try go_wp2
          go_roundg k1
          case measure => have := HK1.out; omega
          case rel => exact ⟨(y325), (wrap64 (jE + 1)), rs_, H', ⟨by have := HK1.out; omega⟩, ⟨by (with_reducible repeat (first | apply Kd.fQ | apply Kd.fT | apply Kd.fI)); exact Kd.dn HO327.out (fun _ hk => trivial)⟩, ⟨bk_⟩, ⟨bk_⟩, ⟨bl_⟩⟩
         ·rw [if_neg c38] at H; exact absurd H (by simp)
        ·rw [if_neg c36] at H; exact absurd H (by simp)
       ·rw [if_neg c35] at H; exact absurd H (by simp)
      ·rw [if_neg c34] at H; exact absurd H (by simp)
     ·rw [if_neg c33] at H; have yN : decide (jE < (cO.length : Int)) = false := decide_eq_false c33; clear c33; have H' := aa.mk H; clear H; have hnb48 := Cg.out; have hnc48 := Ch.out; obtain ⟨NC, ND, NF, NG, NH, NI, NJ, NK, NL, NM⟩ := bQ dL.out; obtain ⟨Jy, Jz, JA, JB⟩ := iy iR.out; go_wp2; go_loopg [8, 62] k1 (fun kq v8 v62 w' => ∃ (x8_2 : List Int) (Ey : Int), v62 = .int .i64 Ey ∧ aa (aV.l2 kq x8_2 (wrap64 (aD - (cO.length : Int))) Ey ak aG aH aD ag = some r) ∧ aa (kq ≤ k1) ∧ aa (Kd.R (Kd.int .i64) 3 w' w.heap.size (fun _ => True) v8 x8_2) ∧ aa (w'.heap[lY]? = some (.cells #[.int .i64 ak, .int .i64 aG, .int .i64 aH, .int .i64 aD, (.slice bL ag.length bF)] 27 (0, 0))) ∧ aa (w'.heap[xL]? = some (.cells #[.int .i64 dS, (.slice nA cO.length l7)] 31 (0, 0))) ∧ aa (Below w.heap.size w w'))
      case atStart => exact ⟨(x8_1), (0), rs_, H', ⟨Nat.le_refl _⟩, ⟨pR_ ni.out⟩, ⟨bk_⟩, ⟨bk_⟩, ⟨bl_⟩⟩
      case round =>
       clear H'; (try clear c1); (try clear c2); (try clear p2); (try clear c3); (try clear lW); (try clear oJ); (try clear p3); (try clear q3); (try clear hx3); (try clear qi3); (try clear c4); (try clear c6); (try clear p6); (try clear c9); (try clear Dy); (try clear c10); (try clear r9); (try clear c11); (try clear Ay); (try clear c12); (try clear uu); (try clear c14); (try clear c16); (try clear c17); (try clear c24); (try clear xK); (try clear Qb); (try clear c27); (try clear c30); (try clear p30); (try clear q30); (try clear hx30); (try clear c31); (try clear p31); (try clear q31); (try clear hx31); (try clear c32); (try clear p32); (try clear q32); (try clear hx32); (try clear qi32); (try clear c33); (try clear yN); (try clear c34); (try clear KL); (try clear c35); (try clear c35b0); (try clear c36); (try clear Cz); (try clear NR); (try clear c38); (try clear c40); (try clear c41); (try clear c48); (try clear oU oV oW oZ); (try clear nK nL oL oM oN nM nN oO oP oQ); (try clear qx qy qz qA); (try clear wW wX wY wZ); (try clear C9 Da Db Dc); (try clear NC ND NF NG NH NI NJ NK NL NM); (try clear Jy Jz JA JB); (try clear EG EH Lg P7 P8 H7 EI Lh P9 Qa); (try clear HY HZ H5 H6); (try clear NP); (try clear NQ); (try clear Gx); (try clear Gy); (try clear Gz); (try clear GA); (try clear GD); (try clear SQ); (try clear SS); (try clear GL); (try clear GM); (try clear GN); (try clear GQ); (try clear GR); (try clear p2); (try clear p3); (try clear p30); (try clear p307); (try clear p309); (try clear p319); (try clear p321); (try clear p6); (try clear q3); (try clear q30); (try clear q307); (try clear q309); (try clear q319); (try clear q321); obtain ⟨x8_2, Ey, rfl, HA, HK2, ni, dL, iR, HB⟩ := hrel; cases gk with
       | zero => exact absurd HA.out (by simp [aV.l2])
       | succ k2 =>
        have H := HA.out; clear HA; simp only [aV.l2] at H; by_cases c51 : Ey < (wrap64 (aD - (cO.length : Int)))
        ·rw [if_pos c51] at H; have c51b0 : decide (Ey < (wrap64 (aD - (cO.length : Int)))) = true := decide_eq_true c51; clear c51; by_cases c52 : 0 < (ag.length : Int)
         ·rw [if_pos c52] at H; have c52b0 : decide (0 < (ag.length : Int)) = true := decide_eq_true c52; have c52b1 : decide (0 < ag.length) = true := decide_eq_true (by omega); clear c52; replace H := Option.bind_eq_some_iff.mp H; obtain ⟨⟨t330, t331⟩, A530, H⟩ := H; replace H : ((aV.f k2 ((aj ag 0).f0) ((aj ag 0).f1) ((aj ag 0).f2) ((aj ag 0).f3) ((aj ag 0).f4) t330 t331).bind fun D6 => (if x8_2.length + D6.length < 17592186044416 then (aV.l2 k2 (x8_2 ++ D6) (wrap64 (aD - (cO.length : Int))) (wrap64 (Ey + 1)) ak aG aH aD ag) else (none))) = some r := H; have A53 := aa.mk A530; clear A530; replace H := Option.bind_eq_some_iff.mp H; obtain ⟨D6, A540, H⟩ := H; replace H : (if x8_2.length + D6.length < 17592186044416 then (aV.l2 k2 (x8_2 ++ D6) (wrap64 (aD - (cO.length : Int))) (wrap64 (Ey + 1)) ak aG aH aD ag) else (none)) = some r := H; have A54 := aa.mk A540; clear A540; by_cases c55 : x8_2.length + D6.length < 17592186044416
          ·rw [if_pos c55] at H; have LMc55 := aa.mk c55; clear c55; obtain ⟨y337, Qv⟩ : ∃ y_ : List Int, y_ = (x8_2 ++ D6) := ⟨_, rfl⟩; replace H : (aV.l2 k2 y337 (wrap64 (aD - (cO.length : Int))) (wrap64 (Ey + 1)) ak aG aH aD ag) = some r := by first | (rw [Qv]; with_reducible exact H) | (have H2_ := (Option.bind_some _ _).symm.trans H; rw [Qv]; with_reducible exact H2_) | (have H2_ := (Option.bind_some _ _).symm.trans H; with_reducible exact H2_) | with_reducible exact H | (rw [Qv]; exact H) | exact H
           have Ny337 := aa.mk Qv; clear Qv; have H' := aa.mk H; clear H; try go_wp2
           replace ni := aa.mk (Kd.fI ni.out); replace dL := aa.mk (ai dL.out); replace iR := aa.mk (ai iR.out); replace HB := aa.mk (bV HB.out); have p328 : 0 ≤ (0 : Int) := (by omega); have q328 : 0 < (ag.length : Int) := dt_; obtain ⟨pU, Qw, Qx, e328, Kj, Kk, Kl, Km, GU, W9, Xa⟩ := gQ dH.out 0 p328 q328; have zV := GU; (try simp only [z0_, Nat.zero_mul, Addr.add_zero'] at zV)
           have zW := Km; (try simp only [z0_, Nat.zero_mul, Addr.add_zero'] at zW)
           have zX := Kl; (try simp only [z0_, Nat.zero_mul, Addr.add_zero'] at zX)
           have zY := Kk; (try simp only [z0_, Nat.zero_mul, Addr.add_zero'] at zY)
           have zZ := Kj; (try simp only [z0_, Nat.zero_mul, Addr.add_zero'] at zZ)
           cases e328; have qi328 : (0 < ag.length) = True := eq_true (by omega); (try simp only [z0_, Nat.zero_mul, Addr.add_zero'] at Kj Kk Kl Km GU)
           replace Kj := hc_ HB Kj; replace Kk := hc_ HB Kk; replace Kl := hc_ HB Kl; replace Km := hc_ HB Km; replace GU := hc_ HB GU; have Xb := aa.mk Xa; have HC328_4 := aa.mk W9; clear Xa W9; replace p328 := eq_true p328; replace q328 := eq_true q328; have p329 : 0 ≤ (0 : Int) := (by omega); have q329 : 0 < (ag.length : Int) := dt_; obtain ⟨ad329, A329_4, c329_4, e329, Kn, Ko, Kq, Kr, GV, Xc, Xd⟩ := gQ dH.out 0 p329 q329; have z8 := GV; (try simp only [z0_, Nat.zero_mul, Addr.add_zero'] at z8)
           have Aa := Kr; (try simp only [z0_, Nat.zero_mul, Addr.add_zero'] at Aa)
           have Ab := Kq; (try simp only [z0_, Nat.zero_mul, Addr.add_zero'] at Ab)
           have Ac := Ko; (try simp only [z0_, Nat.zero_mul, Addr.add_zero'] at Ac)
           have Ad := Kn; (try simp only [z0_, Nat.zero_mul, Addr.add_zero'] at Ad)
           obtain rfl : pU = ad329 := (by injection e329); have qi329 : (0 < ag.length) = True := eq_true (by omega); (try simp only [z0_, Nat.zero_mul, Addr.add_zero'] at Kn Ko Kq Kr GV)
           replace Kn := hc_ HB Kn; replace Ko := hc_ HB Ko; replace Kq := hc_ HB Kq; replace Kr := hc_ HB Kr; replace GV := hc_ HB GV; have Xe := aa.mk Xd; have HC329_4 := aa.mk Xc; clear Xd Xc; replace p329 := eq_true p329; replace q329 := eq_true q329; have ea_ := Option.some.inj (GU.symm.trans GV); injection ea_ with ea_ en_ ec_
           subst ea_; subst ec_; clear en_; refine qQ (n := 13) (S := fun w' => w'.cell? ⟨lY, 0, none⟩ = some (.int .i64 ak) ∧ w'.cell? ⟨lY, 1, none⟩ = some (.int .i64 aG) ∧ w'.cell? ⟨lY, 2, none⟩ = some (.int .i64 aH) ∧ w'.cell? ⟨lY, 3, none⟩ = some (.int .i64 aD) ∧ w'.cell? ⟨lY, 4, none⟩ = some (.slice (some pU) ag.length bF) ∧ w'.cell? pU = some (.int .i64 ((aj ag 0).f0)) ∧ w'.cell? ⟨pU.block, pU.off + 1, none⟩ = some (.int .i64 ((aj ag 0).f1)) ∧ w'.cell? ⟨pU.block, pU.off + 2, none⟩ = some (.int .i64 ((aj ag 0).f2)) ∧ w'.cell? ⟨pU.block, pU.off + 3, none⟩ = some (.int .i64 ((aj ag 0).f3)) ∧ w'.cell? ⟨pU.block, pU.off + 4, none⟩ = some (.slice Qw ((aj ag 0).f4).length Qx) ∧ w'.cell? pU = some (.int .i64 ((aj ag 0).f0)) ∧ w'.cell? ⟨pU.block, pU.off + 1, none⟩ = some (.int .i64 ((aj ag 0).f1)) ∧ w'.cell? ⟨pU.block, pU.off + 2, none⟩ = some (.int .i64 ((aj ag 0).f2)) ∧ w'.cell? ⟨pU.block, pU.off + 3, none⟩ = some (.int .i64 ((aj ag 0).f3)) ∧ w'.cell? ⟨pU.block, pU.off + 4, none⟩ = some (.slice Qw ((aj ag 0).f4).length Qx)) (ds := []) #[false, false, false, false, false, false, false, false, false, false, false, false, false] (by kernel_rfl) rfl rfl ⟨(aA dL.out 0).trans rfl, (aA dL.out 1).trans rfl, (aA dL.out 2).trans rfl, (aA dL.out 3).trans rfl, (aA dL.out 4).trans rfl, ((HB.out.cell (World.block_lt_of_cell? w _ zZ)).trans zZ), ((HB.out.cell (World.block_lt_of_cell? w _ zY)).trans zY), ((HB.out.cell (World.block_lt_of_cell? w _ zX)).trans zX), ((HB.out.cell (World.block_lt_of_cell? w _ zW)).trans zW), ((HB.out.cell (World.block_lt_of_cell? w _ zV)).trans zV), ((HB.out.cell (World.block_lt_of_cell? w _ Ad)).trans Ad), ((HB.out.cell (World.block_lt_of_cell? w _ Ac)).trans Ac), ((HB.out.cell (World.block_lt_of_cell? w _ Ab)).trans Ab), ((HB.out.cell (World.block_lt_of_cell? w _ Aa)).trans Aa), ((HB.out.cell (World.block_lt_of_cell? w _ z8)).trans z8)⟩ (fun hHeld => ?_); refine mO aV.tab19 aV.bits19 (fun HT_ HW_ => ?_)
           generalize wr.drew = w56 at ni dL iR HB Xb Xe Kj Kk Kl Km GU Kn Ko Kq Kr GV hHeld ⊢
           refine pu_ HT_ 0 64 (bm 13 1) ?_
           refine pu_ HT_ 1 65 (bm 13 3) ?_
           refine pu_ HT_ 5 69 (bm 13 35) ?_
           refine ta_ HT_ HW_ 2 66 (bm 13 39) hHeld ?_
           refine pu_ HT_ 3 67 (bm 13 47) ?_
           refine ta_ HT_ HW_ 4 68 (bm 13 63) hHeld ?_
           refine ta_ HT_ HW_ 6 70 (bm 13 127) hHeld ?_
           refine pu_ HT_ 7 71 (bm 13 255) ?_
           refine ta_ HT_ HW_ 8 72 (bm 13 511) hHeld ?_
           refine qJ (i := 9) (N := some 73) #[true, true, true, true, true, true, true, true, true, true, false, false, false] rfl rfl (kL HT_.out (by kernel_rfl)) (by decide) (fun K hK => ?_)
           refine xI Try.func34 (by kernel_rfl) rfl #[.agg #[.int .i64 ((aj ag 0).f0), .int .i64 ((aj ag 0).f1), .int .i64 ((aj ag 0).f2), .int .i64 ((aj ag 0).f3), .slice Qw ((aj ag 0).f4).length Qx]] (by rfl) rfl rfl mp_ ?_
           with_reducible refine (dE.calls k2 ((aj ag 0).f0) ((aj ag 0).f1) ((aj ag 0).f2) ((aj ag 0).f3) _ _ ((aj ag 0).f4) t330 t331 _ ?aX ?aY A53.out).mono ?_
           (case aX => exact cb_ (Kd.bX Xe.out HB.out))
           (case aY => exact HC329_4.out)
           rintro e w57 ⟨v332, rfl, ho0, hb⟩
           refine ⟨_, rfl, ?_⟩
           have KW := aa.mk (Kd.gm (Kd.pX ho0 (g := xL) (o := .cells #[.int .i64 dS, .slice nA cO.length l7] 31 (0, 0)) bk_) (aI bl_)); replace ni := aa.mk (Kd.dQ (pR_ ni.out) hb); replace dL := kb_ dL hb; replace iR := kb_ iR hb; replace HB := aa.mk (ay bl_ hb); (try clear hb)
           (try clear hb2)
           (try clear hk)
           (try clear hi)
           (try clear ho0)
           obtain ⟨Ao58, co58, eo58⟩ := Kd.fH KW.out; (first | subst eo58 | (injection eo58 with f1_ f2_ f3_; have f4_ := f1_.symm; have f5_ := f3_.symm; clear f1_ f2_ f3_; subst f4_; subst f5_))
           refine hK.out _ _ ⟨(aA dL.out 0).trans rfl, (aA dL.out 1).trans rfl, (aA dL.out 2).trans rfl, (aA dL.out 3).trans rfl, (aA dL.out 4).trans rfl, ((HB.out.cell (World.block_lt_of_cell? w _ zZ)).trans zZ), ((HB.out.cell (World.block_lt_of_cell? w _ zY)).trans zY), ((HB.out.cell (World.block_lt_of_cell? w _ zX)).trans zX), ((HB.out.cell (World.block_lt_of_cell? w _ zW)).trans zW), ((HB.out.cell (World.block_lt_of_cell? w _ zV)).trans zV), ((HB.out.cell (World.block_lt_of_cell? w _ Ad)).trans Ad), ((HB.out.cell (World.block_lt_of_cell? w _ Ac)).trans Ac), ((HB.out.cell (World.block_lt_of_cell? w _ Ab)).trans Ab), ((HB.out.cell (World.block_lt_of_cell? w _ Aa)).trans Aa), ((HB.out.cell (World.block_lt_of_cell? w _ z8)).trans z8)⟩ (fun hHeld => ?_)
           clear hK K; refine iH (a' := ?_) ?_ ?_
           rotate_left
           ·show Act.put _ (some 73) _ = _
            simp only [Act.put, List.setIfInBounds_toArray, List.set_cons_zero, List.set_cons_succ, eQ, fe]; rfl
           refine qJ (i := 10) (N := some 74) #[true, true, true, true, true, true, true, true, true, true, true, false, false] rfl rfl (kL HT_.out (by kernel_rfl)) (by decide) (fun K hK => ?_)
           refine xI Try.func31 (by kernel_rfl) rfl #[.agg #[.int .i64 ((aj ag 0).f0), .int .i64 ((aj ag 0).f1), .int .i64 ((aj ag 0).f2), .int .i64 ((aj ag 0).f3), .slice Qw ((aj ag 0).f4).length Qx], .agg #[.int .i64 t330, .slice Ao58 t331.length co58]] (by rfl) rfl rfl mp_ ?_
           with_reducible refine (ih k2 (by have := HK1.out; have := HK2.out; omega) ((aj ag 0).f0) ((aj ag 0).f1) ((aj ag 0).f2) ((aj ag 0).f3) _ _ ((aj ag 0).f4) t330 _ _ t331 D6 _ ?aX ?aY ?gz ?gL A54.out).mono ?_
           (case aX => exact cb_ (Kd.bX Xb.out HB.out))
           (case aY => exact HC328_4.out)
           (case gz => exact cb_ ((Kd.eu KW.out).2.2))
           (case gL => exact (Kd.eu KW.out).2.1)
           rintro e w59 ⟨v335, rfl, ho0, hb⟩
           refine ⟨_, rfl, ?_⟩
           have Qy := aa.mk (Kd.gm (Kd.oH ho0 (Kd.ou (pR_ ni.out))) (aI bl_)); replace ni := aa.mk (Kd.mK (pR_ ni.out) (Kd.eZ ho0) hb); replace KW := aa.mk (Kd.dQ (pR_ KW.out) hb); replace dL := kb_ dL hb; replace iR := kb_ iR hb; replace HB := aa.mk (ay bl_ hb); (try clear hb)
           (try clear hb2)
           (try clear hk)
           (try clear hi)
           (try clear ho0)
           obtain ⟨Ao61, co61, eo61⟩ := Kd.fH Qy.out; (first | subst eo61 | (injection eo61 with f1_ f2_ f3_; have f4_ := f1_.symm; have f5_ := f3_.symm; clear f1_ f2_ f3_; subst f4_; subst f5_))
           refine hK.out _ _ ⟨(aA dL.out 0).trans rfl, (aA dL.out 1).trans rfl, (aA dL.out 2).trans rfl, (aA dL.out 3).trans rfl, (aA dL.out 4).trans rfl, ((HB.out.cell (World.block_lt_of_cell? w _ zZ)).trans zZ), ((HB.out.cell (World.block_lt_of_cell? w _ zY)).trans zY), ((HB.out.cell (World.block_lt_of_cell? w _ zX)).trans zX), ((HB.out.cell (World.block_lt_of_cell? w _ zW)).trans zW), ((HB.out.cell (World.block_lt_of_cell? w _ zV)).trans zV), ((HB.out.cell (World.block_lt_of_cell? w _ Ad)).trans Ad), ((HB.out.cell (World.block_lt_of_cell? w _ Ac)).trans Ac), ((HB.out.cell (World.block_lt_of_cell? w _ Ab)).trans Ab), ((HB.out.cell (World.block_lt_of_cell? w _ Aa)).trans Aa), ((HB.out.cell (World.block_lt_of_cell? w _ z8)).trans z8)⟩ (fun hHeld => ?_)
           clear hK K; refine iH (a' := ?_) ?_ ?_
           rotate_left
           ·show Act.put _ (some 74) _ = _
            simp only [Act.put, List.setIfInBounds_toArray, List.set_cons_zero, List.set_cons_succ, eQ, fe]; rfl
           refine qJ (i := 11) (N := some 75) #[true, true, true, true, true, true, true, true, true, true, true, true, false] rfl rfl (kL HT_.out (by kernel_rfl)) (by decide) (fun K hK => ?_)
           refine Kd.xO (Kd.int .i64) (w0 := w) w.heap.size (by rfl) (.tmp 64) (.tmp 74) 22 3 (.int .i64 0) 8 rfl Try.underlying22 info3 rfl (by decide) (by omega) u8 x8_2 D6 _ _ _ (fun k_ => some k_ ≠ (.slice Ao61 D6.length co61 : Value).ownBlock) (fun _ => False) rfl rfl ?aO ?aR (fun _ _ h => h) (fun _ h => h.elim) ?aF ?aB ?aS ?aL ?_
           (case aR => exact cb_ ((Kd.eu Qy.out).2.2))
           (case aB => exact bl_)
           (case aF => exact (fun k_ hk => Kd.fresh' (Kd.ou (pR_ Qy.out)) k_ hk))
           (case aO => exact (by (with_reducible repeat (first | apply Kd.fQ | apply Kd.fT | apply Kd.fI)); exact Kd.dn ni.out (fun _ hk => hk.2)))
           (case aS => exact (aI bl_))
           (case aL => have := LMc55.out; omega)
           intro v338 w60 ho hb hg hat; rw [← Ny337.out] at ho; have HO339 := aa.mk (ho); replace dL := aa.mk (iq (g := lY) (o := .cells #[.int .i64 ak, .int .i64 aG, .int .i64 aH, .int .i64 aD, .slice (some pU) ag.length bF] 27 (0, 0)) bk_ hg (Kd.xB ni.out dL.out (by decide))); replace iR := aa.mk (iq (g := xL) (o := .cells #[.int .i64 dS, .slice nA cO.length l7] 31 (0, 0)) bk_ hg (Kd.xB ni.out iR.out (by decide))); replace KW := aa.mk (Kd.R_over' (pR_ KW.out) (Kd.R_typed (pR_ ni.out)) (by decide) hg); replace Qy := aa.mk (Kd.Jb (ok := (fun _ => True)) (pR_ Qy.out) hg hat); replace HB := aa.mk (hb); clear ni; clear ho hb hg hat; refine hK.out _ _ ⟨(aA dL.out 0).trans rfl, (aA dL.out 1).trans rfl, (aA dL.out 2).trans rfl, (aA dL.out 3).trans rfl, (aA dL.out 4).trans rfl, ((HB.out.cell (World.block_lt_of_cell? w _ zZ)).trans zZ), ((HB.out.cell (World.block_lt_of_cell? w _ zY)).trans zY), ((HB.out.cell (World.block_lt_of_cell? w _ zX)).trans zX), ((HB.out.cell (World.block_lt_of_cell? w _ zW)).trans zW), ((HB.out.cell (World.block_lt_of_cell? w _ zV)).trans zV), ((HB.out.cell (World.block_lt_of_cell? w _ Ad)).trans Ad), ((HB.out.cell (World.block_lt_of_cell? w _ Ac)).trans Ac), ((HB.out.cell (World.block_lt_of_cell? w _ Ab)).trans Ab), ((HB.out.cell (World.block_lt_of_cell? w _ Aa)).trans Aa), ((HB.out.cell (World.block_lt_of_cell? w _ z8)).trans z8)⟩ (fun hHeld => ?_)
           clear hK K; refine iH (a' := ?_) ?_ ?_
           rotate_left
           ·show Act.put _ (some 75) _ = _
            simp only [Act.put, List.setIfInBounds_toArray, List.set_cons_zero, List.set_cons_succ, eQ, fe]; rfl
           refine pu_ HT_ 12 8 #[true, true, true, true, true, true, true, true, true, true, true, true, true] ?_
           refine uG (qp HT_.out (by kernel_rfl)) ?_
           try go_wp2
           go_roundg k2
           case measure => have := HK1.out; have := HK2.out; omega
           case rel => exact ⟨(y337), (wrap64 (Ey + 1)), rs_, H', ⟨by have := HK1.out; have := HK2.out; omega⟩, ⟨by (with_reducible repeat (first | apply Kd.fQ | apply Kd.fT | apply Kd.fI)); exact Kd.dn HO339.out (fun _ hk => trivial)⟩, ⟨bk_⟩, ⟨bk_⟩, ⟨bl_⟩⟩
          ·rw [if_neg c55] at H; exact absurd H (by simp)
         ·rw [if_neg c52] at H; exact absurd H (by simp)
        ·rw [if_neg c51] at H; have c51b0 : decide (Ey < (wrap64 (aD - (cO.length : Int)))) = false := decide_eq_false c51; clear c51; obtain rfl := Option.some.inj H; go_wp2; go_ret; exact ⟨_, re_, pR_ ni.out, bl_⟩
  ·rw [if_neg c24] at H; have xK : (ak == 6) = false := beq_eq_false_iff_ne.mpr c24; have Qb : (ak != 6) = true := bne_iff_ne.mpr c24; obtain ⟨y340, Qz⟩ : ∃ y_ : List Int, y_ = (([dS] : List Int)) := ⟨_, rfl⟩; replace H : (some y340) = some r := by first | (rw [Qz]; with_reducible exact H) | (have H2_ := (Option.bind_some _ _).symm.trans H; rw [Qz]; with_reducible exact H2_) | (have H2_ := (Option.bind_some _ _).symm.trans H; with_reducible exact H2_) | with_reducible exact H | (rw [Qz]; exact H) | exact H
   have Ny340 := aa.mk Qz; clear Qz; obtain rfl := Option.some.inj H; go_enter Try.func31, Try.ntmps31; go_wp2_with (first | ((with_reducible refine bu (N := 2) rfl ?_); refine bz ?hg (N := 2) ?hd (cs := #[.int .i64 ak, .int .i64 aG, .int .i64 aH, .int .i64 aD, .slice bL ag.length bF]) (t := 27) ?hr ?_; (case hd => rfl); (case hg => rfl); (case hr => first | (go_simp; done) | (go_simp; rfl)); intro lY hg w62 aU hb; have dL := aa.mk (aU); have Qo : aa (w.heap.size ≤ lY) := gw_ hg (aI bl_); have GE305 := Qo; replace HB := aa.mk (ay bl_ hb); clear hb aU hg) | ((with_reducible refine bu (N := 3) rfl ?_); refine bz ?hg (N := 3) ?hd (cs := #[.int .i64 dS, .slice nA cO.length l7]) (t := 31) ?hr ?_; (case hd => rfl); (case hg => rfl); (case hr => first | (go_simp; done) | (go_simp; rfl)); intro xL hg w63 aU hb; have iR := aa.mk (aU); have Qp : aa (w.heap.size ≤ xL) := gw_ hg (aI bl_); have GE306 := Qp; have Cg := nl_ dL hg; have Ch := ng_ dL hg; replace dL := kb_ dL hb; replace HB := aa.mk (ay bl_ hb); clear hb aU hg; have hnb64 := Cg.out; have hnc64 := Ch.out; obtain ⟨hcz65_0, hcz65_1, hcz65_2, hcz65_3, hcz65_4, hfz65_0, hfz65_1, hfz65_2, hfz65_3, hfz65_4⟩ := bQ dL.out; obtain ⟨JE, JF, JG, JH⟩ := iy iR.out) | ((with_reducible refine bu (N := 80) rfl ?_); refine Kd.um (Kd.int .i64) _ 3 ?hg (N := 80) ?hd (xs := ([dS] : List Int)) (inner := [.int .i64 dS]) (ok := fun _ => True) (okp := fun _ => True) ?hr ?hp (fun _ hk => hk) trivial (Below.refl _ _) (Nat.le_refl _) (by simp) ?_; (case hd => rfl); (case hg => rfl); (case hr => first | (go_simp; done) | (go_simp; rfl)); (case hp => exact (dP.one (show Kd.M (Kd.int .i64) _ _ _ dS [.int .i64 dS] from rfl) (dP.none _ _))); intro v341 w67 ho68 hb hg_ jw; clear hg_ jw; (first | rw [← Ny340.out] at ho68 | (simp only [Int.reduceToNat] at ho68; rw [← Ny340.out] at ho68)); have HO342 := aa.mk (Kd.gm ho68 (aI bl_)); replace dL := kb_ dL hb; replace iR := kb_ iR hb; replace HB := aa.mk (ay bl_ hb); clear hb ho68))
   go_ret; exact ⟨_, re_, pR_ HO342.out, bl_⟩

end Go.Proofs.Ytggelekooacmnaa.Z
namespace Go.Proofs.Ytggelekooacmnaa.Z
open Go.RowKit Go.Proofs.YtggelekooacmnaaW.bM Go.Proofs.YtggelekooacmnaaW.dR Go.Proofs.YtggelekooacmnaaW.eO
attribute [local go_sem] iM iN jk jl gW gX iO iP   -- for this text's walks alone
set_option linter.unusedVariables false
set_option linter.unusedSimpArgs false

/-! ### ek: function 12 -/
def ek.f (k : Nat) (ak : Int) (aG : Int) (aH : Int) (aD : Int) (ag : List (S27)) (dS : Int) (cO : List (S31)) : Option (List Int × Int) := (gp.f k ak aG aH aD ag dS cO).bind fun Bc => (if Bc = 0 then ((aV.f k ak aG aH aD ag dS cO).bind fun t346 => (some (t346, 0))) else (some (([] : List Int), Bc)))
theorem ek.mono : ∀ a0 a1 a2 a3 a4 a5 a6 k, LeO (ek.f k a0 a1 a2 a3 a4 a5 a6) (ek.f (k + 1) a0 a1 a2 a3 a4 a5 a6) := by
 intro a0 a1 a2 a3 a4 a5 a6 k; unfold ek.f
 repeat' first
   | (with_reducible exact gp.mono _ _ _ _ _ _ _ _)
   | (with_reducible exact aV.mono _ _ _ _ _ _ _ _)
   | (with_reducible exact LeO.refl _)
   | (with_reducible exact LeO.none _)
   | (with_reducible refine LeO.ite ?_ ?_)
   | (with_reducible refine LeO.bind ?_ (fun _ => ?_))
   | exact gp.mono _ _ _ _ _ _ _ _
   | exact aV.mono _ _ _ _ _ _ _ _
   | exact LeO.none _
   | refine LeO.ite ?_ ?_
   | refine LeO.bind ?_ (fun _ => ?_)
set_option maxHeartbeats 8000000 in
set_option maxRecDepth 100000 in
theorem ek.calls (k : Nat) (ak : Int) (aG : Int) (aH : Int) (aD : Int) (bL : Option Addr) (bF : Nat) (ag : List (S27)) (dS : Int) (nA : Option Addr) (l7 : Nat) (cO : List (S31)) (r1 : List Int) (r2 : Int) (w : World) (gM : Kd.C k27 w bL ag.length ag) (gN : ag.length ≤ bF) (AB : Kd.C k31 w nA cO.length cO) (AJ : cO.length ≤ l7) (h : ek.f k ak aG aH aD ag dS cO = some (r1, r2)) :
  Calls Try.prog 12 #[.agg #[.int .i64 ak, .int .i64 aG, .int .i64 aH, .int .i64 aD, .slice bL ag.length bF], .agg #[.int .i64 dS, .slice nA cO.length l7]] w fun e w' => ∃ v0_ : Value, e = .returned (.tuple #[v0_, .int .i64 r2]) ∧ Kd.R (Kd.int .i64) 3 w' w.heap.size (fun _ => True) v0_ r1 ∧ Below w.heap.size w w' := by
 have rY := Try.underlying27; have hu31 := Try.underlying31; have dH := aa.mk gM; have fq := aa.mk gN; clear gM gN; have Ex := aa.mk AB; have IP := aa.mk AJ; clear AB AJ; have HB := aa.mk (Below.refl w.heap.size w); have H : ((gp.f k ak aG aH aD ag dS cO).bind fun Bc => (if Bc = 0 then ((aV.f k ak aG aH aD ag dS cO).bind fun t346 => (some (t346, 0))) else (some (([] : List Int), Bc)))) = some (r1, r2) := h; clear h; replace H := Option.bind_eq_some_iff.mp H; obtain ⟨Bc, A30, H⟩ := H; replace H : (if Bc = 0 then ((aV.f k ak aG aH aD ag dS cO).bind fun t346 => (some (t346, 0))) else (some (([] : List Int), Bc))) = some (r1, r2) := H; have A3 := aa.mk A30; clear A30; by_cases c4 : Bc = 0
 ·rw [if_pos c4] at H; have nz : (Bc == 0) = true := beq_iff_eq.mpr c4; have CB : (Bc != 0) = false := bne_eq_false_iff_eq.mpr c4; clear c4; replace H := Option.bind_eq_some_iff.mp H; obtain ⟨t346, A50, H⟩ := H; replace H : (some (t346, 0)) = some (r1, r2) := H; have A5 := aa.mk A50; clear A50; simp only [Option.some.injEq, Prod.mk.injEq] at H; obtain ⟨rfl, rfl⟩ := H; go_enter Try.func12, Try.ntmps12; go_wp2_with (first | ((with_reducible refine bu (N := 2) rfl ?_); refine bz ?hg (N := 2) ?hd (cs := #[.int .i64 ak, .int .i64 aG, .int .i64 aH, .int .i64 aD, .slice bL ag.length bF]) (t := 27) ?hr ?_; (case hd => rfl); (case hg => rfl); (case hr => first | (go_simp; done) | (go_simp; rfl)); intro gb343 hg w6 aU hb; have sG := aa.mk (aU); have GW343 : aa (w.heap.size ≤ gb343) := gw_ hg (aI bl_); have GE343 := GW343; replace HB := aa.mk (ay bl_ hb); clear hb aU hg) | ((with_reducible refine bu (N := 3) rfl ?_); refine bz ?hg (N := 3) ?hd (cs := #[.int .i64 dS, .slice nA cO.length l7]) (t := 31) ?hr ?_; (case hd => rfl); (case hg => rfl); (case hr => first | (go_simp; done) | (go_simp; rfl)); intro gb344 hg w7 aU hb; have Ez := aa.mk (aU); have GW344 : aa (w.heap.size ≤ gb344) := gw_ hg (aI bl_); have GE344 := GW344; have LB := nl_ sG hg; have LC := ng_ sG hg; replace sG := kb_ sG hb; replace HB := aa.mk (ay bl_ hb); clear hb aU hg; have hnb8 := LB.out; have hnc8 := LC.out; obtain ⟨EJ, EK, EL, EM, EN, EO, EP, ER, ES, ET⟩ := bQ sG.out; obtain ⟨qB, qC, qD, qE⟩ := iy Ez.out) | ((with_reducible refine aZ (f := 10) rfl ?_); refine cz (some 9) rfl rfl Try.func10 (by kernel_rfl) rfl #[.agg #[.int .i64 ak, .int .i64 aG, .int .i64 aH, .int .i64 aD, .slice bL ag.length bF], .agg #[.int .i64 dS, .slice nA cO.length l7]] rfl mp_ ?_; (with_reducible refine (gp.calls k ak aG aH aD _ _ ag dS _ _ cO Bc _ ?aX ?aY ?gz ?gL A3.out).mono ?_); (case aX => exact cb_ (Kd.bX dH.out HB.out)); (case aY => exact fq.out); (case gz => exact cb_ (Kd.bX Ex.out HB.out)); (case gL => exact IP.out); rintro e w11 ⟨rfl, hb⟩; refine ⟨_, rfl, ?_⟩; replace sG := kb_ sG hb; replace Ez := kb_ Ez hb; replace HB := aa.mk (ay bl_ hb); (try clear hb); (try clear hb2); (try clear hk); (try clear hi); obtain ⟨nY, nZ, uM, uN, uO, og, oh, uP, uQ, uR⟩ := bQ sG.out; obtain ⟨SG, SH, SI, SK⟩ := iy Ez.out) | ((with_reducible refine aZ (f := 31) rfl ?_); refine cz (some 15) rfl rfl Try.func31 (by kernel_rfl) rfl #[.agg #[.int .i64 ak, .int .i64 aG, .int .i64 aH, .int .i64 aD, .slice bL ag.length bF], .agg #[.int .i64 dS, .slice nA cO.length l7]] rfl mp_ ?_; (with_reducible refine (aV.calls k ak aG aH aD _ _ ag dS _ _ cO t346 _ ?aX ?aY ?gz ?gL A5.out).mono ?_); (case aX => exact cb_ (Kd.bX dH.out HB.out)); (case aY => exact fq.out); (case gz => exact cb_ (Kd.bX Ex.out HB.out)); (case gL => exact IP.out); rintro e w14 ⟨v347, rfl, ho0, hb⟩; refine ⟨_, rfl, ?_⟩; have HO348 := aa.mk (Kd.gm ho0 (aI bl_)); replace sG := kb_ sG hb; replace Ez := kb_ Ez hb; replace HB := aa.mk (ay bl_ hb); (try clear hb); (try clear hb2); (try clear hk); (try clear hi); (try clear ho0)))
  go_ret2; exact ⟨_, re_, pR_ HO348.out, bl_⟩
 ·rw [if_neg c4] at H; have nz : (Bc == 0) = false := beq_eq_false_iff_ne.mpr c4; have CB : (Bc != 0) = true := bne_iff_ne.mpr c4; simp only [Option.some.injEq, Prod.mk.injEq] at H; obtain ⟨rfl, rfl⟩ := H; go_enter Try.func12, Try.ntmps12; go_wp2_with (first | ((with_reducible refine bu (N := 2) rfl ?_); refine bz ?hg (N := 2) ?hd (cs := #[.int .i64 ak, .int .i64 aG, .int .i64 aH, .int .i64 aD, .slice bL ag.length bF]) (t := 27) ?hr ?_; (case hd => rfl); (case hg => rfl); (case hr => first | (go_simp; done) | (go_simp; rfl)); intro gb343 hg w15 aU hb; have sG := aa.mk (aU); have GW343 : aa (w.heap.size ≤ gb343) := gw_ hg (aI bl_); have GE343 := GW343; replace HB := aa.mk (ay bl_ hb); clear hb aU hg) | ((with_reducible refine bu (N := 3) rfl ?_); refine bz ?hg (N := 3) ?hd (cs := #[.int .i64 dS, .slice nA cO.length l7]) (t := 31) ?hr ?_; (case hd => rfl); (case hg => rfl); (case hr => first | (go_simp; done) | (go_simp; rfl)); intro gb344 hg w16 aU hb; have Ez := aa.mk (aU); have GW344 : aa (w.heap.size ≤ gb344) := gw_ hg (aI bl_); have GE344 := GW344; have LB := nl_ sG hg; have LC := ng_ sG hg; replace sG := kb_ sG hb; replace HB := aa.mk (ay bl_ hb); clear hb aU hg; have hnb17 := LB.out; have hnc17 := LC.out; obtain ⟨oU, oV, xc, xe, xg, oW, oZ, xh, xk, xm⟩ := bQ sG.out; obtain ⟨Jh, Ji, Jj, Jk⟩ := iy Ez.out) | ((with_reducible refine aZ (f := 10) rfl ?_); refine cz (some 9) rfl rfl Try.func10 (by kernel_rfl) rfl #[.agg #[.int .i64 ak, .int .i64 aG, .int .i64 aH, .int .i64 aD, .slice bL ag.length bF], .agg #[.int .i64 dS, .slice nA cO.length l7]] rfl mp_ ?_; (with_reducible refine (gp.calls k ak aG aH aD _ _ ag dS _ _ cO Bc _ ?aX ?aY ?gz ?gL A3.out).mono ?_); (case aX => exact cb_ (Kd.bX dH.out HB.out)); (case aY => exact fq.out); (case gz => exact cb_ (Kd.bX Ex.out HB.out)); (case gL => exact IP.out); rintro e w20 ⟨rfl, hb⟩; refine ⟨_, rfl, ?_⟩; replace sG := kb_ sG hb; replace Ez := kb_ Ez hb; replace HB := aa.mk (ay bl_ hb); (try clear hb); (try clear hb2); (try clear hk); (try clear hi)))
  go_ret2; exact ⟨_, re_, by first | exact Kd.jv _ _ _ _ _ | exact Kd.kV _ _ _ _ _ | exact Kd.jZ _ _ _ _ _ | exact Kd.kT _ _ _ _ _ | exact Kd.kU _ _ _ _ _, bl_⟩

end Go.Proofs.Ytggelekooacmnaa.Z
namespace Go.Proofs.Ytggelekooacmnaa.Z
open Go.RowKit Go.Proofs.YtggelekooacmnaaW.bM Go.Proofs.YtggelekooacmnaaW.dR Go.Proofs.YtggelekooacmnaaW.eO
attribute [local go_sem] iM iN jk jl gW gX iO iP   -- for this text's walks alone
set_option linter.unusedVariables false
set_option linter.unusedSimpArgs false

/-! ### ma: function 45 -/
def ma.f (ak : Int) (aG : Int) (aH : Int) (aD : Int) (ag : List (S27)) (a1 : Int) : Option (Int × Int × Int × Int × (List (S27))) := if ak = 6 then (if 0 < (ag.length : Int) then (some ((aj ag 0).f0, (aj ag 0).f1, (aj ag 0).f2, (aj ag 0).f3, (aj ag 0).f4)) else (none)) else (if 0 ≤ a1 then (if a1 < (ag.length : Int) then (some ((aj ag a1).f0, (aj ag a1).f1, (aj ag a1).f2, (aj ag a1).f3, (aj ag a1).f4)) else (none)) else (none))
set_option maxHeartbeats 8000000 in
set_option maxRecDepth 100000 in
theorem ma.calls (ak : Int) (aG : Int) (aH : Int) (aD : Int) (lq : Nat → Prop) (bL : Option Addr) (bF : Nat) (ag : List (S27)) (a1 : Int) (r1 : Int) (r2 : Int) (r3 : Int) (r4 : Int) (r5 : List (S27)) (w : World) (hs0_4 : Kd.V k27 27 w w.heap.size (fun k_ => lq k_) (.slice bL ag.length bF) ag) (h : ma.f ak aG aH aD ag a1 = some (r1, r2, r3, r4, r5)) :
  Calls Try.prog 45 #[.agg #[.int .i64 ak, .int .i64 aG, .int .i64 aH, .int .i64 aD, .slice bL ag.length bF], .int .i64 a1] w fun e w' => ∃ v4_ : Value, e = .returned (.agg #[.int .i64 r1, .int .i64 r2, .int .i64 r3, .int .i64 r4, v4_]) ∧ Kd.V k27 27 w' w.heap.size (fun k_ => (lq k_ ∨ w.heap.size ≤ k_)) v4_ r5 ∧ Below w.heap.size w w' := by
 have rY := Try.underlying27; have lI := aa.mk (show Kd.V k27 27 w w.heap.size (fun k_ => (lq k_ ∨ w.heap.size ≤ k_)) (.slice bL ag.length bF) ag from Kd.fV hs0_4 (fun k_ hk => .inl hk)); have HB := aa.mk (Below.refl w.heap.size w); have H : (if ak = 6 then (if 0 < (ag.length : Int) then (some ((aj ag 0).f0, (aj ag 0).f1, (aj ag 0).f2, (aj ag 0).f3, (aj ag 0).f4)) else (none)) else (if 0 ≤ a1 then (if a1 < (ag.length : Int) then (some ((aj ag a1).f0, (aj ag a1).f1, (aj ag a1).f2, (aj ag a1).f3, (aj ag a1).f4)) else (none)) else (none))) = some (r1, r2, r3, r4, r5) := h; clear h; by_cases c3 : ak = 6
 ·rw [if_pos c3] at H; have lW : (ak == 6) = true := beq_iff_eq.mpr c3; have oJ : (ak != 6) = false := bne_eq_false_iff_eq.mpr c3; clear c3; by_cases c4 : 0 < (ag.length : Int)
  ·rw [if_pos c4] at H; have nz : decide (0 < (ag.length : Int)) = true := decide_eq_true c4; have CB : decide (0 < ag.length) = true := decide_eq_true (by omega); clear c4; simp only [Option.some.injEq, Prod.mk.injEq] at H; obtain ⟨rfl, rfl, rfl, rfl, rfl⟩ := H; go_enter Try.func45, Try.ntmps45; go_wp2_with (first | ((with_reducible refine bu (N := 2) rfl ?_); refine bz ?hg (N := 2) ?hd (cs := #[.int .i64 ak, .int .i64 aG, .int .i64 aH, .int .i64 aD, .slice bL ag.length bF]) (t := 27) ?hr ?_; (case hd => rfl); (case hg => rfl); (case hr => first | (go_simp; done) | (go_simp; rfl)); intro QA hg w5 aU hb; have CL := aa.mk (aU); have GW285 : aa (w.heap.size ≤ QA) := gw_ hg (aI bl_); have GE285 := GW285; replace lI := aa.mk (Kd.iZ (Kd.jq (pV_ lI.out) QA (Nat.le_of_eq hg.symm)) hb); replace HB := aa.mk (ay bl_ hb); clear hb aU hg) | ((with_reducible refine bu (N := 4) rfl ?_); refine bz ?hg (N := 4) ?hd (cs := #[.int .i64 0, .int .i64 0, .int .i64 0, .int .i64 0, .slice none 0 0]) (t := 27) ?hr ?_; (case hd => rfl); (case hg => rfl); (case hr => first | (go_simp; done) | (go_simp; rfl)); intro qX hg w6 aU hb; have QB := aa.mk (aU); have GW286 : aa (w.heap.size ≤ qX) := gw_ hg (aI bl_); have GE286 := GW286; have LD := nl_ CL hg; have LF := ng_ CL hg; replace lI := aa.mk (Kd.iZ (Kd.jq (pV_ lI.out) qX (Nat.le_of_eq hg.symm)) hb); replace CL := kb_ CL hb; replace HB := aa.mk (ay bl_ hb); clear hb aU hg; have hnb7 := LD.out; have hnc7 := LF.out; obtain ⟨HY, HZ, Ua, Ub, Uc, H5, H6, Ud, Ue, Uf⟩ := bQ CL.out; have p287 : 0 ≤ (0 : Int) := (by omega); have q287 : 0 < (ag.length : Int) := dt_; obtain ⟨ad287, A287_4, c287_4, e287, hx287_0, hx287_1, hx287_2, hx287_3, Xf, Xg, Xh⟩ := gQ (Kd.qK lI.out).2.2 0 p287 q287; cases e287; obtain ⟨ce287, hce287, hMe287, hcc287⟩ := Kd.V_get lI.out z27 0 p287 (by first | exact q287 | exact dt_ | (have e_ := (Kd.qK lI.out).1; omega)); obtain ⟨ua287_4, uc287_4, rfl, SV, SX⟩ := Tw hMe287; have NS := hcc287 4 _ rfl; rw [uj _ _ 4 (by omega)] at NS; replace NS := Option.some.inj (NS.symm.trans Xf); injection NS with hva_ hvn_ hvc_; rw [hva_] at SX; rw [hvc_] at SV; have HL287_4 := aa.mk (show Kd.V k27 27 _ w.heap.size _ _ ((aj ag 0).f4) from Kd.AU SV SX); clear hva_ hvn_ hvc_ SX SV; clear hcc287 hce287; have qi287 : (0 < ag.length) = True := eq_true (by omega); (try simp only [z0_, Nat.zero_mul, Addr.add_zero'] at hx287_0); (try simp only [z0_, Nat.zero_mul, Addr.add_zero'] at hx287_1); (try simp only [z0_, Nat.zero_mul, Addr.add_zero'] at hx287_2); (try simp only [z0_, Nat.zero_mul, Addr.add_zero'] at hx287_3); (try simp only [z0_, Nat.zero_mul, Addr.add_zero'] at Xf); have HR287_4 := aa.mk Xh; have HC287_4 := aa.mk Xg; clear Xh Xg; replace p287 := eq_true p287; replace q287 := eq_true q287; obtain ⟨EJ, EK, EL, EM, EN, EO, EP, ER, ES, ET⟩ := bQ QB.out))
   refine bodyPost_ret (results_cell_row rfl _ _ qX 27 #[.int .i64 ((aj ag 0).f0), .int .i64 ((aj ag 0).f1), .int .i64 ((aj ag 0).f2), .int .i64 ((aj ag 0).f3), .slice A287_4 ((aj ag 0).f4).length c287_4] (0, 0) _ rfl (by (with_reducible repeat (first | refine ah ?_ _ | refine ai ?_ | refine af ?_ _)); refine aW (cs := #[.int .i64 ((aj ag 0).f0), .int .i64 ((aj ag 0).f1), .int .i64 ((aj ag 0).f2), .int .i64 ((aj ag 0).f3), .slice none 0 0]) ?_ 4 _ rfl; (with_reducible repeat (first | refine ah ?_ _ | refine ai ?_ | refine af ?_ _)); refine aW (cs := #[.int .i64 ((aj ag 0).f0), .int .i64 ((aj ag 0).f1), .int .i64 ((aj ag 0).f2), .int .i64 0, .slice none 0 0]) ?_ 3 _ rfl; (with_reducible repeat (first | refine ah ?_ _ | refine ai ?_ | refine af ?_ _)); refine aW (cs := #[.int .i64 ((aj ag 0).f0), .int .i64 ((aj ag 0).f1), .int .i64 0, .int .i64 0, .slice none 0 0]) ?_ 2 _ rfl; (with_reducible repeat (first | refine ah ?_ _ | refine ai ?_ | refine af ?_ _)); refine aW (cs := #[.int .i64 ((aj ag 0).f0), .int .i64 0, .int .i64 0, .int .i64 0, .slice none 0 0]) ?_ 1 _ rfl; (with_reducible repeat (first | refine ah ?_ _ | refine ai ?_ | refine af ?_ _)); refine aW (cs := #[.int .i64 0, .int .i64 0, .int .i64 0, .int .i64 0, .slice none 0 0]) ?_ 0 _ rfl; (with_reducible repeat (first | refine ah ?_ _ | refine ai ?_ | refine af ?_ _)); exact QB.out) Try.underlying27 rfl (by kernel_rfl)) rfl ?_
   exact ⟨_, re_, by (with_reducible repeat (first | apply Kd.jW | apply Kd.jX | apply Kd.kF)); exact Kd.fV (Kd.kW (p := ⟨qX, 4, none⟩) (Kd.kW (p := ⟨qX, 3, none⟩) (Kd.kW (p := ⟨qX, 2, none⟩) (Kd.kW (p := ⟨qX, 1, none⟩) (Kd.kW (p := ⟨qX, 0, none⟩) (Kd.fV HL287_4.out (fun k_ hk => (⟨hk, by first | exact hk.2 | exact hk.1 | exact hk.2 | exact hk.1.1 | exact hk.1.2⟩ : _ ∧ k_ ≠ qX))) (fun _ hk => hk.2) (.int .i64 ((aj ag 0).f0))) (fun _ hk => hk.2) (.int .i64 ((aj ag 0).f1))) (fun _ hk => hk.2) (.int .i64 ((aj ag 0).f2))) (fun _ hk => hk.2) (.int .i64 ((aj ag 0).f3))) (fun _ hk => hk.2) (.slice A287_4 ((aj ag 0).f4).length c287_4)) (fun _ hk => hk.1.1.1), bl_⟩
  ·rw [if_neg c4] at H; exact absurd H (by simp)
 ·rw [if_neg c3] at H; have lW : (ak == 6) = false := beq_eq_false_iff_ne.mpr c3; have oJ : (ak != 6) = true := bne_iff_ne.mpr c3; by_cases c10 : 0 ≤ a1
  ·rw [if_pos c10] at H; have r9 : decide (0 ≤ a1) = true := decide_eq_true c10; clear c10; by_cases c11 : a1 < (ag.length : Int)
   ·rw [if_pos c11] at H; have Ay : decide (a1 < (ag.length : Int)) = true := decide_eq_true c11; clear c11; simp only [Option.some.injEq, Prod.mk.injEq] at H; obtain ⟨rfl, rfl, rfl, rfl, rfl⟩ := H; go_enter Try.func45, Try.ntmps45; go_wp2_with (first | ((with_reducible refine bu (N := 2) rfl ?_); refine bz ?hg (N := 2) ?hd (cs := #[.int .i64 ak, .int .i64 aG, .int .i64 aH, .int .i64 aD, .slice bL ag.length bF]) (t := 27) ?hr ?_; (case hd => rfl); (case hg => rfl); (case hr => first | (go_simp; done) | (go_simp; rfl)); intro QA hg w12 aU hb; have CL := aa.mk (aU); have GW285 : aa (w.heap.size ≤ QA) := gw_ hg (aI bl_); have GE285 := GW285; replace lI := aa.mk (Kd.iZ (Kd.jq (pV_ lI.out) QA (Nat.le_of_eq hg.symm)) hb); replace HB := aa.mk (ay bl_ hb); clear hb aU hg) | ((with_reducible refine bu (N := 4) rfl ?_); refine bz ?hg (N := 4) ?hd (cs := #[.int .i64 0, .int .i64 0, .int .i64 0, .int .i64 0, .slice none 0 0]) (t := 27) ?hr ?_; (case hd => rfl); (case hg => rfl); (case hr => first | (go_simp; done) | (go_simp; rfl)); intro qX hg w13 aU hb; have QB := aa.mk (aU); have GW286 : aa (w.heap.size ≤ qX) := gw_ hg (aI bl_); have GE286 := GW286; have LD := nl_ CL hg; have LF := ng_ CL hg; replace lI := aa.mk (Kd.iZ (Kd.jq (pV_ lI.out) qX (Nat.le_of_eq hg.symm)) hb); replace CL := kb_ CL hb; replace HB := aa.mk (ay bl_ hb); clear hb aU hg; have hnb14 := LD.out; have hnc14 := LF.out; obtain ⟨Dl, Dm, Dn, Dp, Dq, Dr, Dt, Du, Dv, Dw⟩ := bQ CL.out; have p288 : 0 ≤ (a1 : Int) := dt_; have q288 : a1 < (ag.length : Int) := dt_; obtain ⟨ad288, A288_4, c288_4, e288, hx288_0, hx288_1, hx288_2, hx288_3, hx288_4, Xi, Xj⟩ := gQ (Kd.qK lI.out).2.2 a1 p288 q288; cases e288; obtain ⟨ce288, hce288, hMe288, hcc288⟩ := Kd.V_get lI.out z27 a1 p288 (by first | exact q288 | exact dt_ | (have e_ := (Kd.qK lI.out).1; omega)); obtain ⟨ua288_4, uc288_4, rfl, SY, S9⟩ := Tw hMe288; have NT := hcc288 4 _ rfl; rw [uj _ _ 4 (by omega)] at NT; replace NT := Option.some.inj (NT.symm.trans hx288_4); injection NT with hva_ hvn_ hvc_; rw [hva_] at S9; rw [hvc_] at SY; have HL288_4 := aa.mk (show Kd.V k27 27 _ w.heap.size _ _ ((aj ag a1).f4) from Kd.AU SY S9); clear hva_ hvn_ hvc_ S9 SY; clear hcc288 hce288; have HR288_4 := aa.mk Xj; have HC288_4 := aa.mk Xi; clear Xj Xi; replace p288 := eq_true p288; replace q288 := eq_true q288; obtain ⟨tq, tu, tC, tF, tH, tJ, tK, tL, tN, tO⟩ := bQ QB.out))
    refine bodyPost_ret (results_cell_row rfl _ _ qX 27 #[.int .i64 ((aj ag a1).f0), .int .i64 ((aj ag a1).f1), .int .i64 ((aj ag a1).f2), .int .i64 ((aj ag a1).f3), .slice A288_4 ((aj ag a1).f4).length c288_4] (0, 0) _ rfl (by (with_reducible repeat (first | refine ah ?_ _ | refine ai ?_ | refine af ?_ _)); refine aW (cs := #[.int .i64 ((aj ag a1).f0), .int .i64 ((aj ag a1).f1), .int .i64 ((aj ag a1).f2), .int .i64 ((aj ag a1).f3), .slice none 0 0]) ?_ 4 _ rfl; (with_reducible repeat (first | refine ah ?_ _ | refine ai ?_ | refine af ?_ _)); refine aW (cs := #[.int .i64 ((aj ag a1).f0), .int .i64 ((aj ag a1).f1), .int .i64 ((aj ag a1).f2), .int .i64 0, .slice none 0 0]) ?_ 3 _ rfl; (with_reducible repeat (first | refine ah ?_ _ | refine ai ?_ | refine af ?_ _)); refine aW (cs := #[.int .i64 ((aj ag a1).f0), .int .i64 ((aj ag a1).f1), .int .i64 0, .int .i64 0, .slice none 0 0]) ?_ 2 _ rfl; (with_reducible repeat (first | refine ah ?_ _ | refine ai ?_ | refine af ?_ _)); refine aW (cs := #[.int .i64 ((aj ag a1).f0), .int .i64 0, .int .i64 0, .int .i64 0, .slice none 0 0]) ?_ 1 _ rfl; (with_reducible repeat (first | refine ah ?_ _ | refine ai ?_ | refine af ?_ _)); refine aW (cs := #[.int .i64 0, .int .i64 0, .int .i64 0, .int .i64 0, .slice none 0 0]) ?_ 0 _ rfl; (with_reducible repeat (first | refine ah ?_ _ | refine ai ?_ | refine af ?_ _)); exact QB.out) Try.underlying27 rfl (by kernel_rfl)) rfl ?_
    exact ⟨_, re_, by (with_reducible repeat (first | apply Kd.jW | apply Kd.jX | apply Kd.kF)); exact Kd.fV (Kd.kW (p := ⟨qX, 4, none⟩) (Kd.kW (p := ⟨qX, 3, none⟩) (Kd.kW (p := ⟨qX, 2, none⟩) (Kd.kW (p := ⟨qX, 1, none⟩) (Kd.kW (p := ⟨qX, 0, none⟩) (Kd.fV HL288_4.out (fun k_ hk => (⟨hk, by first | exact hk.2 | exact hk.1 | exact hk.2 | exact hk.1.1 | exact hk.1.2⟩ : _ ∧ k_ ≠ qX))) (fun _ hk => hk.2) (.int .i64 ((aj ag a1).f0))) (fun _ hk => hk.2) (.int .i64 ((aj ag a1).f1))) (fun _ hk => hk.2) (.int .i64 ((aj ag a1).f2))) (fun _ hk => hk.2) (.int .i64 ((aj ag a1).f3))) (fun _ hk => hk.2) (.slice A288_4 ((aj ag a1).f4).length c288_4)) (fun _ hk => hk.1.1.1), bl_⟩
   ·rw [if_neg c11] at H; exact absurd H (by simp)
  ·rw [if_neg c10] at H; exact absurd H (by simp)

end Go.Proofs.Ytggelekooacmnaa.Z
namespace Go.Proofs.Ytggelekooacmnaa.Z
open Go.RowKit Go.Proofs.YtggelekooacmnaaW.bM Go.Proofs.YtggelekooacmnaaW.dR Go.Proofs.YtggelekooacmnaaW.eO
attribute [local go_sem] iM iN jk jl gW gX iO iP   -- for this text's walks alone
set_option linter.unusedVariables false
set_option linter.unusedSimpArgs false

/-! ### bU: function 32 -/
mutual
def bU.j0 : Nat → List Int → Int → Int → Int → Int → Int → List (S27) → Int → Option (Int × (List (S31)) × List Int × Bool)
 | 0, _, _, _, _, _, _, _, _ => none
 | k + 1, x1, x8, Kt, NU, NV, Ci, NW, Ku => bU.l0 k x1 x8 x8 0 Kt NU NV Ci NW Ku ([] : List (S31))
def bU.l0 : Nat → List Int → Int → Int → Int → Int → Int → Int → Int → List (S27) → Int → List (S31) → Option (Int × (List (S31)) × List Int × Bool)
 | 0, _, _, _, _, _, _, _, _, _, _, _ => none
 | k + 1, x1, x8, x47, x48, Kt, NU, NV, Ci, NW, Ku, NY => if x48 < x47 then ((ma.f Kt NU NV Ci NW x48).bind fun QC => ((bU.f k QC.1 QC.2.1 QC.2.2.1 QC.2.2.2.1 QC.2.2.2.2 x1).bind fun FE => (if FE.2.2.2 = true then (if NY.length < 4398046511104 then (bU.l0 k FE.2.2.1 x8 x47 (wrap64 (x48 + 1)) Kt NU NV Ci NW Ku (NY ++ [(⟨FE.1, FE.2.1⟩ : S31)])) else (none)) else (some (0, ([] : List (S31)), ([] : List Int), false))))) else (if Kt = 6 then (if (x1.length : Int) < (wrap64 (Ci - x8)) then (some (0, ([] : List (S31)), ([] : List Int), false)) else (if 0 ≤ (wrap64 (Ci - x8)) then (if (wrap64 (Ci - x8)) ≤ (x1.length : Int) then (some (Ku, NY, (x1.drop ((wrap64 (Ci - x8)) : Int).toNat), true)) else (none)) else (none))) else (some (Ku, NY, x1, true)))
def bU.f : Nat → Int → Int → Int → Int → List (S27) → List Int → Option (Int × (List (S31)) × List Int × Bool)
 | 0, _, _, _, _, _, _ => none
 | k + 1, ak, aG, aH, aD, ag, l1 => if (l1.length : Int) = 0 then (some (0, ([] : List (S31)), ([] : List Int), false)) else (if ak = 5 then (bU.j0 k l1 (ag.length : Int) ak aG aH aD ag 0) else (if ak = 6 then (if 0 < (l1.length : Int) then (if (rd l1 0) < 0 then (some (0, ([] : List (S31)), ([] : List Int), false)) else (if (rd l1 0) > aD then (some (0, ([] : List (S31)), ([] : List Int), false)) else (if 1 ≤ (l1.length : Int) then (bU.j0 k (l1.drop 1) (rd l1 0) ak aG aH aD ag 0) else (none)))) else (none)) else (if 0 < (l1.length : Int) then (if 1 ≤ (l1.length : Int) then (some (rd l1 0, ([] : List (S31)), (l1.drop 1), true)) else (none)) else (none))))
end
theorem bU.iU : ∀ k, (∀ y0 y1 y2 y3 y4 y5, LeO (bU.f k y0 y1 y2 y3 y4 y5) (bU.f (k + 1) y0 y1 y2 y3 y4 y5)) ∧ (∀ y0 y1 y2 y3 y4 y5 y6 y7, LeO (bU.j0 k y0 y1 y2 y3 y4 y5 y6 y7) (bU.j0 (k + 1) y0 y1 y2 y3 y4 y5 y6 y7)) ∧ (∀ y0 y1 y2 y3 y4 y5 y6 y7 y8 y9 y10, LeO (bU.l0 k y0 y1 y2 y3 y4 y5 y6 y7 y8 y9 y10) (bU.l0 (k + 1) y0 y1 y2 y3 y4 y5 y6 y7 y8 y9 y10))
 | 0 => ⟨fun _ _ _ _ _ _ r h => by simp [bU.f] at h, fun _ _ _ _ _ _ _ _ r h => by simp [bU.j0] at h, fun _ _ _ _ _ _ _ _ _ _ _ r h => by simp [bU.l0] at h⟩
 | k + 1 => by
  obtain ⟨ih0, ih1, ih2⟩ := bU.iU k; refine ⟨?_, ?_, ?_⟩
  ·intro y0 y1 y2 y3 y4 y5; unfold bU.f; repeat' first
   | (with_reducible exact ih0 _ _ _ _ _ _)
   | (with_reducible exact ih1 _ _ _ _ _ _ _ _)
   | (with_reducible exact ih2 _ _ _ _ _ _ _ _ _ _ _)
   | (with_reducible exact LeO.refl _)
   | (with_reducible exact LeO.none _)
   | (with_reducible refine LeO.ite ?_ ?_)
   | (with_reducible refine LeO.bind ?_ (fun _ => ?_))
   | exact ih0 _ _ _ _ _ _
   | exact ih1 _ _ _ _ _ _ _ _
   | exact ih2 _ _ _ _ _ _ _ _ _ _ _
   | exact LeO.none _
   | refine LeO.ite ?_ ?_
   | refine LeO.bind ?_ (fun _ => ?_)
  ·intro y0 y1 y2 y3 y4 y5 y6 y7; unfold bU.j0; repeat' first
   | (with_reducible exact ih0 _ _ _ _ _ _)
   | (with_reducible exact ih1 _ _ _ _ _ _ _ _)
   | (with_reducible exact ih2 _ _ _ _ _ _ _ _ _ _ _)
   | (with_reducible exact LeO.refl _)
   | (with_reducible exact LeO.none _)
   | (with_reducible refine LeO.ite ?_ ?_)
   | (with_reducible refine LeO.bind ?_ (fun _ => ?_))
   | exact ih0 _ _ _ _ _ _
   | exact ih1 _ _ _ _ _ _ _ _
   | exact ih2 _ _ _ _ _ _ _ _ _ _ _
   | exact LeO.none _
   | refine LeO.ite ?_ ?_
   | refine LeO.bind ?_ (fun _ => ?_)
  ·intro y0 y1 y2 y3 y4 y5 y6 y7 y8 y9 y10; unfold bU.l0; repeat' first
   | (with_reducible exact ih0 _ _ _ _ _ _)
   | (with_reducible exact ih1 _ _ _ _ _ _ _ _)
   | (with_reducible exact ih2 _ _ _ _ _ _ _ _ _ _ _)
   | (with_reducible exact LeO.refl _)
   | (with_reducible exact LeO.none _)
   | (with_reducible refine LeO.ite ?_ ?_)
   | (with_reducible refine LeO.bind ?_ (fun _ => ?_))
   | exact ih0 _ _ _ _ _ _
   | exact ih1 _ _ _ _ _ _ _ _
   | exact ih2 _ _ _ _ _ _ _ _ _ _ _
   | exact LeO.none _
   | refine LeO.ite ?_ ?_
   | refine LeO.bind ?_ (fun _ => ?_)
theorem bU.mono : ∀ a0 a1 a2 a3 a4 a5 k, LeO (bU.f k a0 a1 a2 a3 a4 a5) (bU.f (k + 1) a0 a1 a2 a3 a4 a5) := by
 intro a0 a1 a2 a3 a4 a5 k; obtain ⟨ih0, ih1, ih2⟩ := bU.iU k; exact ih0 a0 a1 a2 a3 a4 a5
def bU.T6 : Bool × List (List Nat × List Nat) := (true, [([], []), ([0], [0]), ([1], [1]), ([2], [2]), ([], []), ([4], [4]), ([3, 0, 1, 2, 3], [3]), ([5, 6, 0, 1, 2, 3, 4, 5, 6], [5]), ([7, 0, 1, 2, 3, 4, 5, 6, 7], [])])
def bU.B6 : List Nat := [0, 1, 3, 7, 0, 16, 15, 127, 255]
theorem bU.tab6 : mf .any (opsOf Try.f32 6) = bU.T6 := by kernel_rfl
theorem bU.bits6 : nW bU.T6.2 bU.B6 = true := by kernel_rfl
set_option maxHeartbeats 8000000 in
set_option maxRecDepth 100000 in
theorem bU.calls (k : Nat) : ∀ (ak : Int) (aG : Int) (aH : Int) (aD : Int) (lq : Nat → Prop) (bL : Option Addr) (bF : Nat) (ag : List (S27)) (P1_ : Nat → Prop) (A1 : Option Addr) (c1 : Nat) (l1 : List Int) (r1 : Int) (r2 : List (S31)) (r3 : List Int) (r4 : Bool) (w : World) (hs0_4 : Kd.V k27 27 w w.heap.size (fun k_ => lq k_) (.slice bL ag.length bF) ag) (hs1 : Kd.V (Kd.int .i64) 3 w w.heap.size (fun k_ => P1_ k_) (.slice A1 l1.length c1) l1) (h : bU.f k ak aG aH aD ag l1 = some (r1, r2, r3, r4)),
  Calls Try.prog 32 #[.agg #[.int .i64 ak, .int .i64 aG, .int .i64 aH, .int .i64 aD, .slice bL ag.length bF], .slice A1 l1.length c1] w fun e w' => ∃ v1_ v2_ : Value, e = .returned (.tuple #[.agg #[.int .i64 r1, v1_], v2_, .bool r4]) ∧ Kd.R k31 31 w' w.heap.size (fun k_ => (w.heap.size ≤ k_)) v1_ r2 ∧ Kd.V (Kd.int .i64) 3 w' w.heap.size (fun k_ => ((lq k_ ∨ P1_ k_) ∨ w.heap.size ≤ k_) ∧ some k_ ≠ (v1_ : Value).ownBlock) v2_ r3 ∧ Below w.heap.size w w' := by
 induction k using Nat.strongRecOn with
 | _ k ih =>
 intro ak aG aH aD lq bL bF ag P1_ A1 c1 l1 r1 r2 r3 r4 w hs0_4 hs1 h; cases k with
 | zero => exact absurd h (by simp [bU.f])
 | succ k =>
 simp only [bU.f] at h; have rY := Try.underlying27; have hu31 := Try.underlying31; have lI := aa.mk (show Kd.V k27 27 w w.heap.size (fun k_ => ((lq k_ ∨ P1_ k_) ∨ w.heap.size ≤ k_)) (.slice bL ag.length bF) ag from Kd.fV hs0_4 (fun k_ hk => .inl (.inl hk))); have HO1 := aa.mk (show Kd.V (Kd.int .i64) 3 w w.heap.size (fun k_ => ((lq k_ ∨ P1_ k_) ∨ w.heap.size ≤ k_)) (.slice A1 l1.length c1) l1 from Kd.fV hs1 (fun k_ hk => .inl (.inr hk))); have HB := aa.mk (Below.refl w.heap.size w); have H : (if (l1.length : Int) = 0 then (some (0, ([] : List (S31)), ([] : List Int), false)) else (if ak = 5 then (bU.j0 k l1 (ag.length : Int) ak aG aH aD ag 0) else (if ak = 6 then (if 0 < (l1.length : Int) then (if (rd l1 0) < 0 then (some (0, ([] : List (S31)), ([] : List Int), false)) else (if (rd l1 0) > aD then (some (0, ([] : List (S31)), ([] : List Int), false)) else (if 1 ≤ (l1.length : Int) then (bU.j0 k (l1.drop 1) (rd l1 0) ak aG aH aD ag 0) else (none)))) else (none)) else (if 0 < (l1.length : Int) then (if 1 ≤ (l1.length : Int) then (some (rd l1 0, ([] : List (S31)), (l1.drop 1), true)) else (none)) else (none))))) = some (r1, r2, r3, r4) := h; clear h; by_cases c3 : (l1.length : Int) = 0
 ·rw [if_pos c3] at H; have lW : ((l1.length : Int) == 0) = true := beq_iff_eq.mpr c3; have oJ : ((l1.length : Int) != 0) = false := bne_eq_false_iff_eq.mpr c3; clear c3; simp only [Option.some.injEq, Prod.mk.injEq] at H; obtain ⟨rfl, rfl, rfl, rfl⟩ := H; go_enter Try.func32, Try.ntmps32; go_wp2_with (first | ((with_reducible refine bu (N := 2) rfl ?_); refine bz ?hg (N := 2) ?hd (cs := #[.int .i64 ak, .int .i64 aG, .int .i64 aH, .int .i64 aD, .slice bL ag.length bF]) (t := 27) ?hr ?_; (case hd => rfl); (case hg => rfl); (case hr => first | (go_simp; done) | (go_simp; rfl)); intro j6 hg w4 aU hb; have jb := aa.mk (aU); have GW349 : aa (w.heap.size ≤ j6) := gw_ hg (aI bl_); have GE349 := GW349; replace lI := aa.mk (Kd.iZ (Kd.jq (pV_ lI.out) j6 (Nat.le_of_eq hg.symm)) hb); replace HO1 := aa.mk (Kd.iZ (Kd.jq (pV_ HO1.out) j6 (Nat.le_of_eq hg.symm)) hb); replace HB := aa.mk (ay bl_ hb); clear hb aU hg) | ((with_reducible refine bu (N := 4) rfl ?_); refine bz ?hg (N := 4) ?hd (cs := #[.int .i64 0, .slice none 0 0]) (t := 31) ?hr ?_; (case hd => rfl); (case hg => rfl); (case hr => first | (go_simp; done) | (go_simp; rfl)); intro fK hg w5 aU hb; have iW := aa.mk (aU); have GW350 : aa (w.heap.size ≤ fK) := gw_ hg (aI bl_); have GE350 := GW350; have mR := nl_ jb hg; have mU := ng_ jb hg; replace lI := aa.mk (Kd.iZ (Kd.jq (pV_ lI.out) fK (Nat.le_of_eq hg.symm)) hb); replace HO1 := aa.mk (Kd.iZ (Kd.jq (pV_ HO1.out) fK (Nat.le_of_eq hg.symm)) hb); replace jb := kb_ jb hb; replace HB := aa.mk (ay bl_ hb); clear hb aU hg; have hnb6 := mU.out; have hnc6 := mR.out; obtain ⟨EG, EH, H7, EI⟩ := iy iW.out))
  refine bodyPost_ret (ry rfl _ _ fK 31 #[.int .i64 0, .slice none 0 0] (0, 0) _ rfl (by (with_reducible repeat (first | refine ah ?_ _ | refine ai ?_ | refine af ?_ _)); refine aW (cs := #[.int .i64 0, .slice none 0 0]) ?_ 1 _ rfl; (with_reducible repeat (first | refine ah ?_ _ | refine ai ?_ | refine af ?_ _)); refine aW (cs := #[.int .i64 0, .slice none 0 0]) ?_ 0 _ rfl; (with_reducible repeat (first | refine ah ?_ _ | refine ai ?_ | refine af ?_ _)); exact iW.out) Try.underlying31 rfl (by kernel_rfl)) rfl ?_
  exact ⟨_, _, re_, by first | exact Kd.jv _ _ _ _ _ | exact Kd.kV _ _ _ _ _ | exact Kd.jZ _ _ _ _ _ | exact Kd.kT _ _ _ _ _ | exact Kd.kU _ _ _ _ _, (by first | exact Kd.jZ _ _ _ _ _ | exact Kd.fV (Kd.R_V (by first | exact Kd.jv _ _ _ _ _ | exact Kd.kV _ _ _ _ _ | exact Kd.jZ _ _ _ _ _ | exact Kd.kT _ _ _ _ _ | exact Kd.kU _ _ _ _ _)) (fun k_ hk => by first | exact ⟨(.inr (hk.1)), hk.2⟩ | exact (.inr (hk)))), bl_⟩
 ·rw [if_neg c3] at H; have lW : ((l1.length : Int) == 0) = false := beq_eq_false_iff_ne.mpr c3; have oJ : ((l1.length : Int) != 0) = true := bne_iff_ne.mpr c3; have c3b2 : ¬ (l1 = []) := fun h_ => c3 (by rw [h_]; rfl)
  have HC8 := aa.mk H; clear H; go_enter Try.func32, Try.ntmps32; go_upto_block 0 with (first | ((with_reducible refine bu (N := 2) rfl ?_); refine bz ?hg (N := 2) ?hd (cs := #[.int .i64 ak, .int .i64 aG, .int .i64 aH, .int .i64 aD, .slice bL ag.length bF]) (t := 27) ?hr ?_; (case hd => rfl); (case hg => rfl); (case hr => first | (go_simp; done) | (go_simp; rfl)); intro j6 hg w9 aU hb; have jb := aa.mk (aU); have GW349 : aa (w.heap.size ≤ j6) := gw_ hg (aI bl_); have GE349 := GW349; replace lI := aa.mk (Kd.iZ (Kd.jq (pV_ lI.out) j6 (Nat.le_of_eq hg.symm)) hb); replace HO1 := aa.mk (Kd.iZ (Kd.jq (pV_ HO1.out) j6 (Nat.le_of_eq hg.symm)) hb); replace HB := aa.mk (ay bl_ hb); clear hb aU hg) | ((with_reducible refine bu (N := 4) rfl ?_); refine bz ?hg (N := 4) ?hd (cs := #[.int .i64 0, .slice none 0 0]) (t := 31) ?hr ?_; (case hd => rfl); (case hg => rfl); (case hr => first | (go_simp; done) | (go_simp; rfl)); intro fK hg w10 aU hb; have iW := aa.mk (aU); have GW350 : aa (w.heap.size ≤ fK) := gw_ hg (aI bl_); have GE350 := GW350; have mR := nl_ jb hg; have mU := ng_ jb hg; replace lI := aa.mk (Kd.iZ (Kd.jq (pV_ lI.out) fK (Nat.le_of_eq hg.symm)) hb); replace HO1 := aa.mk (Kd.iZ (Kd.jq (pV_ HO1.out) fK (Nat.le_of_eq hg.symm)) hb); replace jb := kb_ jb hb; replace HB := aa.mk (ay bl_ hb); clear hb aU hg) | ((with_reducible refine bu (N := 7) rfl ?_); refine bz ?hg (N := 7) ?hd (cs := #[.int .i64 0, .slice none 0 0]) (t := 31) ?hr ?_; (case hd => rfl); (case hg => rfl); (case hr => first | (go_simp; done) | (go_simp; rfl)); intro jc hg w11 aU hb; have lU := aa.mk (aU); have GW351 : aa (w.heap.size ≤ jc) := gw_ hg (aI bl_); have GE351 := GW351; have rA := nl_ jb hg; have uy := ng_ jb hg; have rC := nl_ iW hg; have uz := ng_ iW hg; replace lI := aa.mk (Kd.iZ (Kd.jq (pV_ lI.out) jc (Nat.le_of_eq hg.symm)) hb); replace HO1 := aa.mk (Kd.iZ (Kd.jq (pV_ HO1.out) jc (Nat.le_of_eq hg.symm)) hb); replace jb := kb_ jb hb; replace iW := kb_ iW hb; replace HB := aa.mk (ay bl_ hb); clear hb aU hg; have hnb12 := mR.out; have hnc12 := mU.out; have hnb13 := rA.out; have hnc13 := uy.out; obtain ⟨mg, mh, mi, mo, mq, mr, mD, mE, mF, mG⟩ := bQ jb.out))
  (try simp only [Act.put, List.setIfInBounds_toArray, List.set_cons_zero, List.set_cons_succ])
  go_cut [1, 8] (fun v1 v8 wc => ∃ (kq : Nat) (x1_7 : List Int) (uD : Int) (LG : Int), v8 = .int .i64 uD ∧ aa (bU.j0 kq x1_7 uD ak aG aH aD ag 0 = some (r1, r2, r3, r4)) ∧ aa (kq ≤ k) ∧ aa (Kd.V (Kd.int .i64) 3 wc w.heap.size (fun k_ => ((lq k_ ∨ P1_ k_) ∨ w.heap.size ≤ k_) ∧ k_ ≠ j6 ∧ k_ ≠ fK ∧ k_ ≠ jc) v1 x1_7) ∧ aa (Kd.V k27 27 wc w.heap.size (fun k_ => ((lq k_ ∨ P1_ k_) ∨ w.heap.size ≤ k_) ∧ k_ ≠ j6 ∧ k_ ≠ fK ∧ k_ ≠ jc) (.slice bL ag.length bF) ag) ∧ aa (wc.heap[j6]? = some (.cells #[.int .i64 ak, .int .i64 aG, .int .i64 aH, .int .i64 aD, (.slice bL ag.length bF)] 27 (0, 0))) ∧ aa (wc.heap[fK]? = some (.cells #[.int .i64 LG, (.slice none 0 0)] 31 (0, 0))) ∧ aa (wc.heap[jc]? = some (.cells #[.int .i64 0, (.slice none 0 0)] 31 (0, 0))) ∧ aa (Below w.heap.size w wc))
  case first =>
   have H := HC8.out; clear HC8; by_cases c15 : ak = 5
   ·rw [if_pos c15] at H; have si : (ak == 5) = true := beq_iff_eq.mpr c15; have Ep : (ak != 5) = false := bne_eq_false_iff_eq.mpr c15; clear c15; (first | rw [si] | (simp only [eQ, fe]; rw [si]) | skip)
    have H' := aa.mk H; clear H; have Mr := mR.out; have Ms := mU.out; have hnb17 := rA.out; have hnc17 := uy.out; obtain ⟨oU, oV, xc, xe, xg, oW, oZ, xh, xk, xm⟩ := bQ jb.out; go_wp2; go_meet
    case rel => exact ⟨_, (l1), ((ag.length : Int)), (0), rs_, H', ⟨by first | omega | exact Nat.le_refl _⟩, ⟨by (with_reducible repeat (first | apply Kd.jW | apply Kd.jX | apply Kd.kF)); exact Kd.fV HO1.out (fun _ hk => ⟨hk.1.1.1, ⟨hk.1.1.2, ⟨hk.1.2, hk.2⟩⟩⟩)⟩, ⟨by (with_reducible repeat (first | apply Kd.jW | apply Kd.jX | apply Kd.kF)); exact Kd.fV lI.out (fun _ hk => ⟨hk.1.1.1, ⟨hk.1.1.2, ⟨hk.1.2, hk.2⟩⟩⟩)⟩, ⟨bk_⟩, ⟨bk_⟩, ⟨bk_⟩, ⟨bl_⟩⟩
   ·rw [if_neg c15] at H; have si : (ak == 5) = false := beq_eq_false_iff_ne.mpr c15; have Ep : (ak != 5) = true := bne_iff_ne.mpr c15; (first | rw [si] | (simp only [eQ, fe]; rw [si]) | skip)
    by_cases c19 : ak = 6
    ·rw [if_pos c19] at H; have FB : (ak == 6) = true := beq_iff_eq.mpr c19; have FC : (ak != 6) = false := bne_eq_false_iff_eq.mpr c19; clear c19; by_cases c20 : 0 < (l1.length : Int)
     ·rw [if_pos c20] at H; have Az : decide (0 < (l1.length : Int)) = true := decide_eq_true c20; have MF : decide (0 < l1.length) = true := decide_eq_true (by omega); clear c20; by_cases c21 : (rd l1 0) < 0
      ·rw [if_pos c21] at H; have Eu : decide ((rd l1 0) < 0) = true := decide_eq_true c21; clear c21; simp only [Option.some.injEq, Prod.mk.injEq] at H; obtain ⟨rfl, rfl, rfl, rfl⟩ := H; have Ec : 0 ≤ (0 : Int) := (by omega); have Ed : 0 < (l1.length : Int) := dt_; obtain ⟨NZ, e352, xA⟩ := Kd.qP (Kd.qK HO1.out).2.2 0 Ec Ed; cases e352; have qi352 : (0 < l1.length) = True := eq_true (by omega); (try rw [show ((0 : Int)).toNat = 0 from rfl] at xA)
       (try rw [Addr.add_zero'] at xA)
       replace Ec := eq_true Ec; replace Ed := eq_true Ed; have hnb22 := mU.out; have hnc22 := mR.out; have hnb23 := rC.out; have hnc23 := uz.out; obtain ⟨DN, DR, DT, DU⟩ := iy iW.out; go_wp2; refine bodyPost_ret (ry rfl _ _ fK 31 #[.int .i64 0, .slice none 0 0] (0, 0) _ rfl (by (with_reducible repeat (first | refine ah ?_ _ | refine ai ?_ | refine af ?_ _)); refine aW (cs := #[.int .i64 0, .slice none 0 0]) ?_ 1 _ rfl; (with_reducible repeat (first | refine ah ?_ _ | refine ai ?_ | refine af ?_ _)); refine aW (cs := #[.int .i64 0, .slice none 0 0]) ?_ 0 _ rfl; (with_reducible repeat (first | refine ah ?_ _ | refine ai ?_ | refine af ?_ _)); exact iW.out) Try.underlying31 rfl (by kernel_rfl)) rfl ?_
       exact ⟨_, _, re_, by first | exact Kd.jv _ _ _ _ _ | exact Kd.kV _ _ _ _ _ | exact Kd.jZ _ _ _ _ _ | exact Kd.kT _ _ _ _ _ | exact Kd.kU _ _ _ _ _, (by first | exact Kd.jZ _ _ _ _ _ | exact Kd.fV (Kd.R_V (by first | exact Kd.jv _ _ _ _ _ | exact Kd.kV _ _ _ _ _ | exact Kd.jZ _ _ _ _ _ | exact Kd.kT _ _ _ _ _ | exact Kd.kU _ _ _ _ _)) (fun k_ hk => by first | exact ⟨(.inr (hk.1)), hk.2⟩ | exact (.inr (hk)))), bl_⟩
      ·rw [if_neg c21] at H; have Eu : decide ((rd l1 0) < 0) = false := decide_eq_false c21; clear c21; by_cases c25 : (rd l1 0) > aD
       ·rw [if_pos c25] at H; have KJ : decide (aD < (rd l1 0)) = true := decide_eq_true c25; clear c25; simp only [Option.some.injEq, Prod.mk.injEq] at H; obtain ⟨rfl, rfl, rfl, rfl⟩ := H; have Ec : 0 ≤ (0 : Int) := (by omega); have Ed : 0 < (l1.length : Int) := dt_; obtain ⟨NZ, e352, xA⟩ := Kd.qP (Kd.qK HO1.out).2.2 0 Ec Ed; cases e352; have qi352 : (0 < l1.length) = True := eq_true (by omega); (try rw [show ((0 : Int)).toNat = 0 from rfl] at xA)
        (try rw [Addr.add_zero'] at xA)
        replace Ec := eq_true Ec; replace Ed := eq_true Ed; have hnb26 := mR.out; have hnc26 := mU.out; have Pk := rA.out; have Pm := uy.out; obtain ⟨nK, nL, oL, oM, oN, nM, nN, oO, oP, oQ⟩ := bQ jb.out; have hnb29 := rC.out; have hnc29 := uz.out; obtain ⟨BP, BQ, BR, BS⟩ := iy iW.out; go_wp2; refine bodyPost_ret (ry rfl _ _ fK 31 #[.int .i64 0, .slice none 0 0] (0, 0) _ rfl (by (with_reducible repeat (first | refine ah ?_ _ | refine ai ?_ | refine af ?_ _)); refine aW (cs := #[.int .i64 0, .slice none 0 0]) ?_ 1 _ rfl; (with_reducible repeat (first | refine ah ?_ _ | refine ai ?_ | refine af ?_ _)); refine aW (cs := #[.int .i64 0, .slice none 0 0]) ?_ 0 _ rfl; (with_reducible repeat (first | refine ah ?_ _ | refine ai ?_ | refine af ?_ _)); exact iW.out) Try.underlying31 rfl (by kernel_rfl)) rfl ?_
        exact ⟨_, _, re_, by first | exact Kd.jv _ _ _ _ _ | exact Kd.kV _ _ _ _ _ | exact Kd.jZ _ _ _ _ _ | exact Kd.kT _ _ _ _ _ | exact Kd.kU _ _ _ _ _, (by first | exact Kd.jZ _ _ _ _ _ | exact Kd.fV (Kd.R_V (by first | exact Kd.jv _ _ _ _ _ | exact Kd.kV _ _ _ _ _ | exact Kd.jZ _ _ _ _ _ | exact Kd.kT _ _ _ _ _ | exact Kd.kU _ _ _ _ _)) (fun k_ hk => by first | exact ⟨(.inr (hk.1)), hk.2⟩ | exact (.inr (hk)))), bl_⟩
       ·rw [if_neg c25] at H; have KJ : decide (aD < (rd l1 0)) = false := decide_eq_false c25; clear c25; by_cases c31 : 1 ≤ (l1.length : Int)
        ·rw [if_pos c31] at H; have Fx := eq_true c31; have KM : decide (1 ≤ (l1.length : Int)) = true := decide_eq_true c31; clear c31; obtain ⟨y353, QD⟩ : ∃ y_ : List Int, y_ = (l1.drop 1) := ⟨_, rfl⟩; replace H : (bU.j0 k y353 (rd l1 0) ak aG aH aD ag 0) = some (r1, r2, r3, r4) := by first | (rw [QD]; with_reducible exact H) | (have H2_ := (Option.bind_some _ _).symm.trans H; rw [QD]; with_reducible exact H2_) | (have H2_ := (Option.bind_some _ _).symm.trans H; with_reducible exact H2_) | with_reducible exact H | (rw [QD]; exact H) | exact H
         have Ny353 := aa.mk QD; clear QD; have H' := aa.mk H; clear H; have Ec : 0 ≤ (0 : Int) := (by omega); have Ed : 0 < (l1.length : Int) := dt_; obtain ⟨NZ, e352, xA⟩ := Kd.qP (Kd.qK HO1.out).2.2 0 Ec Ed; cases e352; have qi352 : (0 < l1.length) = True := eq_true (by omega); (try rw [show ((0 : Int)).toNat = 0 from rfl] at xA)
         (try rw [Addr.add_zero'] at xA)
         replace Ec := eq_true Ec; replace Ed := eq_true Ed; have hnb32 := mR.out; have hnc32 := mU.out; have hnb33 := rA.out; have hnc33 := uy.out; obtain ⟨Gg, Gh, Gi, Gj, Gl, Gm, Gn, Gp, Gq, Gr⟩ := bQ jb.out; have q35 : (1 : Int) ≤ ((l1.length : Int) : Int) := dt_; obtain ⟨i035, hi035, _, hsz35, _⟩ := info_parts info3; have N7 : l1.length ≤ c1 := (Kd.qK HO1.out).2.1; have hC35 : Kd.F (Kd.int .i64) _ _ (some NZ) l1.length l1 := (Kd.V_at (base := w.heap.size) HO1.out).2.2; have hcut35 := Ox (P := Try.prog) 22 3 .i64 Try.underlying22 hi035 1 hsz35 (some NZ) l1.length c1 1 (by omega) q35; have hr35 := Kd.F_cut (m := (1 : Int).toNat) (c := c1) hC35 (by omega) N7; obtain ⟨A35, hA35⟩ : ∃ A9_, A9_ = (if c1 = (1 : Int).toNat then (some NZ) else ((some NZ) : Option Addr).map (·.add ((1 : Int).toNat * 1))) := ⟨_, rfl⟩; obtain ⟨c35, hc35⟩ : ∃ c9_, c9_ = c1 - (1 : Int).toNat := ⟨_, rfl⟩; have hy35 : y353.length = l1.length - (1 : Int).toNat := (by rw [Ny353.out, List.length_drop] <;> omega); rw [show (l1).drop (1 : Int).toNat = y353 from Ny353.out.symm] at hr35; replace hr35 : Kd.F (Kd.int .i64) _ _ A35 y353.length y353 := (by rw [hA35]; exact hr35); rw [← hy35, ← hA35, ← hc35] at hcut35; have HO357 := aa.mk (show Kd.V (Kd.int .i64) 3 _ w.heap.size _ (.slice A35 y353.length c35) y353 from Kd.AU (by rw [hy35, hc35]; exact Nat.sub_le_sub_right N7 _) hr35); have HC357 := aa.mk (show y353.length ≤ c35 from by rw [hy35, hc35]; exact Nat.sub_le_sub_right N7 _); clear hr35 hC35 N7 hi035 hsz35 hc35; have KY35 := aa.mk hy35; have KA35 := aa.mk hA35; clear hy35 hA35; replace q35 := eq_true q35; go_wp2; go_meet
         case rel => exact ⟨_, (y353), (rd l1 0), (0), rs_, H', ⟨by first | omega | exact Nat.le_refl _⟩, ⟨by (with_reducible repeat (first | apply Kd.jW | apply Kd.jX | apply Kd.kF)); exact Kd.fV HO357.out (fun _ hk => ⟨hk.1.1.1, ⟨hk.1.1.2, ⟨hk.1.2, hk.2⟩⟩⟩)⟩, ⟨by (with_reducible repeat (first | apply Kd.jW | apply Kd.jX | apply Kd.kF)); exact Kd.fV lI.out (fun _ hk => ⟨hk.1.1.1, ⟨hk.1.1.2, ⟨hk.1.2, hk.2⟩⟩⟩)⟩, ⟨bk_⟩, ⟨bk_⟩, ⟨bk_⟩, ⟨bl_⟩⟩
        ·rw [if_neg c31] at H; exact absurd H (by simp)
     ·rw [if_neg c20] at H; exact absurd H (by simp)
    ·rw [if_neg c19] at H; have FB : (ak == 6) = false := beq_eq_false_iff_ne.mpr c19; have FC : (ak != 6) = true := bne_iff_ne.mpr c19; by_cases c36 : 0 < (l1.length : Int)
     ·rw [if_pos c36] at H; have Cz : decide (0 < (l1.length : Int)) = true := decide_eq_true c36; have NR : decide (0 < l1.length) = true := decide_eq_true (by omega); clear c36; by_cases c37 : 1 ≤ (l1.length : Int)
      ·rw [if_pos c37] at H; have Pp := eq_true c37; have c37b1 : decide (1 ≤ (l1.length : Int)) = true := decide_eq_true c37; clear c37; obtain ⟨y359, QE⟩ : ∃ y_ : List Int, y_ = (l1.drop 1) := ⟨_, rfl⟩; replace H : (some (rd l1 0, ([] : List (S31)), y359, true)) = some (r1, r2, r3, r4) := by first | (rw [QE]; with_reducible exact H) | (have H2_ := (Option.bind_some _ _).symm.trans H; rw [QE]; with_reducible exact H2_) | (have H2_ := (Option.bind_some _ _).symm.trans H; with_reducible exact H2_) | with_reducible exact H | (rw [QE]; exact H) | exact H
       have Ny359 := aa.mk QE; clear QE; simp only [Option.some.injEq, Prod.mk.injEq] at H; obtain ⟨rfl, rfl, rfl, rfl⟩ := H; try go_wp2
       replace lI := aa.mk (Kd.kF lI.out); replace HO1 := aa.mk (Kd.kF HO1.out); replace jb := aa.mk (ai jb.out); replace iW := aa.mk (ai iW.out); replace lU := aa.mk (ai lU.out); replace HB := aa.mk (bV HB.out); have p358 : 0 ≤ (0 : Int) := (by omega); have q358 : 0 < (l1.length : Int) := dt_; obtain ⟨QF, e358, GX⟩ := Kd.qP (Kd.qK HO1.out).2.2 0 p358 q358; cases e358; have qi358 : (0 < l1.length) = True := eq_true (by omega); (try rw [show ((0 : Int)).toNat = 0 from rfl] at GX)
       (try rw [Addr.add_zero'] at GX)
       replace p358 := eq_true p358; replace q358 := eq_true q358; have q39 : (1 : Int) ≤ ((l1.length : Int) : Int) := dt_; obtain ⟨i039, hi039, _, hsz39, _⟩ := info_parts info3; have N8 : l1.length ≤ c1 := (Kd.qK HO1.out).2.1; have hC39 : Kd.F (Kd.int .i64) _ _ (some QF) l1.length l1 := (Kd.V_at (base := w.heap.size) HO1.out).2.2; have hcut39 := Ox (P := Try.prog) 22 3 .i64 Try.underlying22 hi039 1 hsz39 (some QF) l1.length c1 1 (by omega) q39; have hr39 := Kd.F_cut (m := (1 : Int).toNat) (c := c1) hC39 (by omega) N8; obtain ⟨A39, hA39⟩ : ∃ A9_, A9_ = (if c1 = (1 : Int).toNat then (some QF) else ((some QF) : Option Addr).map (·.add ((1 : Int).toNat * 1))) := ⟨_, rfl⟩; obtain ⟨c39, hc39⟩ : ∃ c9_, c9_ = c1 - (1 : Int).toNat := ⟨_, rfl⟩; have hy39 : y359.length = l1.length - (1 : Int).toNat := (by rw [Ny359.out, List.length_drop] <;> omega); rw [show (l1).drop (1 : Int).toNat = y359 from Ny359.out.symm] at hr39; replace hr39 : Kd.F (Kd.int .i64) _ _ A39 y359.length y359 := (by rw [hA39]; exact hr39); rw [← hy39, ← hA39, ← hc39] at hcut39; have HO363 := aa.mk (show Kd.V (Kd.int .i64) 3 _ w.heap.size _ (.slice A39 y359.length c39) y359 from Kd.AU (by rw [hy39, hc39]; exact Nat.sub_le_sub_right N8 _) hr39); have HC363 := aa.mk (show y359.length ≤ c39 from by rw [hy39, hc39]; exact Nat.sub_le_sub_right N8 _); clear hr39 hC39 N8 hi039 hsz39 hc39; have KY39 := aa.mk hy39; have KA39 := aa.mk hA39; clear hy39 hA39; replace q39 := eq_true q39; refine qQ (n := 9) (S := fun w' => w'.cell? QF = some (.int .i64 (rd l1 0))) (ds := []) #[false, false, false, false, false, false, false, false, false] (by kernel_rfl) rfl rfl (GX) (fun hHeld => ?_); refine mO bU.tab6 bU.bits6 (fun HT_ HW_ => ?_)
       generalize w11.drew = w38 at lI HO1 jb iW lU HB HO363 GX hHeld ⊢
       refine pu_ HT_ 0 20 (bm 9 1) ?_
       refine pu_ HT_ 1 21 (bm 9 3) ?_
       refine pu_ HT_ 4 24 (bm 9 19) ?_
       refine pu_ HT_ 5 25 (bm 9 51) ?_
       refine Iy (i := 2) (N := some 22) (v := ?_) (a' := ?_) #[true, true, true, false, true, true, false, false, false] rfl rfl (TV HT_.out HW_.out (by kernel_rfl)) (fun _ _ _ h => h) (Or.inl ⟨by rfl, ?_⟩) hHeld ?_ ?_
       rotate_left
       ·intro w' s0; go_simp; with_reducible rfl
       rotate_left
       ·simp only [Act.put, List.setIfInBounds_toArray, List.set_cons_zero, List.set_cons_succ, eQ, fe]; rfl
       refine pu_ HT_ 3 23 (bm 9 63) ?_
       refine qJ (i := 6) (N := none) #[true, true, true, true, true, true, true, false, false] rfl rfl (kL HT_.out (by kernel_rfl)) (by decide) (fun K hK => ?_)
       have hs40 : w38.cell? ⟨fK, 0, none⟩ = some (.int .i64 0) := (aA iW.out 0).trans rfl; have hfs40 := fE iW.out 0; have hns40_0 := mR.out; have hns40_2 := uz.out; have hms40_0 := mU.out; have hms40_2 := rC.out; have hs41 : w38.cell? ⟨fK, 1, none⟩ = some (.slice none 0 0) := (aA iW.out 1).trans rfl; have hfs41 := fE iW.out 1; have hns41_0 := mR.out; have hns41_2 := uz.out; have hms41_0 := mU.out; have hms41_2 := rC.out; refine Kz (w1 := ?_) (by rfl) rfl ?_ ?_
       rotate_left
       ·go_simp; rfl
       refine hK.out _ _ (((cell_far (p := ⟨fK, _, none⟩) (by first | exact Kd.yJ (Kd.EF HO1.out (fun _ hk => hk.1.2)) | (rw [add_block]; exact Kd.yJ (Kd.EF HO1.out (fun _ hk => hk.1.2))) | (show (Addr.add _ _).block ≠ _; rw [add_block]; exact Kd.yJ (Kd.EF HO1.out (fun _ hk => hk.1.2))) | (dsimp only; exact Kd.yJ (Kd.EF HO1.out (fun _ hk => hk.1.2)))) _).trans (((cell_far (p := ⟨fK, _, none⟩) (by first | exact Kd.yJ (Kd.EF HO1.out (fun _ hk => hk.1.2)) | (rw [add_block]; exact Kd.yJ (Kd.EF HO1.out (fun _ hk => hk.1.2))) | (show (Addr.add _ _).block ≠ _; rw [add_block]; exact Kd.yJ (Kd.EF HO1.out (fun _ hk => hk.1.2))) | (dsimp only; exact Kd.yJ (Kd.EF HO1.out (fun _ hk => hk.1.2)))) _).trans (hHeld))))) (fun hHeld => ?_)
       clear hK K; refine pu_ HT_ 7 5 (bm 9 255) ?_
       refine pu_ HT_ 8 6 #[true, true, true, true, true, true, true, true, true] ?_
       refine uG (qp HT_.out (by kernel_rfl)) ?_
       try go_wp2
       refine bodyPost_ret (ry rfl _ _ fK 31 #[.int .i64 (rd l1 0), .slice none 0 0] (0, 0) _ rfl (by (with_reducible repeat (first | refine ah ?_ _ | refine ai ?_ | refine af ?_ _)); refine aW (cs := #[.int .i64 (rd l1 0), .slice none 0 0]) ?_ 1 _ rfl; (with_reducible repeat (first | refine ah ?_ _ | refine ai ?_ | refine af ?_ _)); refine aW (cs := #[.int .i64 0, .slice none 0 0]) ?_ 0 _ rfl; (with_reducible repeat (first | refine ah ?_ _ | refine ai ?_ | refine af ?_ _)); exact iW.out) Try.underlying31 rfl (by kernel_rfl)) rfl ?_
       exact ⟨_, _, re_, by first | exact Kd.jv _ _ _ _ _ | exact Kd.kV _ _ _ _ _ | exact Kd.jZ _ _ _ _ _ | exact Kd.kT _ _ _ _ _ | exact Kd.kU _ _ _ _ _, by (with_reducible repeat (first | apply Kd.jW | apply Kd.jX | apply Kd.kF)); exact Kd.fV (Kd.kW (p := ⟨fK, 1, none⟩) (Kd.kW (p := ⟨fK, 0, none⟩) (Kd.fV HO363.out (fun k_ hk => (⟨hk, by first | exact hk.1.2 | exact hk.1 | exact hk.2 | exact hk.1.1 | exact hk.1.2⟩ : _ ∧ k_ ≠ fK))) (fun _ hk => hk.2) (.int .i64 (rd l1 0))) (fun _ hk => hk.2) (.slice none 0 0)) (fun _ hk => ⟨hk.1.1.1.1, (by simp [Value.ownBlock])⟩), bl_⟩
      ·rw [if_neg c37] at H; exact absurd H (by simp)
     ·rw [if_neg c36] at H; exact absurd H (by simp)
  case rest =>
   clear HC8; (try clear c1); (try clear c2); (try clear p2); (try clear c3); (try clear lW); (try clear oJ); (try clear c3b2); (try clear p3); (try clear q3); (try clear hx3); (try clear qi3); (try clear c6); (try clear c12); (try clear c13); (try clear c15); (try clear si); (try clear Ep); (try clear c16); (try clear c17); (try clear c19); (try clear FB); (try clear FC); (try clear c20); (try clear Az); (try clear MF); (try clear c21); (try clear Eu); (try clear c22); (try clear c23); (try clear c25); (try clear KJ); (try clear c26); (try clear c27); (try clear c29); (try clear c31); (try clear Fx); (try clear KM); (try clear c32); (try clear c33); (try clear c35); (try clear p35); (try clear q35); (try clear hx35); (try clear qi35); (try clear c36); (try clear Cz); (try clear NR); (try clear c37); (try clear Pp); (try clear c37b1); (try clear c39); (try clear q39); (try clear mg mh mi mo mq mr mD mE mF mG); (try clear oU oV xc xe xg oW oZ xh xk xm); (try clear DN DR DT DU); (try clear nK nL oL oM oN nM nN oO oP oQ); (try clear BP BQ BR BS); (try clear Gg Gh Gi Gj Gl Gm Gn Gp Gq Gr); (try clear EG EH H7 EI); (try clear xA); (try clear GX); (try clear Ec); (try clear p358); (try clear q35); (try clear Ed); (try clear q358); (try clear q39); obtain ⟨kq, x1_7, uD, LG, rfl, HA, HJ7, pG, jR, jb, iW, lU, HB⟩ := hcut; cases kq with
   | zero => exact absurd HA.out (by simp [bU.j0])
   | succ kj7 =>
    have H := HA.out; clear HA; simp only [bU.j0] at H; have H' := aa.mk H; clear H; go_wp2; go_loopg [1, 48] kj7 (fun kq v1 v48 w' => ∃ (qM : List Int) (vY : Int) (lM : Int) (jS : List (S31)) (je : Value), v48 = .int .i64 vY ∧ aa (bU.l0 kq qM uD uD vY ak aG aH aD ag 0 jS = some (r1, r2, r3, r4)) ∧ aa (kq ≤ kj7) ∧ aa (Kd.V (Kd.int .i64) 3 w' w.heap.size (fun k_ => ((lq k_ ∨ P1_ k_) ∨ w.heap.size ≤ k_) ∧ some k_ ≠ (je : Value).ownBlock ∧ k_ ≠ j6 ∧ k_ ≠ fK ∧ k_ ≠ jc) v1 qM) ∧ aa (Kd.V k27 27 w' w.heap.size (fun k_ => ((lq k_ ∨ P1_ k_) ∨ w.heap.size ≤ k_) ∧ some k_ ≠ (je : Value).ownBlock ∧ k_ ≠ j6 ∧ k_ ≠ fK ∧ k_ ≠ jc) (.slice bL ag.length bF) ag) ∧ aa (Kd.R k31 31 w' w.heap.size (fun k_ => (w.heap.size ≤ k_) ∧ k_ ≠ fK ∧ k_ ≠ jc) je jS) ∧ aa (w'.heap[j6]? = some (.cells #[.int .i64 ak, .int .i64 aG, .int .i64 aH, .int .i64 aD, (.slice bL ag.length bF)] 27 (0, 0))) ∧ aa (w'.heap[fK]? = some (.cells #[.int .i64 lM, (.slice none 0 0)] 31 (0, 0))) ∧ aa (w'.heap[jc]? = some (.cells #[.int .i64 0, je] 31 (0, 0))) ∧ aa (Below w.heap.size w w'))
    case atStart => exact ⟨(x1_7), (0), (LG), (([] : List (S31))), (.slice none 0 0), rs_, H', ⟨Nat.le_refl _⟩, ⟨by (with_reducible repeat (first | apply Kd.jW | apply Kd.jX | apply Kd.kF)); exact Kd.fV pG.out (fun _ hk => ⟨hk.1, ⟨(by simp [Value.ownBlock]), ⟨hk.2.1, ⟨hk.2.2.1, hk.2.2.2⟩⟩⟩⟩)⟩, ⟨by (with_reducible repeat (first | apply Kd.jW | apply Kd.jX | apply Kd.kF)); exact Kd.fV jR.out (fun _ hk => ⟨hk.1, ⟨(by simp [Value.ownBlock]), ⟨hk.2.1, ⟨hk.2.2.1, hk.2.2.2⟩⟩⟩⟩)⟩, ⟨by first | exact Kd.jv _ _ _ _ _ | exact Kd.kV _ _ _ _ _ | exact Kd.jZ _ _ _ _ _ | exact Kd.kT _ _ _ _ _ | exact Kd.kU _ _ _ _ _⟩, ⟨bk_⟩, ⟨bk_⟩, ⟨bk_⟩, ⟨bl_⟩⟩
    case round =>
     clear H'; (try clear c1); (try clear c2); (try clear p2); (try clear c3); (try clear lW); (try clear oJ); (try clear c3b2); (try clear p3); (try clear q3); (try clear hx3); (try clear qi3); (try clear c6); (try clear c12); (try clear c13); (try clear c15); (try clear si); (try clear Ep); (try clear c16); (try clear c17); (try clear c19); (try clear FB); (try clear FC); (try clear c20); (try clear Az); (try clear MF); (try clear c21); (try clear Eu); (try clear c22); (try clear c23); (try clear c25); (try clear KJ); (try clear c26); (try clear c27); (try clear c29); (try clear c31); (try clear Fx); (try clear KM); (try clear c32); (try clear c33); (try clear c35); (try clear p35); (try clear q35); (try clear hx35); (try clear qi35); (try clear c36); (try clear Cz); (try clear NR); (try clear c37); (try clear Pp); (try clear c37b1); (try clear c39); (try clear q39); (try clear mg mh mi mo mq mr mD mE mF mG); (try clear oU oV xc xe xg oW oZ xh xk xm); (try clear DN DR DT DU); (try clear nK nL oL oM oN nM nN oO oP oQ); (try clear BP BQ BR BS); (try clear Gg Gh Gi Gj Gl Gm Gn Gp Gq Gr); (try clear EG EH H7 EI); (try clear xA); (try clear GX); (try clear p2); (try clear p3); (try clear p35); (try clear Ec); (try clear p358); (try clear q3); (try clear q35); (try clear Ed); (try clear q358); (try clear q39); obtain ⟨qM, vY, lM, jS, je, rfl, HA, HK2, pG, jR, iE, jb, iW, lU, HB⟩ := hrel; cases gk with
     | zero => exact absurd HA.out (by simp [bU.l0])
     | succ k2 =>
      have H := HA.out; clear HA; simp only [bU.l0] at H; by_cases c42 : vY < uD
      ·rw [if_pos c42] at H; have c42b0 : decide (vY < uD) = true := decide_eq_true c42; clear c42; replace H := Option.bind_eq_some_iff.mp H; obtain ⟨⟨t364, t365, t366, t367, t368⟩, A430, H⟩ := H; replace H : ((bU.f k2 t364 t365 t366 t367 t368 qM).bind fun FE => (if FE.2.2.2 = true then (if jS.length < 4398046511104 then (bU.l0 k2 FE.2.2.1 uD uD (wrap64 (vY + 1)) ak aG aH aD ag 0 (jS ++ [(⟨FE.1, FE.2.1⟩ : S31)])) else (none)) else (some (0, ([] : List (S31)), ([] : List Int), false)))) = some (r1, r2, r3, r4) := H; have A43 := aa.mk A430; clear A430; replace H := Option.bind_eq_some_iff.mp H; obtain ⟨⟨vZ, nR, t375, t378⟩, A440, H⟩ := H; replace H : (if t378 = true then (if jS.length < 4398046511104 then (bU.l0 k2 t375 uD uD (wrap64 (vY + 1)) ak aG aH aD ag 0 (jS ++ [(⟨vZ, nR⟩ : S31)])) else (none)) else (some (0, ([] : List (S31)), ([] : List Int), false))) = some (r1, r2, r3, r4) := H; have A44 := aa.mk A440; clear A440; by_cases c45 : t378 = true
       ·subst c45; have H1 : (if jS.length < 4398046511104 then (bU.l0 k2 t375 uD uD (wrap64 (vY + 1)) ak aG aH aD ag 0 (jS ++ [(⟨vZ, nR⟩ : S31)])) else (none)) = some (r1, r2, r3, r4) := by rw [if_pos rfl] at H; exact H
        clear H; have H := H1; clear H1; by_cases c46 : jS.length < 4398046511104
        ·rw [if_pos c46] at H; have LMc46 := aa.mk c46; clear c46; obtain ⟨y380, QG⟩ : ∃ y_ : List (S31), y_ = (jS ++ [(⟨vZ, nR⟩ : S31)]) := ⟨_, rfl⟩; replace H : (bU.l0 k2 t375 uD uD (wrap64 (vY + 1)) ak aG aH aD ag 0 y380) = some (r1, r2, r3, r4) := by first | (rw [QG]; with_reducible exact H) | (have H2_ := (Option.bind_some _ _).symm.trans H; rw [QG]; with_reducible exact H2_) | (have H2_ := (Option.bind_some _ _).symm.trans H; with_reducible exact H2_) | with_reducible exact H | (rw [QG]; exact H) | exact H
         have Ny380 := aa.mk QG; clear QG; have H' := aa.mk H; clear H; have hnb47 := mR.out; have hnc47 := mU.out; have hnb48 := rA.out; have hnc48 := uy.out; obtain ⟨NC, ND, NF, NG, NH, NI, NJ, NK, NL, NM⟩ := bQ jb.out; go_wp2_with (first | ((with_reducible refine aZ (f := 45) rfl ?_); refine cz (some 54) rfl rfl Try.func45 (by kernel_rfl) rfl #[.agg #[.int .i64 ak, .int .i64 aG, .int .i64 aH, .int .i64 aD, .slice bL ag.length bF], .int .i64 vY] rfl mp_ ?_; (with_reducible refine (ma.calls ak aG aH aD (fun k_ => (((lq k_ ∨ P1_ k_) ∨ w.heap.size ≤ k_) ∧ (some k_ ≠ (je : Value).ownBlock ∧ (k_ ≠ j6 ∧ (k_ ≠ fK ∧ k_ ≠ jc))))) _ _ ag vY t364 t365 t366 t367 t368 _ ?aX A43.out).mono ?_); (case aX => exact jR.out); rintro e w50 ⟨v369, rfl, ho0, hb⟩; refine ⟨_, rfl, ?_⟩; have uA := aa.mk (Kd.yK (Kd.fV (ok' := fun k_ => ((lq k_ ∨ P1_ k_) ∨ w.heap.size ≤ k_) ∧ some k_ ≠ (je : Value).ownBlock ∧ k_ ≠ j6 ∧ k_ ≠ fK ∧ k_ ≠ jc) ho0 (fun k_ hk_ => ⟨Or.elim hk_ (fun hs_ => hs_.1) (fun hn_ => (.inr (Nat.le_trans (aI bl_) hn_))), Or.elim hk_ (fun hs_ => hs_.2.1) (fun hn_ => (Kd.fresh' (Kd.ou (pR_ iE.out)) k_ hn_)), Or.elim hk_ (fun hs_ => hs_.2.2.1) (fun hn_ => (Kd.dY (g := j6) (o := .cells #[.int .i64 ak, .int .i64 aG, .int .i64 aH, .int .i64 aD, .slice bL ag.length bF] 27 (0, 0)) bk_ k_ hn_)), Or.elim hk_ (fun hs_ => hs_.2.2.2.1) (fun hn_ => (Kd.dY (g := fK) (o := .cells #[.int .i64 lM, .slice none 0 0] 31 (0, 0)) bk_ k_ hn_)), Or.elim hk_ (fun hs_ => hs_.2.2.2.2) (fun hn_ => (Kd.dY (g := jc) (o := .cells #[.int .i64 0, je] 31 (0, 0)) bk_ k_ hn_))⟩)) (aI bl_)); replace pG := aa.mk (Kd.iZ (pV_ pG.out) hb); replace jR := aa.mk (Kd.iZ (pV_ jR.out) hb); replace iE := aa.mk (Kd.dQ (pR_ iE.out) hb); replace jb := kb_ jb hb; replace iW := kb_ iW hb; replace lU := kb_ lU hb; replace HB := aa.mk (ay bl_ hb); (try clear hb); (try clear hb2); (try clear hk); (try clear hi); (try clear ho0); obtain ⟨Ao51, co51, eo51⟩ := Kd.wE uA.out; subst eo51; obtain ⟨Ao52, co52, eo52⟩ := Kd.wE pG.out; subst eo52) | ((with_reducible refine aZ (f := 32) rfl ?_); refine cz (some 56) rfl rfl Try.func32 (by kernel_rfl) rfl #[.agg #[.int .i64 t364, .int .i64 t365, .int .i64 t366, .int .i64 t367, .slice Ao51 t368.length co51], .slice Ao52 qM.length co52] rfl mp_ ?_; (with_reducible refine (ih k2 (by have := HJ7.out; have := HK2.out; omega) t364 t365 t366 t367 (fun k_ => (((lq k_ ∨ P1_ k_) ∨ w.heap.size ≤ k_) ∧ (some k_ ≠ (je : Value).ownBlock ∧ (k_ ≠ j6 ∧ (k_ ≠ fK ∧ k_ ≠ jc))))) _ _ t368 (fun k_ => (((lq k_ ∨ P1_ k_) ∨ w.heap.size ≤ k_) ∧ (some k_ ≠ (je : Value).ownBlock ∧ (k_ ≠ j6 ∧ (k_ ≠ fK ∧ k_ ≠ jc))))) _ _ qM vZ nR t375 true _ ?aX ?aY A44.out).mono ?_); (case aX => exact uA.out); (case aY => exact pG.out); rintro e w53 ⟨v373, v376, rfl, ho0, ho1, hb⟩; refine ⟨_, rfl, ?_⟩; have CO := aa.mk (Kd.gm (Kd.pX (Kd.pX (Kd.oH (Kd.R_newM (M := fun k_ => (w.heap.size ≤ k_)) (Kd.dn (ok' := fun k_ => True) ho0 (fun _ hk_ => trivial)) (aI bl_) (fun k_ h_ => h_)) (Kd.ou (pR_ iE.out))) (g := fK) (o := .cells #[.int .i64 lM, .slice none 0 0] 31 (0, 0)) bk_) (g := jc) (o := .cells #[.int .i64 0, je] 31 (0, 0)) bk_) (aI bl_)); have EA := aa.mk (Kd.yK (Kd.fV (ok' := fun k_ => ((lq k_ ∨ P1_ k_) ∨ w.heap.size ≤ k_) ∧ some k_ ≠ (v373 : Value).ownBlock ∧ some k_ ≠ (je : Value).ownBlock ∧ k_ ≠ j6 ∧ k_ ≠ fK ∧ k_ ≠ jc) ho1 (fun k_ hk_ => ⟨Or.elim hk_.1 (fun hs_ => Or.elim hs_ (fun hs_ => hs_.1) (fun hs_ => hs_.1)) (fun hn_ => (.inr (Nat.le_trans (aI bl_) hn_))), hk_.2, Or.elim hk_.1 (fun hs_ => Or.elim hs_ (fun hs_ => hs_.2.1) (fun hs_ => hs_.2.1)) (fun hn_ => (Kd.fresh' (Kd.ou (pR_ iE.out)) k_ hn_)), Or.elim hk_.1 (fun hs_ => Or.elim hs_ (fun hs_ => hs_.2.2.1) (fun hs_ => hs_.2.2.1)) (fun hn_ => (Kd.dY (g := j6) (o := .cells #[.int .i64 ak, .int .i64 aG, .int .i64 aH, .int .i64 aD, .slice bL ag.length bF] 27 (0, 0)) bk_ k_ hn_)), Or.elim hk_.1 (fun hs_ => Or.elim hs_ (fun hs_ => hs_.2.2.2.1) (fun hs_ => hs_.2.2.2.1)) (fun hn_ => (Kd.dY (g := fK) (o := .cells #[.int .i64 lM, .slice none 0 0] 31 (0, 0)) bk_ k_ hn_)), Or.elim hk_.1 (fun hs_ => Or.elim hs_ (fun hs_ => hs_.2.2.2.2) (fun hs_ => hs_.2.2.2.2)) (fun hn_ => (Kd.dY (g := jc) (o := .cells #[.int .i64 0, je] 31 (0, 0)) bk_ k_ hn_))⟩)) (aI bl_)); replace pG := aa.mk (Kd.xR (pV_ pG.out) (Kd.eZ ho0) hb); replace jR := aa.mk (Kd.xR (pV_ jR.out) (Kd.eZ ho0) hb); replace iE := aa.mk (Kd.mK (pR_ iE.out) (Kd.eZ ho0) hb); replace uA := aa.mk (Kd.xR (pV_ uA.out) (Kd.eZ ho0) hb); replace jb := kb_ jb hb; replace iW := kb_ iW hb; replace lU := kb_ lU hb; replace HB := aa.mk (ay bl_ hb); (try clear hb); (try clear hb2); (try clear hk); (try clear hi); (try clear ho0); (try clear ho1)) | ((with_reducible refine bu (N := 10) rfl ?_); refine bz ?hg (N := 10) ?hd (cs := #[.int .i64 0, .slice none 0 0]) (t := 31) ?hr ?_; (case hd => rfl); (case hg => rfl); (case hr => first | (go_simp; done) | (go_simp; rfl)); intro iT hg w54 aU hb; have KX := aa.mk (aU); have GW379 : aa (w.heap.size ≤ iT) := gw_ hg (aI bl_); have GE379 := GW379; have EU := nl_ jb hg; have LH := ng_ jb hg; have yD := nl_ iW hg; have LJ := ng_ iW hg; have EW := nl_ lU hg; have LK := ng_ lU hg; replace pG := aa.mk (Kd.iZ (Kd.jq (pV_ pG.out) iT (Nat.le_of_eq hg.symm)) hb); replace jR := aa.mk (Kd.iZ (Kd.jq (pV_ jR.out) iT (Nat.le_of_eq hg.symm)) hb); replace iE := aa.mk (Kd.dQ (Kd.lN (pR_ iE.out) iT (Nat.le_of_eq hg.symm)) hb); replace uA := aa.mk (Kd.iZ (Kd.jq (pV_ uA.out) iT (Nat.le_of_eq hg.symm)) hb); replace CO := aa.mk (Kd.dQ (Kd.lN (pR_ CO.out) iT (Nat.le_of_eq hg.symm)) hb); replace EA := aa.mk (Kd.iZ (Kd.jq (pV_ EA.out) iT (Nat.le_of_eq hg.symm)) hb); replace jb := kb_ jb hb; replace iW := kb_ iW hb; replace lU := kb_ lU hb; replace HB := aa.mk (ay bl_ hb); clear hb aU hg; have hnb55 := LH.out; have hnc55 := EU.out; have hnb56 := LJ.out; have hnc56 := yD.out; have hnb57 := LK.out; have hnc57 := EW.out; obtain ⟨hcz58_0, hcz58_1, hfz58_0, hfz58_1⟩ := iy KX.out; obtain ⟨uE, uF, eo59⟩ := Kd.fH CO.out; subst eo59) | ((with_reducible refine Xq (t := 31) (p := 10) rfl ?_); refine Uz (t := 31) (p := 10) (v := ?vo_w60) (w1 := ((w54.setCell ⟨iT, 0, none⟩ (.int .i64 vZ)).setCell ⟨iT, 1, none⟩ (.slice uE nR.length uF))) ?hg ?ho ?hn ?hr ?_; (case ho => rfl); (case hg => rfl); (case hn => rfl); (case hr => first | (go_simp; done) | (go_simp; rfl)); intro w60 hw; replace pG : aa (Kd.V (Kd.int .i64) 3 w60 w.heap.size (fun k_ => ((lq k_ ∨ P1_ k_) ∨ w.heap.size ≤ k_) ∧ some k_ ≠ (je : Value).ownBlock ∧ some k_ ≠ (.slice uE nR.length uF : Value).ownBlock ∧ k_ ≠ j6 ∧ k_ ≠ fK ∧ k_ ≠ jc ∧ k_ ≠ iT) (.slice Ao52 qM.length co52) qM) := ⟨(by rw [hw]; exact (by (with_reducible repeat (first | apply Kd.jW | apply Kd.jX | apply Kd.kF)); exact Kd.fV (Kd.kW (p := ⟨iT, 1, none⟩) (Kd.kW (p := ⟨iT, 0, none⟩) (Kd.fV pG.out (fun k_ hk => (⟨hk, by first | exact hk.2 | exact hk.1 | exact hk.2 | exact hk.1.1 | exact hk.1.2⟩ : _ ∧ k_ ≠ iT))) (fun _ hk => hk.2) (.int .i64 vZ)) (fun _ hk => hk.2) (.slice uE nR.length uF)) (fun _ hk => ⟨hk.1.1.1.1, ⟨hk.1.1.1.2.1, ⟨hk.1.1.2, ⟨hk.1.1.1.2.2.1, ⟨hk.1.1.1.2.2.2.1, ⟨hk.1.1.1.2.2.2.2, hk.1.2⟩⟩⟩⟩⟩⟩)))⟩; replace jR : aa (Kd.V k27 27 w60 w.heap.size (fun k_ => ((lq k_ ∨ P1_ k_) ∨ w.heap.size ≤ k_) ∧ some k_ ≠ (je : Value).ownBlock ∧ some k_ ≠ (.slice uE nR.length uF : Value).ownBlock ∧ k_ ≠ j6 ∧ k_ ≠ fK ∧ k_ ≠ jc ∧ k_ ≠ iT) (.slice bL ag.length bF) ag) := ⟨(by rw [hw]; exact (by (with_reducible repeat (first | apply Kd.jW | apply Kd.jX | apply Kd.kF)); exact Kd.fV (Kd.kW (p := ⟨iT, 1, none⟩) (Kd.kW (p := ⟨iT, 0, none⟩) (Kd.fV jR.out (fun k_ hk => (⟨hk, by first | exact hk.2 | exact hk.1 | exact hk.2 | exact hk.1.1 | exact hk.1.2⟩ : _ ∧ k_ ≠ iT))) (fun _ hk => hk.2) (.int .i64 vZ)) (fun _ hk => hk.2) (.slice uE nR.length uF)) (fun _ hk => ⟨hk.1.1.1.1, ⟨hk.1.1.1.2.1, ⟨hk.1.1.2, ⟨hk.1.1.1.2.2.1, ⟨hk.1.1.1.2.2.2.1, ⟨hk.1.1.1.2.2.2.2, hk.1.2⟩⟩⟩⟩⟩⟩)))⟩; replace iE : aa (Kd.R k31 31 w60 w.heap.size (fun k_ => (w.heap.size ≤ k_) ∧ some k_ ≠ (.slice uE nR.length uF : Value).ownBlock ∧ k_ ≠ fK ∧ k_ ≠ jc ∧ k_ ≠ iT) je jS) := ⟨(by rw [hw]; exact (by (with_reducible repeat (first | apply Kd.fQ | apply Kd.fT | apply Kd.fI)); exact Kd.dn (Kd.fB (p := ⟨iT, 1, none⟩) (Kd.fB (p := ⟨iT, 0, none⟩) (Kd.dn iE.out (fun k_ hk => (⟨hk, by first | exact hk.2 | exact hk.1 | exact hk.2 | exact hk.1.1 | exact hk.1.2⟩ : _ ∧ k_ ≠ iT))) (fun _ hk => hk.2) (.int .i64 vZ)) (fun _ hk => hk.2) (.slice uE nR.length uF)) (fun _ hk => ⟨hk.1.1.1.1, ⟨hk.1.1.2, ⟨hk.1.1.1.2.1, ⟨hk.1.1.1.2.2, hk.1.2⟩⟩⟩⟩)))⟩; replace uA : aa (Kd.V k27 27 w60 w.heap.size (fun k_ => ((lq k_ ∨ P1_ k_) ∨ w.heap.size ≤ k_) ∧ some k_ ≠ (je : Value).ownBlock ∧ some k_ ≠ (.slice uE nR.length uF : Value).ownBlock ∧ k_ ≠ j6 ∧ k_ ≠ fK ∧ k_ ≠ jc ∧ k_ ≠ iT) (.slice Ao51 t368.length co51) t368) := ⟨(by rw [hw]; exact (by (with_reducible repeat (first | apply Kd.jW | apply Kd.jX | apply Kd.kF)); exact Kd.fV (Kd.kW (p := ⟨iT, 1, none⟩) (Kd.kW (p := ⟨iT, 0, none⟩) (Kd.fV uA.out (fun k_ hk => (⟨hk, by first | exact hk.2 | exact hk.1 | exact hk.2 | exact hk.1.1 | exact hk.1.2⟩ : _ ∧ k_ ≠ iT))) (fun _ hk => hk.2) (.int .i64 vZ)) (fun _ hk => hk.2) (.slice uE nR.length uF)) (fun _ hk => ⟨hk.1.1.1.1, ⟨hk.1.1.1.2.1, ⟨hk.1.1.2, ⟨hk.1.1.1.2.2.1, ⟨hk.1.1.1.2.2.2.1, ⟨hk.1.1.1.2.2.2.2, hk.1.2⟩⟩⟩⟩⟩⟩)))⟩; replace CO : aa (Kd.R k31 31 w60 w.heap.size (fun k_ => (w.heap.size ≤ k_) ∧ some k_ ≠ (je : Value).ownBlock ∧ k_ ≠ fK ∧ k_ ≠ jc ∧ k_ ≠ iT) (.slice uE nR.length uF) nR) := ⟨(by rw [hw]; exact (by (with_reducible repeat (first | apply Kd.fQ | apply Kd.fT | apply Kd.fI)); exact Kd.dn (Kd.fB (p := ⟨iT, 1, none⟩) (Kd.fB (p := ⟨iT, 0, none⟩) (Kd.dn CO.out (fun k_ hk => (⟨hk, by first | exact hk.2 | exact hk.1 | exact hk.2 | exact hk.1.1 | exact hk.1.2⟩ : _ ∧ k_ ≠ iT))) (fun _ hk => hk.2) (.int .i64 vZ)) (fun _ hk => hk.2) (.slice uE nR.length uF)) (fun _ hk => ⟨hk.1.1.1.1.1.1, ⟨hk.1.1.1.1.2, ⟨hk.1.1.1.2, ⟨hk.1.1.2, hk.1.2⟩⟩⟩⟩)))⟩; replace EA : aa (Kd.V (Kd.int .i64) 3 w60 w.heap.size (fun k_ => ((lq k_ ∨ P1_ k_) ∨ w.heap.size ≤ k_) ∧ some k_ ≠ (je : Value).ownBlock ∧ some k_ ≠ (.slice uE nR.length uF : Value).ownBlock ∧ k_ ≠ j6 ∧ k_ ≠ fK ∧ k_ ≠ jc ∧ k_ ≠ iT) v376 t375) := ⟨(by rw [hw]; exact (by (with_reducible repeat (first | apply Kd.jW | apply Kd.jX | apply Kd.kF)); exact Kd.fV (Kd.kW (p := ⟨iT, 1, none⟩) (Kd.kW (p := ⟨iT, 0, none⟩) (Kd.fV EA.out (fun k_ hk => (⟨hk, by first | exact hk.2 | exact hk.1 | exact hk.2 | exact hk.1.1 | exact hk.1.2⟩ : _ ∧ k_ ≠ iT))) (fun _ hk => hk.2) (.int .i64 vZ)) (fun _ hk => hk.2) (.slice uE nR.length uF)) (fun _ hk => ⟨hk.1.1.1, ⟨hk.1.1.2.2.1, ⟨hk.1.1.2.1, ⟨hk.1.1.2.2.2.1, ⟨hk.1.1.2.2.2.2.1, ⟨hk.1.1.2.2.2.2.2, hk.1.2⟩⟩⟩⟩⟩⟩)))⟩; replace jb : aa (w60.heap[j6]? = some (.cells #[.int .i64 ak, .int .i64 aG, .int .i64 aH, .int .i64 aD, .slice bL ag.length bF] 27 (0, 0))) := ⟨(by rw [hw]; exact (by (with_reducible repeat (first | refine ah ?_ _ | refine ai ?_ | refine af ?_ _)); refine aQ ?_ EU.out _; (with_reducible repeat (first | refine ah ?_ _ | refine ai ?_ | refine af ?_ _)); refine aQ ?_ EU.out _; (with_reducible repeat (first | refine ah ?_ _ | refine ai ?_ | refine af ?_ _)); exact jb.out))⟩; replace iW : aa (w60.heap[fK]? = some (.cells #[.int .i64 lM, .slice none 0 0] 31 (0, 0))) := ⟨(by rw [hw]; exact (by (with_reducible repeat (first | refine ah ?_ _ | refine ai ?_ | refine af ?_ _)); refine aQ ?_ yD.out _; (with_reducible repeat (first | refine ah ?_ _ | refine ai ?_ | refine af ?_ _)); refine aQ ?_ yD.out _; (with_reducible repeat (first | refine ah ?_ _ | refine ai ?_ | refine af ?_ _)); exact iW.out))⟩; replace lU : aa (w60.heap[jc]? = some (.cells #[.int .i64 0, je] 31 (0, 0))) := ⟨(by rw [hw]; exact (by (with_reducible repeat (first | refine ah ?_ _ | refine ai ?_ | refine af ?_ _)); refine aQ ?_ EW.out _; (with_reducible repeat (first | refine ah ?_ _ | refine ai ?_ | refine af ?_ _)); refine aQ ?_ EW.out _; (with_reducible repeat (first | refine ah ?_ _ | refine ai ?_ | refine af ?_ _)); exact lU.out))⟩; replace KX : aa (w60.heap[iT]? = some (.cells #[.int .i64 vZ, .slice uE nR.length uF] 31 (0, 0))) := ⟨(by rw [hw]; exact (by (with_reducible repeat (first | refine ah ?_ _ | refine ai ?_ | refine af ?_ _)); refine aW (cs := #[.int .i64 vZ, .slice none 0 0]) ?_ 1 _ rfl; (with_reducible repeat (first | refine ah ?_ _ | refine ai ?_ | refine af ?_ _)); refine aW (cs := #[.int .i64 0, .slice none 0 0]) ?_ 0 _ rfl; (with_reducible repeat (first | refine ah ?_ _ | refine ai ?_ | refine af ?_ _)); exact KX.out))⟩; replace HB : aa (Below w.heap.size w w60) := ⟨(by rw [hw]; exact bl_)⟩; clear hw; have hnb61 := uz.out; have hnc61 := rC.out; obtain ⟨Df, Dg, Dh, Di⟩ := iy lU.out; obtain ⟨hcz63_0, hcz63_1, hfz63_0, hfz63_1⟩ := iy KX.out) | ((with_reducible refine xQ (b := .append) (xs := #[.tmp 64, .tmp 66]) rfl ?_); at_builtin; refine Kd.TN k31 (w0 := w) w.heap.size rfl (.tmp 64) (.tmp 66) 29 31 (.agg #[(.int .i64 0), (.slice none 0 0)]) 32 rfl Try.underlying29 Jf rfl (by decide) (by omega) je jS (⟨vZ, nR⟩ : S31) [.int .i64 vZ, .slice uE nR.length uF] (fun k_ => (w.heap.size ≤ k_) ∧ k_ ≠ fK ∧ k_ ≠ jc ∧ k_ ≠ iT) (fun k_ => ((fun k_ => (w.heap.size ≤ k_) ∧ k_ ≠ fK ∧ k_ ≠ jc ∧ k_ ≠ iT)) k_ ∧ some k_ ≠ (je : Value).ownBlock) rfl rfl ?aP (fun _ hk => hk) ?aF ?aO ?aB ?aS ?aL ?_; (case aP => exact Bh _ _ _ (⟨vZ, nR⟩ : S31) (Kd.dn (CO.out) (fun k_ hk => ⟨⟨hk.1, ⟨hk.2.2.1, ⟨hk.2.2.2.1, hk.2.2.2.2⟩⟩⟩, hk.2.1⟩))); (case aB => exact bl_); (case aF => exact (fun k_ hk => ⟨(Nat.le_trans (aI bl_) hk), Kd.dY (g := fK) (o := .cells #[.int .i64 lM, .slice none 0 0] 31 (0, 0)) bk_ k_ hk, Kd.dY (g := jc) (o := .cells #[.int .i64 0, je] 31 (0, 0)) bk_ k_ hk, Kd.dY (g := iT) (o := .cells #[.int .i64 vZ, .slice uE nR.length uF] 31 (0, 0)) bk_ k_ hk⟩)); (case aO => exact (by (with_reducible repeat (first | apply Kd.fQ | apply Kd.fT | apply Kd.fI)); exact Kd.dn iE.out (fun _ hk => ⟨hk.1, ⟨hk.2.2.1, ⟨hk.2.2.2.1, hk.2.2.2.2⟩⟩⟩))); (case aS => exact (aI bl_)); (case aL => have := LMc46.out; omega); intro v381 w64 ho hb hg hat; rw [← Ny380.out] at ho; have HO382 := aa.mk (ho); replace pG := aa.mk (Kd.KA (ok := (fun k_ => ((lq k_ ∨ P1_ k_) ∨ w.heap.size ≤ k_) ∧ some k_ ≠ (.slice uE nR.length uF : Value).ownBlock ∧ k_ ≠ j6 ∧ k_ ≠ fK ∧ k_ ≠ jc ∧ k_ ≠ iT)) (by (with_reducible repeat (first | apply Kd.jW | apply Kd.jX | apply Kd.kF)); exact Kd.fV pG.out (fun _ hk => ⟨⟨hk.1, ⟨hk.2.2.1, ⟨hk.2.2.2.1, ⟨hk.2.2.2.2.1, ⟨hk.2.2.2.2.2.1, hk.2.2.2.2.2.2⟩⟩⟩⟩⟩, hk.2.1⟩)) hg hat); replace jR := aa.mk (Kd.KA (ok := (fun k_ => ((lq k_ ∨ P1_ k_) ∨ w.heap.size ≤ k_) ∧ some k_ ≠ (.slice uE nR.length uF : Value).ownBlock ∧ k_ ≠ j6 ∧ k_ ≠ fK ∧ k_ ≠ jc ∧ k_ ≠ iT)) (by (with_reducible repeat (first | apply Kd.jW | apply Kd.jX | apply Kd.kF)); exact Kd.fV jR.out (fun _ hk => ⟨⟨hk.1, ⟨hk.2.2.1, ⟨hk.2.2.2.1, ⟨hk.2.2.2.2.1, ⟨hk.2.2.2.2.2.1, hk.2.2.2.2.2.2⟩⟩⟩⟩⟩, hk.2.1⟩)) hg hat); replace jb := aa.mk (iq (g := j6) (o := .cells #[.int .i64 ak, .int .i64 aG, .int .i64 aH, .int .i64 aD, .slice bL ag.length bF] 27 (0, 0)) bk_ hg (Kd.xB iE.out jb.out (by decide))); replace iW := aa.mk (iq (g := fK) (o := .cells #[.int .i64 lM, .slice none 0 0] 31 (0, 0)) bk_ hg (Kd.xM iE.out (fun _ hk => hk.2.2.1))); replace lU := aa.mk (iq (g := jc) (o := .cells #[.int .i64 0, je] 31 (0, 0)) bk_ hg (Kd.xM iE.out (fun _ hk => hk.2.2.2.1))); replace uA := aa.mk (Kd.KA (ok := (fun k_ => ((lq k_ ∨ P1_ k_) ∨ w.heap.size ≤ k_) ∧ some k_ ≠ (.slice uE nR.length uF : Value).ownBlock ∧ k_ ≠ j6 ∧ k_ ≠ fK ∧ k_ ≠ jc ∧ k_ ≠ iT)) (by (with_reducible repeat (first | apply Kd.jW | apply Kd.jX | apply Kd.kF)); exact Kd.fV uA.out (fun _ hk => ⟨⟨hk.1, ⟨hk.2.2.1, ⟨hk.2.2.2.1, ⟨hk.2.2.2.2.1, ⟨hk.2.2.2.2.2.1, hk.2.2.2.2.2.2⟩⟩⟩⟩⟩, hk.2.1⟩)) hg hat); replace EA := aa.mk (Kd.KA (ok := (fun k_ => ((lq k_ ∨ P1_ k_) ∨ w.heap.size ≤ k_) ∧ some k_ ≠ (.slice uE nR.length uF : Value).ownBlock ∧ k_ ≠ j6 ∧ k_ ≠ fK ∧ k_ ≠ jc ∧ k_ ≠ iT)) (by (with_reducible repeat (first | apply Kd.jW | apply Kd.jX | apply Kd.kF)); exact Kd.fV EA.out (fun _ hk => ⟨⟨hk.1, ⟨hk.2.2.1, ⟨hk.2.2.2.1, ⟨hk.2.2.2.2.1, ⟨hk.2.2.2.2.2.1, hk.2.2.2.2.2.2⟩⟩⟩⟩⟩, hk.2.1⟩)) hg hat); replace KX := aa.mk (iq (g := iT) (o := .cells #[.int .i64 vZ, .slice uE nR.length uF] 31 (0, 0)) bk_ hg (Kd.xM iE.out (fun _ hk => hk.2.2.2.2))); replace HB := aa.mk (hb); clear iE CO; clear ho hb hg hat; obtain ⟨Ao65, co65, eo65⟩ := Kd.fH HO382.out; subst eo65; obtain ⟨JE, JF, JG, JH⟩ := iy lU.out))
         go_roundg k2
         case measure => have := HJ7.out; have := HK2.out; omega
         case rel => exact ⟨(t375), (wrap64 (vY + 1)), (lM), (y380), (.slice Ao65 y380.length co65), rs_, H', ⟨by have := HJ7.out; have := HK2.out; omega⟩, ⟨by (with_reducible repeat (first | apply Kd.jW | apply Kd.jX | apply Kd.kF)); exact Kd.fV (Kd.kW (p := ⟨jc, 1, none⟩) (Kd.fV EA.out (fun k_ hk => (⟨hk, by first | exact hk.1.2.2.2.2.1 | exact hk.1 | exact hk.2 | exact hk.1.1 | exact hk.1.2⟩ : _ ∧ k_ ≠ jc))) (fun _ hk => hk.2) (.slice Ao65 y380.length co65)) (fun _ hk => ⟨hk.1.1.1, ⟨hk.1.2, ⟨hk.1.1.2.2.1, ⟨hk.1.1.2.2.2.1, hk.1.1.2.2.2.2.1⟩⟩⟩⟩)⟩, ⟨by (with_reducible repeat (first | apply Kd.jW | apply Kd.jX | apply Kd.kF)); exact Kd.fV (Kd.kW (p := ⟨jc, 1, none⟩) (Kd.fV jR.out (fun k_ hk => (⟨hk, by first | exact hk.1.2.2.2.2.1 | exact hk.1 | exact hk.2 | exact hk.1.1 | exact hk.1.2⟩ : _ ∧ k_ ≠ jc))) (fun _ hk => hk.2) (.slice Ao65 y380.length co65)) (fun _ hk => ⟨hk.1.1.1, ⟨hk.1.2, ⟨hk.1.1.2.2.1, ⟨hk.1.1.2.2.2.1, hk.1.1.2.2.2.2.1⟩⟩⟩⟩)⟩, ⟨by (with_reducible repeat (first | apply Kd.fQ | apply Kd.fT | apply Kd.fI)); exact Kd.dn (Kd.fB (p := ⟨jc, 1, none⟩) (Kd.dn HO382.out (fun k_ hk => (⟨hk, by first | exact hk.2.2.1 | exact hk.1 | exact hk.2 | exact hk.1.1 | exact hk.1.2⟩ : _ ∧ k_ ≠ jc))) (fun _ hk => hk.2) (.slice Ao65 y380.length co65)) (fun _ hk => ⟨hk.1.1, ⟨hk.1.2.1, hk.1.2.2.1⟩⟩)⟩, ⟨by (with_reducible repeat (first | refine ah ?_ _ | refine ai ?_ | refine af ?_ _)); refine aQ ?_ rA.out _; (with_reducible repeat (first | refine ah ?_ _ | refine ai ?_ | refine af ?_ _)); exact jb.out⟩, ⟨by (with_reducible repeat (first | refine ah ?_ _ | refine ai ?_ | refine af ?_ _)); refine aQ ?_ rC.out _; (with_reducible repeat (first | refine ah ?_ _ | refine ai ?_ | refine af ?_ _)); exact iW.out⟩, ⟨by (with_reducible repeat (first | refine ah ?_ _ | refine ai ?_ | refine af ?_ _)); refine aW (cs := #[.int .i64 0, je]) ?_ 1 _ rfl; (with_reducible repeat (first | refine ah ?_ _ | refine ai ?_ | refine af ?_ _)); exact lU.out⟩, ⟨bl_⟩⟩
        ·rw [if_neg c46] at H; exact absurd H (by simp)
       ·replace c45 := Bool.eq_false_iff.mpr c45; subst c45; have H1 : (some (0, ([] : List (S31)), ([] : List Int), false)) = some (r1, r2, r3, r4) := by rw [if_neg (show ¬ (false = true) by decide)] at H; exact H
        clear H; have H := H1; clear H1; simp only [Option.some.injEq, Prod.mk.injEq] at H; obtain ⟨rfl, rfl, rfl, rfl⟩ := H; have hnb67 := mR.out; have hnc67 := mU.out; have hnb68 := rA.out; have hnc68 := uy.out; obtain ⟨Mv, Mw, U1, U2, U3, Mx, MB, U4, U5, U6⟩ := bQ jb.out; go_wp2_with (first | ((with_reducible refine aZ (f := 45) rfl ?_); refine cz (some 54) rfl rfl Try.func45 (by kernel_rfl) rfl #[.agg #[.int .i64 ak, .int .i64 aG, .int .i64 aH, .int .i64 aD, .slice bL ag.length bF], .int .i64 vY] rfl mp_ ?_; (with_reducible refine (ma.calls ak aG aH aD (fun k_ => (((lq k_ ∨ P1_ k_) ∨ w.heap.size ≤ k_) ∧ (some k_ ≠ (je : Value).ownBlock ∧ (k_ ≠ j6 ∧ (k_ ≠ fK ∧ k_ ≠ jc))))) _ _ ag vY t364 t365 t366 t367 t368 _ ?aX A43.out).mono ?_); (case aX => exact jR.out); rintro e w70 ⟨v369, rfl, ho0, hb⟩; refine ⟨_, rfl, ?_⟩; have uA := aa.mk (Kd.yK (Kd.fV (ok' := fun k_ => ((lq k_ ∨ P1_ k_) ∨ w.heap.size ≤ k_) ∧ some k_ ≠ (je : Value).ownBlock ∧ k_ ≠ j6 ∧ k_ ≠ fK ∧ k_ ≠ jc) ho0 (fun k_ hk_ => ⟨Or.elim hk_ (fun hs_ => hs_.1) (fun hn_ => (.inr (Nat.le_trans (aI bl_) hn_))), Or.elim hk_ (fun hs_ => hs_.2.1) (fun hn_ => (Kd.fresh' (Kd.ou (pR_ iE.out)) k_ hn_)), Or.elim hk_ (fun hs_ => hs_.2.2.1) (fun hn_ => (Kd.dY (g := j6) (o := .cells #[.int .i64 ak, .int .i64 aG, .int .i64 aH, .int .i64 aD, .slice bL ag.length bF] 27 (0, 0)) bk_ k_ hn_)), Or.elim hk_ (fun hs_ => hs_.2.2.2.1) (fun hn_ => (Kd.dY (g := fK) (o := .cells #[.int .i64 lM, .slice none 0 0] 31 (0, 0)) bk_ k_ hn_)), Or.elim hk_ (fun hs_ => hs_.2.2.2.2) (fun hn_ => (Kd.dY (g := jc) (o := .cells #[.int .i64 0, je] 31 (0, 0)) bk_ k_ hn_))⟩)) (aI bl_)); replace pG := aa.mk (Kd.iZ (pV_ pG.out) hb); replace jR := aa.mk (Kd.iZ (pV_ jR.out) hb); replace iE := aa.mk (Kd.dQ (pR_ iE.out) hb); replace jb := kb_ jb hb; replace iW := kb_ iW hb; replace lU := kb_ lU hb; replace HB := aa.mk (ay bl_ hb); (try clear hb); (try clear hb2); (try clear hk); (try clear hi); (try clear ho0); obtain ⟨Ao71, co71, eo71⟩ := Kd.wE uA.out; subst eo71; obtain ⟨Ao72, co72, eo72⟩ := Kd.wE pG.out; subst eo72) | ((with_reducible refine aZ (f := 32) rfl ?_); refine cz (some 56) rfl rfl Try.func32 (by kernel_rfl) rfl #[.agg #[.int .i64 t364, .int .i64 t365, .int .i64 t366, .int .i64 t367, .slice Ao71 t368.length co71], .slice Ao72 qM.length co72] rfl mp_ ?_; (with_reducible refine (ih k2 (by have := HJ7.out; have := HK2.out; omega) t364 t365 t366 t367 (fun k_ => (((lq k_ ∨ P1_ k_) ∨ w.heap.size ≤ k_) ∧ (some k_ ≠ (je : Value).ownBlock ∧ (k_ ≠ j6 ∧ (k_ ≠ fK ∧ k_ ≠ jc))))) _ _ t368 (fun k_ => (((lq k_ ∨ P1_ k_) ∨ w.heap.size ≤ k_) ∧ (some k_ ≠ (je : Value).ownBlock ∧ (k_ ≠ j6 ∧ (k_ ≠ fK ∧ k_ ≠ jc))))) _ _ qM vZ nR t375 false _ ?aX ?aY A44.out).mono ?_); (case aX => exact uA.out); (case aY => exact pG.out); rintro e w73 ⟨v373, v376, rfl, ho0, ho1, hb⟩; refine ⟨_, rfl, ?_⟩; have CO := aa.mk (Kd.gm (Kd.pX (Kd.pX (Kd.oH (Kd.R_newM (M := fun k_ => (w.heap.size ≤ k_)) (Kd.dn (ok' := fun k_ => True) ho0 (fun _ hk_ => trivial)) (aI bl_) (fun k_ h_ => h_)) (Kd.ou (pR_ iE.out))) (g := fK) (o := .cells #[.int .i64 lM, .slice none 0 0] 31 (0, 0)) bk_) (g := jc) (o := .cells #[.int .i64 0, je] 31 (0, 0)) bk_) (aI bl_)); have EA := aa.mk (Kd.yK (Kd.fV (ok' := fun k_ => ((lq k_ ∨ P1_ k_) ∨ w.heap.size ≤ k_) ∧ some k_ ≠ (v373 : Value).ownBlock ∧ some k_ ≠ (je : Value).ownBlock ∧ k_ ≠ j6 ∧ k_ ≠ fK ∧ k_ ≠ jc) ho1 (fun k_ hk_ => ⟨Or.elim hk_.1 (fun hs_ => Or.elim hs_ (fun hs_ => hs_.1) (fun hs_ => hs_.1)) (fun hn_ => (.inr (Nat.le_trans (aI bl_) hn_))), hk_.2, Or.elim hk_.1 (fun hs_ => Or.elim hs_ (fun hs_ => hs_.2.1) (fun hs_ => hs_.2.1)) (fun hn_ => (Kd.fresh' (Kd.ou (pR_ iE.out)) k_ hn_)), Or.elim hk_.1 (fun hs_ => Or.elim hs_ (fun hs_ => hs_.2.2.1) (fun hs_ => hs_.2.2.1)) (fun hn_ => (Kd.dY (g := j6) (o := .cells #[.int .i64 ak, .int .i64 aG, .int .i64 aH, .int .i64 aD, .slice bL ag.length bF] 27 (0, 0)) bk_ k_ hn_)), Or.elim hk_.1 (fun hs_ => Or.elim hs_ (fun hs_ => hs_.2.2.2.1) (fun hs_ => hs_.2.2.2.1)) (fun hn_ => (Kd.dY (g := fK) (o := .cells #[.int .i64 lM, .slice none 0 0] 31 (0, 0)) bk_ k_ hn_)), Or.elim hk_.1 (fun hs_ => Or.elim hs_ (fun hs_ => hs_.2.2.2.2) (fun hs_ => hs_.2.2.2.2)) (fun hn_ => (Kd.dY (g := jc) (o := .cells #[.int .i64 0, je] 31 (0, 0)) bk_ k_ hn_))⟩)) (aI bl_)); replace pG := aa.mk (Kd.xR (pV_ pG.out) (Kd.eZ ho0) hb); replace jR := aa.mk (Kd.xR (pV_ jR.out) (Kd.eZ ho0) hb); replace iE := aa.mk (Kd.mK (pR_ iE.out) (Kd.eZ ho0) hb); replace uA := aa.mk (Kd.xR (pV_ uA.out) (Kd.eZ ho0) hb); replace jb := kb_ jb hb; replace iW := kb_ iW hb; replace lU := kb_ lU hb; replace HB := aa.mk (ay bl_ hb); (try clear hb); (try clear hb2); (try clear hk); (try clear hi); (try clear ho0); (try clear ho1)) | ((with_reducible refine bu (N := 10) rfl ?_); refine bz ?hg (N := 10) ?hd (cs := #[.int .i64 0, .slice none 0 0]) (t := 31) ?hr ?_; (case hd => rfl); (case hg => rfl); (case hr => first | (go_simp; done) | (go_simp; rfl)); intro iT hg w74 aU hb; have KX := aa.mk (aU); have GW379 : aa (w.heap.size ≤ iT) := gw_ hg (aI bl_); have GE379 := GW379; have EU := nl_ jb hg; have LH := ng_ jb hg; have yD := nl_ iW hg; have LJ := ng_ iW hg; have EW := nl_ lU hg; have LK := ng_ lU hg; replace pG := aa.mk (Kd.iZ (Kd.jq (pV_ pG.out) iT (Nat.le_of_eq hg.symm)) hb); replace jR := aa.mk (Kd.iZ (Kd.jq (pV_ jR.out) iT (Nat.le_of_eq hg.symm)) hb); replace iE := aa.mk (Kd.dQ (Kd.lN (pR_ iE.out) iT (Nat.le_of_eq hg.symm)) hb); replace uA := aa.mk (Kd.iZ (Kd.jq (pV_ uA.out) iT (Nat.le_of_eq hg.symm)) hb); replace CO := aa.mk (Kd.dQ (Kd.lN (pR_ CO.out) iT (Nat.le_of_eq hg.symm)) hb); replace EA := aa.mk (Kd.iZ (Kd.jq (pV_ EA.out) iT (Nat.le_of_eq hg.symm)) hb); replace jb := kb_ jb hb; replace iW := kb_ iW hb; replace lU := kb_ lU hb; replace HB := aa.mk (ay bl_ hb); clear hb aU hg; have hnb75 := LH.out; have hnc75 := EU.out; have hnb76 := LJ.out; have hnc76 := yD.out; have hnb77 := LK.out; have hnc77 := EW.out; obtain ⟨VO, VP, VQ, VR⟩ := iy KX.out; obtain ⟨Ao79, co79, eo79⟩ := Kd.fH CO.out; subst eo79; have hnb80 := rC.out; have hnc80 := uz.out; obtain ⟨hcz81_0, hcz81_1, hfz81_0, hfz81_1⟩ := iy iW.out))
        refine bodyPost_ret (ry rfl _ _ fK 31 #[.int .i64 0, .slice none 0 0] (0, 0) _ rfl (by (with_reducible repeat (first | refine ah ?_ _ | refine ai ?_ | refine af ?_ _)); refine aW (cs := #[.int .i64 0, .slice none 0 0]) ?_ 1 _ rfl; (with_reducible repeat (first | refine ah ?_ _ | refine ai ?_ | refine af ?_ _)); refine aW (cs := #[.int .i64 lM, .slice none 0 0]) ?_ 0 _ rfl; (with_reducible repeat (first | refine ah ?_ _ | refine ai ?_ | refine af ?_ _)); refine aQ ?_ yD.out _; (with_reducible repeat (first | refine ah ?_ _ | refine ai ?_ | refine af ?_ _)); refine aQ ?_ yD.out _; (with_reducible repeat (first | refine ah ?_ _ | refine ai ?_ | refine af ?_ _)); exact iW.out) Try.underlying31 rfl (by kernel_rfl)) rfl ?_
        exact ⟨_, _, re_, by first | exact Kd.jv _ _ _ _ _ | exact Kd.kV _ _ _ _ _ | exact Kd.jZ _ _ _ _ _ | exact Kd.kT _ _ _ _ _ | exact Kd.kU _ _ _ _ _, (by first | exact Kd.jZ _ _ _ _ _ | exact Kd.fV (Kd.R_V (by first | exact Kd.jv _ _ _ _ _ | exact Kd.kV _ _ _ _ _ | exact Kd.jZ _ _ _ _ _ | exact Kd.kT _ _ _ _ _ | exact Kd.kU _ _ _ _ _)) (fun k_ hk => by first | exact ⟨(.inr (hk.1)), hk.2⟩ | exact (.inr (hk)))), bl_⟩
      ·rw [if_neg c42] at H; have c42b0 : decide (vY < uD) = false := decide_eq_false c42; clear c42; by_cases c82 : ak = 6
       ·rw [if_pos c82] at H; have c82b0 : (ak == 6) = true := beq_iff_eq.mpr c82; have c82b1 : (ak != 6) = false := bne_eq_false_iff_eq.mpr c82; clear c82; by_cases c83 : (qM.length : Int) < (wrap64 (aD - uD))
        ·rw [if_pos c83] at H; have c83b0 : decide ((qM.length : Int) < (wrap64 (aD - uD))) = true := decide_eq_true c83; clear c83; simp only [Option.some.injEq, Prod.mk.injEq] at H; obtain ⟨rfl, rfl, rfl, rfl⟩ := H; have hnb84 := mR.out; have hnc84 := mU.out; have hnb85 := rA.out; have hnc85 := uy.out; obtain ⟨hcz86_0, hcz86_1, hcz86_2, hcz86_3, hcz86_4, hfz86_0, hfz86_1, hfz86_2, hfz86_3, hfz86_4⟩ := bQ jb.out; obtain ⟨Ao87, co87, eo87⟩ := Kd.wE pG.out; subst eo87; have hnb88 := rC.out; have hnc88 := uz.out; obtain ⟨hcz89_0, hcz89_1, hfz89_0, hfz89_1⟩ := iy iW.out; go_wp2; refine bodyPost_ret (ry rfl _ _ fK 31 #[.int .i64 0, .slice none 0 0] (0, 0) _ rfl (by (with_reducible repeat (first | refine ah ?_ _ | refine ai ?_ | refine af ?_ _)); refine aW (cs := #[.int .i64 0, .slice none 0 0]) ?_ 1 _ rfl; (with_reducible repeat (first | refine ah ?_ _ | refine ai ?_ | refine af ?_ _)); refine aW (cs := #[.int .i64 lM, .slice none 0 0]) ?_ 0 _ rfl; (with_reducible repeat (first | refine ah ?_ _ | refine ai ?_ | refine af ?_ _)); exact iW.out) Try.underlying31 rfl (by kernel_rfl)) rfl ?_
         exact ⟨_, _, re_, by first | exact Kd.jv _ _ _ _ _ | exact Kd.kV _ _ _ _ _ | exact Kd.jZ _ _ _ _ _ | exact Kd.kT _ _ _ _ _ | exact Kd.kU _ _ _ _ _, (by first | exact Kd.jZ _ _ _ _ _ | exact Kd.fV (Kd.R_V (by first | exact Kd.jv _ _ _ _ _ | exact Kd.kV _ _ _ _ _ | exact Kd.jZ _ _ _ _ _ | exact Kd.kT _ _ _ _ _ | exact Kd.kU _ _ _ _ _)) (fun k_ hk => by first | exact ⟨(.inr (hk.1)), hk.2⟩ | exact (.inr (hk)))), bl_⟩
        ·rw [if_neg c83] at H; have c83b0 : decide ((qM.length : Int) < (wrap64 (aD - uD))) = false := decide_eq_false c83; clear c83; obtain ⟨xC, QH⟩ : ∃ j_ : Int, (wrap64 (aD - uD)) = j_ := ⟨_, rfl⟩; replace H : (if 0 ≤ (xC) then (if (xC) ≤ (qM.length : Int) then (some (0, jS, (qM.drop ((xC) : Int).toNat), true)) else (none)) else (none)) = some (r1, r2, r3, r4) := by first | (rw [QH] at H; exact H) | (simp only [QH] at H ⊢; exact H)
         (try rw [QH] at c83b0)
         have hji90w : (IntKind.i64.wrap (aD - uD)) = xC := (eQ _).trans QH; by_cases c91 : 0 ≤ (xC)
         ·rw [if_pos c91] at H; have c91b0 := eq_true c91; have c91b1 : decide (0 ≤ (xC)) = true := decide_eq_true c91; clear c91; by_cases c92 : (xC) ≤ (qM.length : Int)
          ·rw [if_pos c92] at H; have c92b0 := eq_true c92; have c92b1 : decide ((xC) ≤ (qM.length : Int)) = true := decide_eq_true c92; clear c92; obtain ⟨y383, QI⟩ : ∃ y_ : List Int, y_ = (qM.drop ((xC) : Int).toNat) := ⟨_, rfl⟩; replace H : (some (0, jS, y383, true)) = some (r1, r2, r3, r4) := by first | (rw [QI]; with_reducible exact H) | (have H2_ := (Option.bind_some _ _).symm.trans H; rw [QI]; with_reducible exact H2_) | (have H2_ := (Option.bind_some _ _).symm.trans H; with_reducible exact H2_) | with_reducible exact H | (rw [QI]; exact H) | exact H
           have Ny383 := aa.mk QI; clear QI; simp only [Option.some.injEq, Prod.mk.injEq] at H; obtain ⟨rfl, rfl, rfl, rfl⟩ := H; have hnb93 := mR.out; have hnc93 := mU.out; have hnb94 := rA.out; have hnc94 := uy.out; obtain ⟨hcz95_0, hcz95_1, hcz95_2, hcz95_3, hcz95_4, hfz95_0, hfz95_1, hfz95_2, hfz95_3, hfz95_4⟩ := bQ jb.out; obtain ⟨Ao96, co96, eo96⟩ := Kd.wE pG.out; subst eo96; have q97 : ((xC) : Int) ≤ ((qM.length : Int) : Int) := dt_; obtain ⟨i097, hi097, _, hsz97, _⟩ := info_parts info3; have N9 : qM.length ≤ co96 := (Kd.qK pG.out).2.1; have hC97 : Kd.F (Kd.int .i64) _ _ Ao96 qM.length qM := (Kd.V_at (base := w.heap.size) pG.out).2.2; have q097 : (0 : Int) ≤ ((xC) : Int) := dt_; have hcut97 := Ox (P := Try.prog) 22 3 .i64 Try.underlying22 hi097 1 hsz97 Ao96 qM.length co96 (xC) q097 q97; have hr97 := Kd.F_cut (m := ((xC) : Int).toNat) (c := co96) hC97 (by omega) N9; obtain ⟨A97, hA97⟩ : ∃ A9_, A9_ = (if co96 = ((xC) : Int).toNat then Ao96 else (Ao96 : Option Addr).map (·.add (((xC) : Int).toNat * 1))) := ⟨_, rfl⟩; obtain ⟨c97, hc97⟩ : ∃ c9_, c9_ = co96 - ((xC) : Int).toNat := ⟨_, rfl⟩; have hy97 : y383.length = qM.length - ((xC) : Int).toNat := (by rw [Ny383.out, List.length_drop] <;> omega); rw [show (qM).drop ((xC) : Int).toNat = y383 from Ny383.out.symm] at hr97; replace hr97 : Kd.F (Kd.int .i64) _ _ A97 y383.length y383 := (by rw [hA97]; exact hr97); rw [← hy97, ← hA97, ← hc97] at hcut97; have HO387 := aa.mk (show Kd.V (Kd.int .i64) 3 _ w.heap.size _ (.slice A97 y383.length c97) y383 from Kd.AU (by rw [hy97, hc97]; exact Nat.sub_le_sub_right N9 _) hr97); have HC387 := aa.mk (show y383.length ≤ c97 from by rw [hy97, hc97]; exact Nat.sub_le_sub_right N9 _); clear hr97 hC97 N9 hi097 hsz97 hc97; have KY97 := aa.mk hy97; have KA97 := aa.mk hA97; clear hy97 hA97; replace q97 := eq_true q97; have hnb98 := uz.out; have hnc98 := rC.out; obtain ⟨hcz99_0, hcz99_1, hfz99_0, hfz99_1⟩ := iy lU.out; obtain ⟨hcz100_0, hcz100_1, hfz100_0, hfz100_1⟩ := iy iW.out; obtain ⟨Ao101, co101, eo101⟩ := Kd.fH iE.out; subst eo101; go_wp2; refine bodyPost_ret (ry rfl _ _ fK 31 #[.int .i64 0, .slice Ao101 jS.length co101] (0, 0) _ rfl (by (with_reducible repeat (first | refine ah ?_ _ | refine ai ?_ | refine af ?_ _)); refine aW (cs := #[.int .i64 0, .slice none 0 0]) ?_ 1 _ rfl; (with_reducible repeat (first | refine ah ?_ _ | refine ai ?_ | refine af ?_ _)); refine aW (cs := #[.int .i64 lM, .slice none 0 0]) ?_ 0 _ rfl; (with_reducible repeat (first | refine ah ?_ _ | refine ai ?_ | refine af ?_ _)); exact iW.out) Try.underlying31 rfl (by kernel_rfl)) rfl ?_
           exact ⟨_, _, by first | rfl | (simp [iI, iJ] <;> rfl) | (simp only [← QH]; first | rfl | (simp [iI, iJ] <;> rfl)) | (simp [*, iI, iJ] <;> rfl), by (with_reducible repeat (first | apply Kd.fQ | apply Kd.fT | apply Kd.fI)); exact Kd.dn (Kd.fB (p := ⟨fK, 1, none⟩) (Kd.fB (p := ⟨fK, 0, none⟩) (Kd.dn iE.out (fun k_ hk => (⟨hk, by first | exact hk.2.1 | exact hk.1 | exact hk.2 | exact hk.1.1 | exact hk.1.2⟩ : _ ∧ k_ ≠ fK))) (fun _ hk => hk.2) (.int .i64 0)) (fun _ hk => hk.2) (.slice Ao101 jS.length co101)) (fun _ hk => hk.1.1), by (with_reducible repeat (first | apply Kd.jW | apply Kd.jX | apply Kd.kF)); exact Kd.fV (Kd.kW (p := ⟨fK, 1, none⟩) (Kd.kW (p := ⟨fK, 0, none⟩) (Kd.fV HO387.out (fun k_ hk => (⟨hk, by first | exact hk.2.2.2.1 | exact hk.1 | exact hk.2 | exact hk.1.1 | exact hk.1.2⟩ : _ ∧ k_ ≠ fK))) (fun _ hk => hk.2) (.int .i64 0)) (fun _ hk => hk.2) (.slice Ao101 jS.length co101)) (fun _ hk => ⟨hk.1.1, hk.1.2.1⟩), bl_⟩
          ·rw [if_neg c92] at H; exact absurd H (by simp)
         ·rw [if_neg c91] at H; exact absurd H (by simp)
       ·rw [if_neg c82] at H; have c82b0 : (ak == 6) = false := beq_eq_false_iff_ne.mpr c82; have c82b1 : (ak != 6) = true := bne_iff_ne.mpr c82; simp only [Option.some.injEq, Prod.mk.injEq] at H; obtain ⟨rfl, rfl, rfl, rfl⟩ := H; have hnb102 := mR.out; have hnc102 := mU.out; have hnb103 := rA.out; have hnc103 := uy.out; obtain ⟨hcz104_0, hcz104_1, hcz104_2, hcz104_3, hcz104_4, hfz104_0, hfz104_1, hfz104_2, hfz104_3, hfz104_4⟩ := bQ jb.out; have hnb105 := uz.out; have hnc105 := rC.out; obtain ⟨Uo, Uq, Ur, Us⟩ := iy lU.out; obtain ⟨hcz107_0, hcz107_1, hfz107_0, hfz107_1⟩ := iy iW.out; obtain ⟨Ao108, co108, eo108⟩ := Kd.fH iE.out; subst eo108; go_wp2; refine bodyPost_ret (ry rfl _ _ fK 31 #[.int .i64 0, .slice Ao108 jS.length co108] (0, 0) _ rfl (by (with_reducible repeat (first | refine ah ?_ _ | refine ai ?_ | refine af ?_ _)); refine aW (cs := #[.int .i64 0, .slice none 0 0]) ?_ 1 _ rfl; (with_reducible repeat (first | refine ah ?_ _ | refine ai ?_ | refine af ?_ _)); refine aW (cs := #[.int .i64 lM, .slice none 0 0]) ?_ 0 _ rfl; (with_reducible repeat (first | refine ah ?_ _ | refine ai ?_ | refine af ?_ _)); exact iW.out) Try.underlying31 rfl (by kernel_rfl)) rfl ?_
        exact ⟨_, _, re_, by (with_reducible repeat (first | apply Kd.fQ | apply Kd.fT | apply Kd.fI)); exact Kd.dn (Kd.fB (p := ⟨fK, 1, none⟩) (Kd.fB (p := ⟨fK, 0, none⟩) (Kd.dn iE.out (fun k_ hk => (⟨hk, by first | exact hk.2.1 | exact hk.1 | exact hk.2 | exact hk.1.1 | exact hk.1.2⟩ : _ ∧ k_ ≠ fK))) (fun _ hk => hk.2) (.int .i64 0)) (fun _ hk => hk.2) (.slice Ao108 jS.length co108)) (fun _ hk => hk.1.1), by (with_reducible repeat (first | apply Kd.jW | apply Kd.jX | apply Kd.kF)); exact Kd.fV (Kd.kW (p := ⟨fK, 1, none⟩) (Kd.kW (p := ⟨fK, 0, none⟩) (Kd.fV pG.out (fun k_ hk => (⟨hk, by first | exact hk.2.2.2.1 | exact hk.1 | exact hk.2 | exact hk.1.1 | exact hk.1.2⟩ : _ ∧ k_ ≠ fK))) (fun _ hk => hk.2) (.int .i64 0)) (fun _ hk => hk.2) (.slice Ao108 jS.length co108)) (fun _ hk => ⟨hk.1.1, hk.1.2.1⟩), bl_⟩

end Go.Proofs.Ytggelekooacmnaa.Z
namespace Go.Proofs.Ytggelekooacmnaa.Z
open Go.RowKit Go.Proofs.YtggelekooacmnaaW.bM Go.Proofs.YtggelekooacmnaaW.dR Go.Proofs.YtggelekooacmnaaW.eO
attribute [local go_sem] iM iN jk jl gW gX iO iP   -- for this text's walks alone
set_option linter.unusedVariables false
set_option linter.unusedSimpArgs false

/-! ### bZ: function 33 -/
def bZ.l0 : Nat → List Int → List Int → Int → Int → Option (Bool)
  | 0, _, _, _, _ => none
  | k + 1, x0, x1, x12, x13 => if x13 < x12 then (if 0 ≤ x13 then (if x13 < (x0.length : Int) then (if x13 < (x1.length : Int) then (if (rd x0 x13) = (rd x1 x13) then (bZ.l0 k x0 x1 x12 (wrap64 (x13 + 1))) else (some false)) else (none)) else (none)) else (none)) else (some true)
def bZ.f (k : Nat) (l0 : List Int) (l1 : List Int) : Option (Bool) := if (l0.length : Int) = (l1.length : Int) then (bZ.l0 k l0 l1 (l0.length : Int) 0) else (some false)
theorem bZ.iU : ∀ k, (∀ y0 y1 y2 y3, LeO (bZ.l0 k y0 y1 y2 y3) (bZ.l0 (k + 1) y0 y1 y2 y3))
  | 0 => fun _ _ _ _ r h => by simp [bZ.l0] at h
  | k + 1 => by
    have ih0 := bZ.iU k
    · intro y0 y1 y2 y3
      unfold bZ.l0
      repeat' first
      | (with_reducible exact ih0 _ _ _ _)
      | (with_reducible exact LeO.refl _)
      | (with_reducible exact LeO.none _)
      | (with_reducible refine LeO.ite ?_ ?_)
      | (with_reducible refine LeO.bind ?_ (fun _ => ?_))
      | exact ih0 _ _ _ _
      | exact LeO.none _
      | refine LeO.ite ?_ ?_
      | refine LeO.bind ?_ (fun _ => ?_)
theorem bZ.mono : ∀ a0 a1 k, LeO (bZ.f k a0 a1) (bZ.f (k + 1) a0 a1) := by
  intro a0 a1 k
  have ih0 := bZ.iU k
  unfold bZ.f
  repeat' first
      | (with_reducible exact ih0 _ _ _ _)
      | (with_reducible exact LeO.refl _)
      | (with_reducible exact LeO.none _)
      | (with_reducible refine LeO.ite ?_ ?_)
      | (with_reducible refine LeO.bind ?_ (fun _ => ?_))
      | exact ih0 _ _ _ _
      | exact LeO.none _
      | refine LeO.ite ?_ ?_
      | refine LeO.bind ?_ (fun _ => ?_)
set_option maxHeartbeats 8000000 in
set_option maxRecDepth 100000 in
theorem bZ.calls (k : Nat) (A0 : Option Addr) (c0 : Nat) (l0 : List Int) (A1 : Option Addr) (c1 : Nat) (l1 : List Int) (r : Bool) (w : World) (hr0 : Kd.C (Kd.int .i64) w A0 l0.length l0) (hc0 : l0.length ≤ c0) (hr1 : Kd.C (Kd.int .i64) w A1 l1.length l1) (hc1 : l1.length ≤ c1) (h : bZ.f k l0 l1 = some r) :
    Calls Try.prog 33 #[.slice A0 l0.length c0, .slice A1 l1.length c1] w fun e w' => e = .returned (.bool r) ∧ jK w w' := by
  have HR0 := aa.mk hr0
  have HC0 := aa.mk hc0
  clear hr0 hc0
  have HR1 := aa.mk hr1
  have HC1 := aa.mk hc1
  clear hr1 hc1
  have H : (if (l0.length : Int) = (l1.length : Int) then (bZ.l0 k l0 l1 (l0.length : Int) 0) else (some false)) = some r := h
  clear h
  by_cases c3 : (l0.length : Int) = (l1.length : Int)
  · rw [if_pos c3] at H
    have lW : ((l0.length : Int) == (l1.length : Int)) = true := beq_iff_eq.mpr c3
    have oJ : ((l0.length : Int) != (l1.length : Int)) = false := bne_eq_false_iff_eq.mpr c3
    have c3b2 : (l0.length == l1.length) = true := by first | simpa using c3 | (simp at c3 ⊢; omega)
    clear c3
    have H' := aa.mk H
    clear H
    go_enter Try.func33, Try.ntmps33
    go_wp2
    repeat (go_quiet (fail); try go_wp2)
    go_loopg [13] k (fun kq v13 w' => ∃ (fC : Int), v13 = .int .i64 fC ∧ aa (bZ.l0 kq l0 l1 (l0.length : Int) fC = some r) ∧ aa (kq ≤ k) ∧ jK w w')
    case atStart => exact ⟨(0), (by first | rfl | (simp; done) | (simp [*]; done)), H', ⟨Nat.le_refl _⟩, by repeat (first | exact jK.refl _ | apply jK.step)⟩
    case round =>
      clear H'
      try clear c1
      try clear p2
      try clear c3
      try clear lW
      try clear oJ
      try clear c3b2
      obtain ⟨fC, rfl, HA, HK1, ⟨m1, rfl⟩⟩ := hrel
      cases gk with
      | zero => exact absurd HA.out (by simp [bZ.l0])
      | succ k1 =>
        have H := HA.out
        clear HA
        simp only [bZ.l0] at H
        by_cases c4 : fC < (l0.length : Int)
        · rw [if_pos c4] at H
          have nz : decide (fC < (l0.length : Int)) = true := decide_eq_true c4
          clear c4
          by_cases c5 : 0 ≤ fC
          · rw [if_pos c5] at H
            have uK : decide (0 ≤ fC) = true := decide_eq_true c5
            clear c5
            by_cases c6 : fC < (l0.length : Int)
            · rw [if_pos c6] at H
              have c6b0 : decide (fC < (l0.length : Int)) = true := decide_eq_true c6
              clear c6
              by_cases c7 : fC < (l1.length : Int)
              · rw [if_pos c7] at H
                have uL : decide (fC < (l1.length : Int)) = true := decide_eq_true c7
                clear c7
                by_cases c8 : (rd l0 fC) = (rd l1 fC)
                · rw [if_pos c8] at H
                  have ym : ((rd l0 fC) == (rd l1 fC)) = true := beq_iff_eq.mpr c8
                  have Dx : ((rd l0 fC) != (rd l1 fC)) = false := bne_eq_false_iff_eq.mpr c8
                  clear c8
                  have H' := aa.mk H
                  clear H
                  have p388 : 0 ≤ (fC : Int) := of_decide_eq_true (by first | (with_reducible assumption) | assumption)
                  have q388 : fC < (l0.length : Int) := of_decide_eq_true (by first | (with_reducible assumption) | assumption)
                  obtain ⟨ad388, e388, hx388_0⟩ := Kd.qP HR0.out fC p388 q388
                  cases e388
                  replace p388 := eq_true p388
                  replace q388 := eq_true q388
                  have p389 : 0 ≤ (fC : Int) := of_decide_eq_true (by first | (with_reducible assumption) | assumption)
                  have q389 : fC < (l1.length : Int) := of_decide_eq_true (by first | (with_reducible assumption) | assumption)
                  obtain ⟨ad389, e389, hx389_0⟩ := Kd.qP HR1.out fC p389 q389
                  cases e389
                  replace p389 := eq_true p389
                  replace q389 := eq_true q389
                  go_wp2
                  repeat (go_quiet (fail); try go_wp2)
                  go_roundg k1
                  case measure => have := HK1.out; omega
                  case rel => exact ⟨(wrap64 (fC + 1)), (by first | rfl | (simp; done) | (simp [*]; done)), H', ⟨by have := HK1.out; omega⟩, by repeat (first | exact jK.refl _ | apply jK.step)⟩
                · rw [if_neg c8] at H
                  have ym : ((rd l0 fC) == (rd l1 fC)) = false := beq_eq_false_iff_ne.mpr c8
                  have Dx : ((rd l0 fC) != (rd l1 fC)) = true := bne_iff_ne.mpr c8
                  obtain rfl := Option.some.inj H
                  have p388 : 0 ≤ (fC : Int) := of_decide_eq_true (by first | (with_reducible assumption) | assumption)
                  have q388 : fC < (l0.length : Int) := of_decide_eq_true (by first | (with_reducible assumption) | assumption)
                  obtain ⟨ad388, e388, hx388_0⟩ := Kd.qP HR0.out fC p388 q388
                  cases e388
                  replace p388 := eq_true p388
                  replace q388 := eq_true q388
                  have p389 : 0 ≤ (fC : Int) := of_decide_eq_true (by first | (with_reducible assumption) | assumption)
                  have q389 : fC < (l1.length : Int) := of_decide_eq_true (by first | (with_reducible assumption) | assumption)
                  obtain ⟨ad389, e389, hx389_0⟩ := Kd.qP HR1.out fC p389 q389
                  cases e389
                  replace p389 := eq_true p389
                  replace q389 := eq_true q389
                  go_wp2
                  repeat (go_quiet (fail); try go_wp2)
                  go_ret
                  exact ⟨by first | rfl | (simp; done) | (simp [*]; done), by repeat (first | exact jK.refl _ | apply jK.step)⟩
              · rw [if_neg c7] at H
                exact absurd H (by simp)
            · rw [if_neg c6] at H
              exact absurd H (by simp)
          · rw [if_neg c5] at H
            exact absurd H (by simp)
        · rw [if_neg c4] at H
          have nz : decide (fC < (l0.length : Int)) = false := decide_eq_false c4
          clear c4
          obtain rfl := Option.some.inj H
          go_wp2
          repeat (go_quiet (fail); try go_wp2)
          go_ret
          exact ⟨by first | rfl | (simp; done) | (simp [*]; done), by repeat (first | exact jK.refl _ | apply jK.step)⟩
  · rw [if_neg c3] at H
    have lW : ((l0.length : Int) == (l1.length : Int)) = false := beq_eq_false_iff_ne.mpr c3
    have oJ : ((l0.length : Int) != (l1.length : Int)) = true := bne_iff_ne.mpr c3
    have c3b2 : (l0.length == l1.length) = false := by first | simpa using c3 | (simp at c3 ⊢; omega)
    obtain rfl := Option.some.inj H
    go_enter Try.func33, Try.ntmps33
    go_wp2
    repeat (go_quiet (fail); try go_wp2)
    go_ret
    exact ⟨by first | rfl | (simp; done) | (simp [*]; done), by repeat (first | exact jK.refl _ | apply jK.step)⟩

end Go.Proofs.Ytggelekooacmnaa.Z
