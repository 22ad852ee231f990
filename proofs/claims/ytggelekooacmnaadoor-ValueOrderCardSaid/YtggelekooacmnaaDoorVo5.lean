/- Lemmas for: FC that mh is true for every list of numbers: the order of values is total and transitive, and equal values have the same text. -/
import Derived.Test.YtggelekooacmnaaDoorVo2
import Derived.Test.YtggelekooacmnaaDoorVo3
import Derived.Test.YtggelekooacmnaaDoorVo4
-- value.check and the Uz wrong, told to the printer as plain functions of valid types
namespace Go.Proofs.YtggelekooacmnaaDoor.Q
open Go.RowKit Go.Proofs.YtggelekooacmnaaDoorW.bg Go.Proofs.YtggelekooacmnaaDoorW.bP Go.Proofs.YtggelekooacmnaaDoorW.bX
open Go.Proofs.YtggelekooacmnaaDoor.Pure
set_option linter.unusedVariables false
set_option linter.unusedSimpArgs false
/-- a valid type that is not real, decided -/
def vtb : Nat → S24 → Bool
  | 0, _ => false
  | n + 1, t =>
    if t.f0 = 5 then t.f1 == 0 && t.f2 == 0 && t.f3 == 0 && decide (2 ≤ t.f4.length) && decide (t.f4.length ≤ 4) && t.f4.all fun x => vtb n x && x.f0 != 3
    else if t.f0 = 6 then t.f1 == 0 && t.f2 == 0 && decide (1 ≤ t.f3) && decide (t.f3 ≤ 4) && t.f4.length == 1 && t.f4.all fun x => vtb n x && (x.f0 == 1 || x.f0 == 2)
    else t.f4.isEmpty && t.f3 == 0 && (if t.f0 = 2 then decide (-1000 ≤ t.f1) && decide (t.f1 ≤ t.f2) && decide (t.f2 ≤ 1000) else t.f1 == 0 && t.f2 == 0 && (t.f0 == 1 || t.f0 == 3))
theorem vtb_vt (n : Nat) : ∀ {t : S24}, vtb n t = true → Vt n t ∧ t.f0 ≠ 4 := by
  induction n with
  | zero => intro t h; simp [vtb] at h
  | succ n ih =>
    intro t h
    obtain ⟨a0, a1, a2, a3, l⟩ := t
    simp only [vtb] at h
    by_cases h5 : a0 = 5
    · subst h5
      simp only [if_pos] at h
      simp only [Bool.and_eq_true, beq_iff_eq, decide_eq_true_eq, List.all_eq_true, bne_iff_ne] at h
      obtain ⟨⟨⟨⟨⟨rfl, rfl⟩, rfl⟩, h1⟩, h2⟩, h3⟩ := h
      exact ⟨.tup _ l h1 h2 (fun x hx => (ih (h3 x hx).1).1) (fun x hx => ⟨(h3 x hx).2, (ih (h3 x hx).1).2⟩), by simp⟩
    · rw [if_neg h5] at h
      by_cases h6 : a0 = 6
      · subst h6
        simp only [if_pos] at h
        simp only [Bool.and_eq_true, Bool.or_eq_true, beq_iff_eq, decide_eq_true_eq, List.all_eq_true] at h
        obtain ⟨⟨⟨⟨⟨rfl, rfl⟩, h1⟩, h2⟩, h3⟩, h4⟩ := h
        match l, h3, h4 with
        | [x], _, h4 => exact ⟨.lst _ a3 x h1 h2 (ih (h4 x List.mem_cons_self).1).1 (h4 x List.mem_cons_self).2, by simp⟩
      · rw [if_neg h6] at h
        simp only [Bool.and_eq_true, beq_iff_eq, List.isEmpty_iff] at h
        obtain ⟨⟨rfl, rfl⟩, h⟩ := h
        by_cases h2 : a0 = 2
        · subst h2
          simp only [if_pos, Bool.and_eq_true, decide_eq_true_eq] at h
          exact ⟨.int _ _ _ h.1.1 h.1.2 h.2, by simp⟩
        · rw [if_neg h2] at h
          simp only [Bool.and_eq_true, Bool.or_eq_true, beq_iff_eq] at h
          obtain ⟨⟨rfl, rfl⟩, rfl | rfl⟩ := h
          · exact ⟨.bool _, by simp⟩
          · exact ⟨.nat _, by simp⟩
theorem vt_vtb (n : Nat) : ∀ {t : S24}, Vt n t → t.f0 ≠ 4 → vtb n t = true := by
  induction n with
  | zero => intro t h; cases h
  | succ n ih =>
    intro t h h4
    cases h with
    | bool => simp [vtb]
    | int _ lo hi h1 h2 h3 => simp [vtb, h1, h2, h3]
    | nat => simp [vtb]
    | real => exact absurd rfl h4
    | tup _ l h1 h2 h3 h5 =>
      simp only [vtb, if_pos]
      simp only [Bool.and_eq_true, beq_iff_eq, decide_eq_true_eq, List.all_eq_true, bne_iff_ne]
      exact ⟨⟨⟨⟨⟨by first | rfl | trivial, by first | rfl | trivial⟩, by first | rfl | trivial⟩, h1⟩, h2⟩, fun x hx => ⟨ih (h3 x hx) (h5 x hx).2, (h5 x hx).1⟩⟩
    | lst _ m x h1 h2 h3 h5 =>
      have := ih h3 (by omega)
      simp [vtb, h1, h2, this, h5]
def iQ.f (a0 a1 a2 a3 : Int) (l : List S24) (v0 : Int) (vs : List S51) : Option Int := if vtb 10 ⟨a0, a1, a2, a3, l⟩ = true then some (chk 10 ⟨a0, a1, a2, a3, l⟩ ⟨v0, vs⟩) else none
def jd.f (a0 a1 a2 a3 : Int) (l : List S24) (v0 : Int) (vs : List S51) : Option Int := if vtb 10 ⟨a0, a1, a2, a3, l⟩ = true then some (chk 10 ⟨a0, a1, a2, a3, l⟩ ⟨v0, vs⟩) else none
theorem iQ.calls (a0 a1 a2 a3 : Int) (A : Option Addr) (c : Nat) (l : List S24) (v0 : Int) (B : Option Addr) (d : Nat) (vs : List S51) (r : Int) (w : World) (hA : Kd.C k24 w A l.length l) (hc : l.length ≤ c) (hB : Kd.C k51 w B vs.length vs) (hd : vs.length ≤ d) (h : iQ.f a0 a1 a2 a3 l v0 vs = some r) :
    Calls Tryd.prog 78 #[.agg #[.int .i64 a0, .int .i64 a1, .int .i64 a2, .int .i64 a3, .slice A l.length c], .agg #[.int .i64 v0, .slice B vs.length d]] w fun e w' => e = .returned (.int .i64 r) ∧ Below w.heap.size w w' := by
  unfold iQ.f at h
  by_cases hv : vtb 10 ⟨a0, a1, a2, a3, l⟩ = true
  · rw [if_pos hv] at h
    obtain rfl := Option.some.inj h
    obtain ⟨h1, h2⟩ := vtb_vt 10 hv
    exact XF 10 ⟨a0, a1, a2, a3, l⟩ ⟨v0, vs⟩ h1 h2 A c B d w hA hc hB hd
  · rw [if_neg hv] at h; cases h
theorem jd.calls (a0 a1 a2 a3 : Int) (A : Option Addr) (c : Nat) (l : List S24) (v0 : Int) (B : Option Addr) (d : Nat) (vs : List S51) (r : Int) (w : World) (hA : Kd.C k24 w A l.length l) (hc : l.length ≤ c) (hB : Kd.C k51 w B vs.length vs) (hd : vs.length ≤ d) (h : jd.f a0 a1 a2 a3 l v0 vs = some r) :
    Calls Tryd.prog 56 #[.agg #[.int .i64 a0, .int .i64 a1, .int .i64 a2, .int .i64 a3, .slice A l.length c], .agg #[.int .i64 v0, .slice B vs.length d]] w fun e w' => e = .returned (.int .i64 r) ∧ Below w.heap.size w w' := by
  unfold jd.f at h
  by_cases hv : vtb 10 ⟨a0, a1, a2, a3, l⟩ = true
  · rw [if_pos hv] at h
    obtain rfl := Option.some.inj h
    obtain ⟨h1, h2⟩ := vtb_vt 10 hv
    exact XG 10 ⟨a0, a1, a2, a3, l⟩ ⟨v0, vs⟩ h1 h2 A c B d w hA hc hB hd
  · rw [if_neg hv] at h; cases h
end Go.Proofs.YtggelekooacmnaaDoor.Q
namespace Go.Proofs.YtggelekooacmnaaDoor.Q
open Go.RowKit Go.Proofs.YtggelekooacmnaaDoorW.bg Go.Proofs.YtggelekooacmnaaDoorW.bP Go.Proofs.YtggelekooacmnaaDoorW.bX
attribute [local go_sem] ek eu fw fA dH dI eB eD   -- for this text's walks alone
set_option linter.unusedVariables false
set_option linter.unusedSimpArgs false

/-! ### iW: function 81 -/
def iW.f (ai : Int) (az : Int) (aA : Int) (ay : Int) (af : List (S24)) (a1 : Int) : Option (Int × Int × Int × Int × (List (S24))) := if ai = 6 then (if 0 < (af.length : Int) then (some ((ag af 0).f0, (ag af 0).f1, (ag af 0).f2, (ag af 0).f3, (ag af 0).f4)) else (none)) else (if 0 ≤ a1 then (if a1 < (af.length : Int) then (some ((ag af a1).f0, (ag af a1).f1, (ag af a1).f2, (ag af a1).f3, (ag af a1).f4)) else (none)) else (none))
set_option maxHeartbeats 8000000 in
set_option maxRecDepth 100000 in
theorem iW.calls (ai : Int) (az : Int) (aA : Int) (ay : Int) (jF : Nat → Prop) (bq : Option Addr) (bf : Nat) (af : List (S24)) (a1 : Int) (r1 : Int) (r2 : Int) (r3 : Int) (r4 : Int) (r5 : List (S24)) (w : World) (hs0_4 : Kd.V k24 24 w w.heap.size (fun k_ => jF k_) (.slice bq af.length bf) af) (h : iW.f ai az aA ay af a1 = some (r1, r2, r3, r4, r5)) :
  Calls Tryd.prog 81 #[.agg #[.int .i64 ai, .int .i64 az, .int .i64 aA, .int .i64 ay, .slice bq af.length bf], .int .i64 a1] w fun e w' => ∃ v4_ : Value, e = .returned (.agg #[.int .i64 r1, .int .i64 r2, .int .i64 r3, .int .i64 r4, v4_]) ∧ Kd.V k24 24 w' w.heap.size (fun k_ => (jF k_ ∨ w.heap.size ≤ k_)) v4_ r5 ∧ Below w.heap.size w w' := by
 have ou := Tryd.underlying24; have jO := aa.mk (show Kd.V k24 24 w w.heap.size (fun k_ => (jF k_ ∨ w.heap.size ≤ k_)) (.slice bq af.length bf) af from Kd.dU hs0_4 (fun k_ hk => .inl hk)); have HB := aa.mk (Below.refl w.heap.size w); have H : (if ai = 6 then (if 0 < (af.length : Int) then (some ((ag af 0).f0, (ag af 0).f1, (ag af 0).f2, (ag af 0).f3, (ag af 0).f4)) else (none)) else (if 0 ≤ a1 then (if a1 < (af.length : Int) then (some ((ag af a1).f0, (ag af a1).f1, (ag af a1).f2, (ag af a1).f3, (ag af a1).f4)) else (none)) else (none))) = some (r1, r2, r3, r4, r5) := h; clear h; by_cases c3 : ai = 6
 ·rw [if_pos c3] at H; have j5 : (ai == 6) = true := beq_iff_eq.mpr c3; have oM : (ai != 6) = false := bne_eq_false_iff_eq.mpr c3; clear c3; by_cases c4 : 0 < (af.length : Int)
  ·rw [if_pos c4] at H; have kM : decide (0 < (af.length : Int)) = true := decide_eq_true c4; have yS : decide (0 < af.length) = true := decide_eq_true (by omega); clear c4; simp only [Option.some.injEq, Prod.mk.injEq] at H; obtain ⟨rfl, rfl, rfl, rfl, rfl⟩ := H; go_enter Tryd.func81, Tryd.ntmps81; go_wp2_with (first | ((with_reducible refine aY (N := 2) rfl ?_); refine aZ ?hg (N := 2) ?hd (cs := #[.int .i64 ai, .int .i64 az, .int .i64 aA, .int .i64 ay, .slice bq af.length bf]) (t := 24) ?hr ?_; (case hd => rfl); (case hg => rfl); (case hr => first | (go_simp; done) | (go_simp; rfl)); intro Pw hg w5 aK hb; have Bb := aa.mk (aK); have GW417 : aa (w.heap.size ≤ Pw) := gw_ hg (aG bl_); have GE417 := GW417; replace jO := aa.mk (Kd.gz (Kd.gV (pV_ jO.out) Pw (Nat.le_of_eq hg.symm)) hb); replace HB := aa.mk (au bl_ hb); clear hb aK hg) | ((with_reducible refine aY (N := 4) rfl ?_); refine aZ ?hg (N := 4) ?hd (cs := #[.int .i64 0, .int .i64 0, .int .i64 0, .int .i64 0, .slice none 0 0]) (t := 24) ?hr ?_; (case hd => rfl); (case hg => rfl); (case hr => first | (go_simp; done) | (go_simp; rfl)); intro o6 hg w6 aK hb; have Px := aa.mk (aK); have GW418 : aa (w.heap.size ≤ o6) := gw_ hg (aG bl_); have GE418 := GW418; have Kg := nl_ Bb hg; have Kh := ng_ Bb hg; replace jO := aa.mk (Kd.gz (Kd.gV (pV_ jO.out) o6 (Nat.le_of_eq hg.symm)) hb); replace Bb := kb_ Bb hb; replace HB := aa.mk (au bl_ hb); clear hb aK hg; have hnb7 := Kg.out; have hnc7 := Kh.out; obtain ⟨uq, uu, Ki, Kj, Kk, uw, uy, Kl, Km, Kn⟩ := bF Bb.out; have p419 : 0 ≤ (0 : Int) := (by omega); have q419 : 0 < (af.length : Int) := dt_; obtain ⟨ad419, A419_4, c419_4, e419, hx419_0, hx419_1, hx419_2, hx419_3, Wz, WA, WB⟩ := eX (Kd.mo jO.out).2.2 0 p419 q419; cases e419; obtain ⟨ce419, hce419, hMe419, hcc419⟩ := Kd.V_get jO.out z24 0 p419 (by first | exact q419 | exact dt_ | (have e_ := (Kd.mo jO.out).1; omega)); obtain ⟨ua419_4, uc419_4, rfl, R4, R5⟩ := SB hMe419; have MM := hcc419 4 _ rfl; rw [rE _ _ 4 (by omega)] at MM; replace MM := Option.some.inj (MM.symm.trans Wz); injection MM with hva_ hvn_ hvc_; rw [hva_] at R5; rw [hvc_] at R4; have HL419_4 := aa.mk (show Kd.V k24 24 _ w.heap.size _ _ ((ag af 0).f4) from Kd.yJ R4 R5); clear hva_ hvn_ hvc_ R5 R4; clear hcc419 hce419; have qi419 : (0 < af.length) = True := eq_true (by omega); (try simp only [z0_, Nat.zero_mul, Addr.add_zero'] at hx419_0); (try simp only [z0_, Nat.zero_mul, Addr.add_zero'] at hx419_1); (try simp only [z0_, Nat.zero_mul, Addr.add_zero'] at hx419_2); (try simp only [z0_, Nat.zero_mul, Addr.add_zero'] at hx419_3); (try simp only [z0_, Nat.zero_mul, Addr.add_zero'] at Wz); have HR419_4 := aa.mk WB; have HC419_4 := aa.mk WA; clear WB WA; replace p419 := eq_true p419; replace q419 := eq_true q419; obtain ⟨uj, uk, AP, AQ, AR, um, uo, AU, AV, AX⟩ := bF Px.out))
   refine bodyPost_ret (results_cell_row rfl _ _ o6 24 #[.int .i64 ((ag af 0).f0), .int .i64 ((ag af 0).f1), .int .i64 ((ag af 0).f2), .int .i64 ((ag af 0).f3), .slice A419_4 ((ag af 0).f4).length c419_4] (0, 0) _ rfl (by (with_reducible repeat (first | refine aj ?_ _ | refine ak ?_ | refine ah ?_ _)); refine bn (cs := #[.int .i64 ((ag af 0).f0), .int .i64 ((ag af 0).f1), .int .i64 ((ag af 0).f2), .int .i64 ((ag af 0).f3), .slice none 0 0]) ?_ 4 _ rfl; (with_reducible repeat (first | refine aj ?_ _ | refine ak ?_ | refine ah ?_ _)); refine bn (cs := #[.int .i64 ((ag af 0).f0), .int .i64 ((ag af 0).f1), .int .i64 ((ag af 0).f2), .int .i64 0, .slice none 0 0]) ?_ 3 _ rfl; (with_reducible repeat (first | refine aj ?_ _ | refine ak ?_ | refine ah ?_ _)); refine bn (cs := #[.int .i64 ((ag af 0).f0), .int .i64 ((ag af 0).f1), .int .i64 0, .int .i64 0, .slice none 0 0]) ?_ 2 _ rfl; (with_reducible repeat (first | refine aj ?_ _ | refine ak ?_ | refine ah ?_ _)); refine bn (cs := #[.int .i64 ((ag af 0).f0), .int .i64 0, .int .i64 0, .int .i64 0, .slice none 0 0]) ?_ 1 _ rfl; (with_reducible repeat (first | refine aj ?_ _ | refine ak ?_ | refine ah ?_ _)); refine bn (cs := #[.int .i64 0, .int .i64 0, .int .i64 0, .int .i64 0, .slice none 0 0]) ?_ 0 _ rfl; (with_reducible repeat (first | refine aj ?_ _ | refine ak ?_ | refine ah ?_ _)); exact Px.out) Tryd.underlying24 rfl (by kernel_rfl)) rfl ?_
   exact ⟨_, re_, by (with_reducible repeat (first | apply Kd.iF | apply Kd.iG | apply Kd.iY)); exact Kd.dU (Kd.jq (p := ⟨o6, 4, none⟩) (Kd.jq (p := ⟨o6, 3, none⟩) (Kd.jq (p := ⟨o6, 2, none⟩) (Kd.jq (p := ⟨o6, 1, none⟩) (Kd.jq (p := ⟨o6, 0, none⟩) (Kd.dU HL419_4.out (fun k_ hk => (⟨hk, by first | exact hk.2 | exact hk.1 | exact hk.2 | exact hk.1.1 | exact hk.1.2⟩ : _ ∧ k_ ≠ o6))) (fun _ hk => hk.2) (.int .i64 ((ag af 0).f0))) (fun _ hk => hk.2) (.int .i64 ((ag af 0).f1))) (fun _ hk => hk.2) (.int .i64 ((ag af 0).f2))) (fun _ hk => hk.2) (.int .i64 ((ag af 0).f3))) (fun _ hk => hk.2) (.slice A419_4 ((ag af 0).f4).length c419_4)) (fun _ hk => hk.1.1.1), bl_⟩
  ·rw [if_neg c4] at H; exact absurd H (by simp)
 ·rw [if_neg c3] at H; have j5 : (ai == 6) = false := beq_eq_false_iff_ne.mpr c3; have oM : (ai != 6) = true := bne_iff_ne.mpr c3; by_cases c10 : 0 ≤ a1
  ·rw [if_pos c10] at H; have oI : decide (0 ≤ a1) = true := decide_eq_true c10; clear c10; by_cases c11 : a1 < (af.length : Int)
   ·rw [if_pos c11] at H; have yZ : decide (a1 < (af.length : Int)) = true := decide_eq_true c11; clear c11; simp only [Option.some.injEq, Prod.mk.injEq] at H; obtain ⟨rfl, rfl, rfl, rfl, rfl⟩ := H; go_enter Tryd.func81, Tryd.ntmps81; go_wp2_with (first | ((with_reducible refine aY (N := 2) rfl ?_); refine aZ ?hg (N := 2) ?hd (cs := #[.int .i64 ai, .int .i64 az, .int .i64 aA, .int .i64 ay, .slice bq af.length bf]) (t := 24) ?hr ?_; (case hd => rfl); (case hg => rfl); (case hr => first | (go_simp; done) | (go_simp; rfl)); intro Pw hg w12 aK hb; have Bb := aa.mk (aK); have GW417 : aa (w.heap.size ≤ Pw) := gw_ hg (aG bl_); have GE417 := GW417; replace jO := aa.mk (Kd.gz (Kd.gV (pV_ jO.out) Pw (Nat.le_of_eq hg.symm)) hb); replace HB := aa.mk (au bl_ hb); clear hb aK hg) | ((with_reducible refine aY (N := 4) rfl ?_); refine aZ ?hg (N := 4) ?hd (cs := #[.int .i64 0, .int .i64 0, .int .i64 0, .int .i64 0, .slice none 0 0]) (t := 24) ?hr ?_; (case hd => rfl); (case hg => rfl); (case hr => first | (go_simp; done) | (go_simp; rfl)); intro o6 hg w13 aK hb; have Px := aa.mk (aK); have GW418 : aa (w.heap.size ≤ o6) := gw_ hg (aG bl_); have GE418 := GW418; have Kg := nl_ Bb hg; have Kh := ng_ Bb hg; replace jO := aa.mk (Kd.gz (Kd.gV (pV_ jO.out) o6 (Nat.le_of_eq hg.symm)) hb); replace Bb := kb_ Bb hb; replace HB := aa.mk (au bl_ hb); clear hb aK hg; have hnb14 := Kg.out; have hnc14 := Kh.out; obtain ⟨xP, xQ, Cf, Cg, Ch, xR, xS, Ci, Cj, Ck⟩ := bF Bb.out; have p420 : 0 ≤ (a1 : Int) := dt_; have q420 : a1 < (af.length : Int) := dt_; obtain ⟨ad420, A420_4, c420_4, e420, hx420_0, hx420_1, hx420_2, hx420_3, hx420_4, WC, WE⟩ := eX (Kd.mo jO.out).2.2 a1 p420 q420; cases e420; obtain ⟨ce420, hce420, hMe420, hcc420⟩ := Kd.V_get jO.out z24 a1 p420 (by first | exact q420 | exact dt_ | (have e_ := (Kd.mo jO.out).1; omega)); obtain ⟨ua420_4, uc420_4, rfl, R6, R7⟩ := SB hMe420; have MN := hcc420 4 _ rfl; rw [rE _ _ 4 (by omega)] at MN; replace MN := Option.some.inj (MN.symm.trans hx420_4); injection MN with hva_ hvn_ hvc_; rw [hva_] at R7; rw [hvc_] at R6; have HL420_4 := aa.mk (show Kd.V k24 24 _ w.heap.size _ _ ((ag af a1).f4) from Kd.yJ R6 R7); clear hva_ hvn_ hvc_ R7 R6; clear hcc420 hce420; have HR420_4 := aa.mk WE; have HC420_4 := aa.mk WC; clear WE WC; replace p420 := eq_true p420; replace q420 := eq_true q420; obtain ⟨pO, pQ, qF, qG, qH, pR, pU, qI, qJ, qK⟩ := bF Px.out))
    refine bodyPost_ret (results_cell_row rfl _ _ o6 24 #[.int .i64 ((ag af a1).f0), .int .i64 ((ag af a1).f1), .int .i64 ((ag af a1).f2), .int .i64 ((ag af a1).f3), .slice A420_4 ((ag af a1).f4).length c420_4] (0, 0) _ rfl (by (with_reducible repeat (first | refine aj ?_ _ | refine ak ?_ | refine ah ?_ _)); refine bn (cs := #[.int .i64 ((ag af a1).f0), .int .i64 ((ag af a1).f1), .int .i64 ((ag af a1).f2), .int .i64 ((ag af a1).f3), .slice none 0 0]) ?_ 4 _ rfl; (with_reducible repeat (first | refine aj ?_ _ | refine ak ?_ | refine ah ?_ _)); refine bn (cs := #[.int .i64 ((ag af a1).f0), .int .i64 ((ag af a1).f1), .int .i64 ((ag af a1).f2), .int .i64 0, .slice none 0 0]) ?_ 3 _ rfl; (with_reducible repeat (first | refine aj ?_ _ | refine ak ?_ | refine ah ?_ _)); refine bn (cs := #[.int .i64 ((ag af a1).f0), .int .i64 ((ag af a1).f1), .int .i64 0, .int .i64 0, .slice none 0 0]) ?_ 2 _ rfl; (with_reducible repeat (first | refine aj ?_ _ | refine ak ?_ | refine ah ?_ _)); refine bn (cs := #[.int .i64 ((ag af a1).f0), .int .i64 0, .int .i64 0, .int .i64 0, .slice none 0 0]) ?_ 1 _ rfl; (with_reducible repeat (first | refine aj ?_ _ | refine ak ?_ | refine ah ?_ _)); refine bn (cs := #[.int .i64 0, .int .i64 0, .int .i64 0, .int .i64 0, .slice none 0 0]) ?_ 0 _ rfl; (with_reducible repeat (first | refine aj ?_ _ | refine ak ?_ | refine ah ?_ _)); exact Px.out) Tryd.underlying24 rfl (by kernel_rfl)) rfl ?_
    exact ⟨_, re_, by (with_reducible repeat (first | apply Kd.iF | apply Kd.iG | apply Kd.iY)); exact Kd.dU (Kd.jq (p := ⟨o6, 4, none⟩) (Kd.jq (p := ⟨o6, 3, none⟩) (Kd.jq (p := ⟨o6, 2, none⟩) (Kd.jq (p := ⟨o6, 1, none⟩) (Kd.jq (p := ⟨o6, 0, none⟩) (Kd.dU HL420_4.out (fun k_ hk => (⟨hk, by first | exact hk.2 | exact hk.1 | exact hk.2 | exact hk.1.1 | exact hk.1.2⟩ : _ ∧ k_ ≠ o6))) (fun _ hk => hk.2) (.int .i64 ((ag af a1).f0))) (fun _ hk => hk.2) (.int .i64 ((ag af a1).f1))) (fun _ hk => hk.2) (.int .i64 ((ag af a1).f2))) (fun _ hk => hk.2) (.int .i64 ((ag af a1).f3))) (fun _ hk => hk.2) (.slice A420_4 ((ag af a1).f4).length c420_4)) (fun _ hk => hk.1.1.1), bl_⟩
   ·rw [if_neg c11] at H; exact absurd H (by simp)
  ·rw [if_neg c10] at H; exact absurd H (by simp)

end Go.Proofs.YtggelekooacmnaaDoor.Q
namespace Go.Proofs.YtggelekooacmnaaDoor.Q
open Go.RowKit Go.Proofs.YtggelekooacmnaaDoorW.bg Go.Proofs.YtggelekooacmnaaDoorW.bP Go.Proofs.YtggelekooacmnaaDoorW.bX
attribute [local go_sem] ek eu fw fA dH dI eB eD   -- for this text's walks alone
set_option linter.unusedVariables false
set_option linter.unusedSimpArgs false

/-! ### cu: function 83 -/
mutual
def cu.l0 : Nat → List (S24) → Int → Int → Int → List (S51) → Option (Int × (List (S51)))
 | 0, _, _, _, _, _ => none
 | k + 1, x20, x21, x22, WG, R8 => if x22 < x21 then (if 0 ≤ x22 then (if x22 < (x20.length : Int) then ((cu.f k ((ag x20 x22).f0) ((ag x20 x22).f1) ((ag x20 x22).f2) ((ag x20 x22).f3) ((ag x20 x22).f4)).bind fun bt430 => (if R8.length < 4398046511104 then (cu.l0 k x20 x21 (wrap64 (x22 + 1)) WG (R8 ++ [(⟨bt430.1, bt430.2⟩ : S51)])) else (none))) else (none)) else (none)) else (some (WG, R8))
def cu.f : Nat → Int → Int → Int → Int → List (S24) → Option (Int × (List (S51)))
 | 0, _, _, _, _, _ => none
 | k + 1, ai, az, aA, ay, af => if ai = 2 then (some (mx az (mn 0 aA), ([] : List (S51)))) else (if ai = 5 then (cu.l0 k af (af.length : Int) 0 0 ([] : List (S51))) else (some (0, ([] : List (S51)))))
end
theorem cu.fH : ∀ k, (∀ y0 y1 y2 y3 y4, LeO (cu.f k y0 y1 y2 y3 y4) (cu.f (k + 1) y0 y1 y2 y3 y4)) ∧ (∀ y0 y1 y2 y3 y4, LeO (cu.l0 k y0 y1 y2 y3 y4) (cu.l0 (k + 1) y0 y1 y2 y3 y4))
 | 0 => ⟨fun _ _ _ _ _ r h => by simp [cu.f] at h, fun _ _ _ _ _ r h => by simp [cu.l0] at h⟩
 | k + 1 => by
  obtain ⟨ih0, ih1⟩ := cu.fH k; refine ⟨?_, ?_⟩
  ·intro y0 y1 y2 y3 y4; unfold cu.f; repeat' first
   | (with_reducible exact ih0 _ _ _ _ _)
   | (with_reducible exact ih1 _ _ _ _ _)
   | (with_reducible exact LeO.refl _)
   | (with_reducible exact LeO.none _)
   | (with_reducible refine LeO.ite ?_ ?_)
   | (with_reducible refine LeO.bind ?_ (fun _ => ?_))
   | exact ih0 _ _ _ _ _
   | exact ih1 _ _ _ _ _
   | exact LeO.none _
   | refine LeO.ite ?_ ?_
   | refine LeO.bind ?_ (fun _ => ?_)
  ·intro y0 y1 y2 y3 y4; unfold cu.l0; repeat' first
   | (with_reducible exact ih0 _ _ _ _ _)
   | (with_reducible exact ih1 _ _ _ _ _)
   | (with_reducible exact LeO.refl _)
   | (with_reducible exact LeO.none _)
   | (with_reducible refine LeO.ite ?_ ?_)
   | (with_reducible refine LeO.bind ?_ (fun _ => ?_))
   | exact ih0 _ _ _ _ _
   | exact ih1 _ _ _ _ _
   | exact LeO.none _
   | refine LeO.ite ?_ ?_
   | refine LeO.bind ?_ (fun _ => ?_)
theorem cu.mono : ∀ a0 a1 a2 a3 a4 k, LeO (cu.f k a0 a1 a2 a3 a4) (cu.f (k + 1) a0 a1 a2 a3 a4) := by
 intro a0 a1 a2 a3 a4 k; obtain ⟨ih0, ih1⟩ := cu.fH k; exact ih0 a0 a1 a2 a3 a4
def cu.T9 : Bool × List (List Nat × List Nat) := (true, [([], []), ([0], [0]), ([], []), ([2], [2]), ([3], [3]), ([1, 4, 3], [1, 4]), ([0, 1, 2, 3, 4, 5], []), ([6, 5, 5, 0, 1, 2, 3, 4, 5], [5, 6])])
def cu.B9 : List Nat := [0, 1, 0, 4, 12, 31, 63, 127]
theorem cu.tab9 : kJ .any (opsOf Tryd.f83 9) = cu.T9 := by kernel_rfl
theorem cu.bits9 : lJ cu.T9.2 cu.B9 = true := by kernel_rfl
set_option maxHeartbeats 8000000 in
set_option maxRecDepth 100000 in
theorem cu.calls (k : Nat) : ∀ (ai : Int) (az : Int) (aA : Int) (ay : Int) (bq : Option Addr) (bf : Nat) (af : List (S24)) (r1 : Int) (r2 : List (S51)) (w : World) (dX : Kd.C k24 w bq af.length af) (dY : af.length ≤ bf) (h : cu.f k ai az aA ay af = some (r1, r2)),
  Calls Tryd.prog 83 #[.agg #[.int .i64 ai, .int .i64 az, .int .i64 aA, .int .i64 ay, .slice bq af.length bf]] w fun e w' => ∃ v1_ : Value, e = .returned (.agg #[.int .i64 r1, v1_]) ∧ Kd.R k51 51 w' w.heap.size (fun _ => True) v1_ r2 ∧ Below w.heap.size w w' := by
 induction k using Nat.strongRecOn with
 | _ k ih =>
 intro ai az aA ay bq bf af r1 r2 w dX dY h; cases k with
 | zero => exact absurd h (by simp [cu.f])
 | succ k =>
 simp only [cu.f] at h; have ou := Tryd.underlying24; have zh := Tryd.underlying51; have bV := aa.mk dX; have dz := aa.mk dY; clear dX dY; have HB := aa.mk (Below.refl w.heap.size w); have H : (if ai = 2 then (some (mx az (mn 0 aA), ([] : List (S51)))) else (if ai = 5 then (cu.l0 k af (af.length : Int) 0 0 ([] : List (S51))) else (some (0, ([] : List (S51)))))) = some (r1, r2) := h; clear h; by_cases c2 : ai = 2
 ·rw [if_pos c2] at H; have yL : (ai == 2) = true := beq_iff_eq.mpr c2; have Ay : (ai != 2) = false := bne_eq_false_iff_eq.mpr c2; clear c2; obtain ⟨ji3, hji3⟩ : ∃ j_ : Int, (mn 0 aA) = j_ := ⟨_, rfl⟩; replace H : (some (mx az (ji3), ([] : List (S51)))) = some (r1, r2) := by first | (rw [hji3] at H; exact H) | (simp only [hji3] at H ⊢; exact H)
  (try (have hji3h : ji3 ≤ 0 := by (rw [← hji3]; unfold mn; (repeat' split) <;> omega)))
  (try (have hji3g : ji3 ≤ 64 := by omega))
  have hji3_ : (if aA < 0 then aA else 0) = ji3 := hji3; obtain ⟨ji4, BA⟩ : ∃ j_ : Int, (mx az (ji3)) = j_ := ⟨_, rfl⟩; replace H : (some (ji4, ([] : List (S51)))) = some (r1, r2) := by first | (rw [BA] at H; exact H) | (simp only [BA] at H ⊢; exact H)
  have hji4_ : (if az < (ji3) then (ji3) else az) = ji4 := BA; simp only [Option.some.injEq, Prod.mk.injEq] at H; obtain ⟨rfl, rfl⟩ := H; go_enter Tryd.func83, Tryd.ntmps83; go_wp2_with (first | ((with_reducible refine aY (N := 1) rfl ?_); refine aZ ?hg (N := 1) ?hd (cs := #[.int .i64 ai, .int .i64 az, .int .i64 aA, .int .i64 ay, .slice bq af.length bf]) (t := 24) ?hr ?_; (case hd => rfl); (case hg => rfl); (case hr => first | (go_simp; done) | (go_simp; rfl)); intro GJ hg w5 aK hb; have gQ := aa.mk (aK); have Py : aa (w.heap.size ≤ GJ) := gw_ hg (aG bl_); have GE425 := Py; replace HB := aa.mk (au bl_ hb); clear hb aK hg) | ((with_reducible refine aY (N := 2) rfl ?_); refine aZ ?hg (N := 2) ?hd (cs := #[.int .i64 0, .slice none 0 0]) (t := 51) ?hr ?_; (case hd => rfl); (case hg => rfl); (case hr => first | (go_simp; done) | (go_simp; rfl)); intro oJ hg w6 aK hb; have iZ := aa.mk (aK); have Pz : aa (w.heap.size ≤ oJ) := gw_ hg (aG bl_); have GE426 := Pz; have Ah := nl_ gQ hg; have Aj := ng_ gQ hg; replace gQ := kb_ gQ hb; replace HB := aa.mk (au bl_ hb); clear hb aK hg) | ((with_reducible refine aY (N := 3) rfl ?_); refine aZ ?hg (N := 3) ?hd (cs := #[.int .i64 0, .slice none 0 0]) (t := 51) ?hr ?_; (case hd => rfl); (case hg => rfl); (case hr => first | (go_simp; done) | (go_simp; rfl)); intro o7 hg w7 aK hb; have jP := aa.mk (aK); have PD : aa (w.heap.size ≤ o7) := gw_ hg (aG bl_); have GE427 := PD; have tL := nl_ gQ hg; have wz := ng_ gQ hg; have tN := nl_ iZ hg; have Ak := ng_ iZ hg; replace gQ := kb_ gQ hb; replace iZ := kb_ iZ hb; replace HB := aa.mk (au bl_ hb); clear hb aK hg; have hnb8 := Ah.out; have hnc8 := Aj.out; have hnb9 := tL.out; have hnc9 := wz.out; obtain ⟨lM, lN, nu, ny, nz, lQ, lS, nA, nC, nD⟩ := bF gQ.out; have hnb11 := Ak.out; have hnc11 := tN.out; obtain ⟨lX, lY, lZ, l5⟩ := eQ jP.out; obtain ⟨Lg, Lh, Li, Lj⟩ := eQ iZ.out))
  refine bodyPost_ret (results_cell_row rfl _ _ oJ 51 #[.int .i64 ji4, .slice none 0 0] (0, 0) _ rfl (by (with_reducible repeat (first | refine aj ?_ _ | refine ak ?_ | refine ah ?_ _)); refine bn (cs := #[.int .i64 ji4, .slice none 0 0]) ?_ 1 _ rfl; (with_reducible repeat (first | refine aj ?_ _ | refine ak ?_ | refine ah ?_ _)); refine bn (cs := #[.int .i64 0, .slice none 0 0]) ?_ 0 _ rfl; (with_reducible repeat (first | refine aj ?_ _ | refine ak ?_ | refine ah ?_ _)); refine bM ?_ tN.out _; (with_reducible repeat (first | refine aj ?_ _ | refine ak ?_ | refine ah ?_ _)); exact iZ.out) Tryd.underlying51 rfl (by kernel_rfl)) rfl ?_
  exact ⟨_, by first | rfl | (simp [fT, fU] <;> rfl) | (simp only [← hji3, ← BA]; first | rfl | (simp [fT, fU] <;> rfl)) | (simp [*, fT, fU] <;> rfl), by first | exact Kd.gZ _ _ _ _ _ | exact Kd.jD _ _ _ _ _ | exact Kd.iR _ _ _ _ _ | exact Kd.jB _ _ _ _ _ | exact Kd.jC _ _ _ _ _, bl_⟩
 ·rw [if_neg c2] at H; have yL : (ai == 2) = false := beq_eq_false_iff_ne.mpr c2; have Ay : (ai != 2) = true := bne_iff_ne.mpr c2; by_cases c14 : ai = 5
  ·rw [if_pos c14] at H; have rW : (ai == 5) = true := beq_iff_eq.mpr c14; have CW : (ai != 5) = false := bne_eq_false_iff_eq.mpr c14; clear c14; have H' := aa.mk H; clear H; go_enter Tryd.func83, Tryd.ntmps83; go_wp2_with (first | ((with_reducible refine aY (N := 1) rfl ?_); refine aZ ?hg (N := 1) ?hd (cs := #[.int .i64 ai, .int .i64 az, .int .i64 aA, .int .i64 ay, .slice bq af.length bf]) (t := 24) ?hr ?_; (case hd => rfl); (case hg => rfl); (case hr => first | (go_simp; done) | (go_simp; rfl)); intro GJ hg w15 aK hb; have gQ := aa.mk (aK); have Py : aa (w.heap.size ≤ GJ) := gw_ hg (aG bl_); have GE425 := Py; replace HB := aa.mk (au bl_ hb); clear hb aK hg) | ((with_reducible refine aY (N := 2) rfl ?_); refine aZ ?hg (N := 2) ?hd (cs := #[.int .i64 0, .slice none 0 0]) (t := 51) ?hr ?_; (case hd => rfl); (case hg => rfl); (case hr => first | (go_simp; done) | (go_simp; rfl)); intro oJ hg w16 aK hb; have iZ := aa.mk (aK); have Pz : aa (w.heap.size ≤ oJ) := gw_ hg (aG bl_); have GE426 := Pz; have Ah := nl_ gQ hg; have Aj := ng_ gQ hg; replace gQ := kb_ gQ hb; replace HB := aa.mk (au bl_ hb); clear hb aK hg) | ((with_reducible refine aY (N := 3) rfl ?_); refine aZ ?hg (N := 3) ?hd (cs := #[.int .i64 0, .slice none 0 0]) (t := 51) ?hr ?_; (case hd => rfl); (case hg => rfl); (case hr => first | (go_simp; done) | (go_simp; rfl)); intro o7 hg w17 aK hb; have jP := aa.mk (aK); have PD : aa (w.heap.size ≤ o7) := gw_ hg (aG bl_); have GE427 := PD; have tL := nl_ gQ hg; have wz := ng_ gQ hg; have tN := nl_ iZ hg; have Ak := ng_ iZ hg; replace gQ := kb_ gQ hb; replace iZ := kb_ iZ hb; replace HB := aa.mk (au bl_ hb); clear hb aK hg; have hnb18 := Ah.out; have hnc18 := Aj.out; have hnb19 := tL.out; have hnc19 := wz.out; obtain ⟨zC, zD, BK, BL, BM, zF, zG, BN, BO, BP⟩ := bF gQ.out))
   go_loopg [22] k (fun kq v22 w' => ∃ (dw : Int) (oz : List (S51)) (pW : Value), v22 = .int .i64 dw ∧ aa (cu.l0 kq af (af.length : Int) dw 0 oz = some (r1, r2)) ∧ aa (kq ≤ k) ∧ aa (Kd.R k51 51 w' w.heap.size (fun k_ => k_ ≠ oJ ∧ k_ ≠ o7) pW oz) ∧ aa (w'.heap[GJ]? = some (.cells #[.int .i64 ai, .int .i64 az, .int .i64 aA, .int .i64 ay, (.slice bq af.length bf)] 24 (0, 0))) ∧ aa (w'.heap[oJ]? = some (.cells #[.int .i64 0, (.slice none 0 0)] 51 (0, 0))) ∧ aa (w'.heap[o7]? = some (.cells #[.int .i64 0, pW] 51 (0, 0))) ∧ aa (Below w.heap.size w w'))
   case atStart => exact ⟨(0), (([] : List (S51))), (.slice none 0 0), rs_, H', ⟨Nat.le_refl _⟩, ⟨by first | exact Kd.gZ _ _ _ _ _ | exact Kd.jD _ _ _ _ _ | exact Kd.iR _ _ _ _ _ | exact Kd.jB _ _ _ _ _ | exact Kd.jC _ _ _ _ _⟩, ⟨bk_⟩, ⟨bk_⟩, ⟨bk_⟩, ⟨bl_⟩⟩
   case round =>
    clear H'; (try clear c1); (try clear c2); (try clear yL); (try clear Ay); (try clear p2); (try clear c8); (try clear c9); (try clear c11); (try clear c14); (try clear rW); (try clear CW); (try clear c18); (try clear c19); (try clear lM lN nu ny nz lQ lS nA nC nD); (try clear lX lY lZ l5); (try clear Lg Lh Li Lj); (try clear zC zD BK BL BM zF zG BN BO BP); obtain ⟨dw, oz, pW, rfl, HA, HK1, ja, gQ, iZ, jP, HB⟩ := hrel; cases gk with
    | zero => exact absurd HA.out (by simp [cu.l0])
    | succ k1 =>
     have H := HA.out; clear HA; simp only [cu.l0] at H; by_cases c21 : dw < (af.length : Int)
     ·rw [if_pos c21] at H; have AL : decide (dw < (af.length : Int)) = true := decide_eq_true c21; clear c21; by_cases c22 : 0 ≤ dw
      ·rw [if_pos c22] at H; have c22b0 : decide (0 ≤ dw) = true := decide_eq_true c22; clear c22; by_cases c23 : dw < (af.length : Int)
       ·rw [if_pos c23] at H; have rX : decide (dw < (af.length : Int)) = true := decide_eq_true c23; clear c23; replace H := Option.bind_eq_some_iff.mp H; obtain ⟨⟨t430, t431⟩, A240, H⟩ := H; replace H : (if oz.length < 4398046511104 then (cu.l0 k1 af (af.length : Int) (wrap64 (dw + 1)) 0 (oz ++ [(⟨t430, t431⟩ : S51)])) else (none)) = some (r1, r2) := H; have A24 := aa.mk A240; clear A240; by_cases c25 : oz.length < 4398046511104
        ·rw [if_pos c25] at H; have LMc25 := aa.mk c25; clear c25; obtain ⟨y434, PE⟩ : ∃ y_ : List (S51), y_ = (oz ++ [(⟨t430, t431⟩ : S51)]) := ⟨_, rfl⟩; replace H : (cu.l0 k1 af (af.length : Int) (wrap64 (dw + 1)) 0 y434) = some (r1, r2) := by first | (rw [PE]; with_reducible exact H) | (have H2_ := (Option.bind_some _ _).symm.trans H; rw [PE]; with_reducible exact H2_) | (have H2_ := (Option.bind_some _ _).symm.trans H; with_reducible exact H2_) | with_reducible exact H | (rw [PE]; exact H) | exact H
         have Ny434 := aa.mk PE; clear PE; have H' := aa.mk H; clear H; have p428 : 0 ≤ (dw : Int) := dt_; have q428 : dw < (af.length : Int) := dt_; obtain ⟨ad428, uz, uA, e428, WH, WI, WJ, WK, WL, WM, WN⟩ := eX bV.out dw p428 q428; cases e428; replace WH := hc_ HB WH; replace WI := hc_ HB WI; replace WJ := hc_ HB WJ; replace WK := hc_ HB WK; replace WL := hc_ HB WL; have HR428_4 := aa.mk WN; have HC428_4 := aa.mk WM; clear WN WM; replace p428 := eq_true p428; replace q428 := eq_true q428; try go_wp2_with (first | ((with_reducible refine aY (N := 5) rfl ?_); refine aZ ?hg (N := 5) ?hd (cs := #[.int .i64 0, .int .i64 0, .int .i64 0, .int .i64 0, .slice none 0 0]) (t := 24) ?hr ?_; (case hd => rfl); (case hg => rfl); (case hr => first | (go_simp; done) | (go_simp; rfl)); intro gH hg w26 aK hb; have jr := aa.mk (aK); have GW429 : aa (w.heap.size ≤ gH) := gw_ hg (aG bl_); have GE429 := GW429; have Al := nl_ gQ hg; have X4 := ng_ gQ hg; have Am := nl_ iZ hg; have X5 := ng_ iZ hg; have wB := nl_ jP hg; have SQ := ng_ jP hg; replace ja := aa.mk (Kd.cB (pR_ ja.out) hb); replace gQ := kb_ gQ hb; replace iZ := kb_ iZ hb; replace jP := kb_ jP hb; replace HB := aa.mk (au bl_ hb); clear hb aK hg; have Js := X4.out; have Jt := Al.out; have hnb28 := X5.out; have hnc28 := Am.out; have hnb29 := SQ.out; have hnc29 := wB.out; obtain ⟨xz, xA, HY, H5, H6, xB, xC, H7, H8, H9⟩ := bF jr.out))
         have n0_ : aa (Kd.R k51 51 (((((w26.setCell ⟨gH, 0, none⟩ (.int .i64 ((ag af dw).f0))).setCell ⟨gH, 1, none⟩ (.int .i64 ((ag af dw).f1))).setCell ⟨gH, 2, none⟩ (.int .i64 ((ag af dw).f2))).setCell ⟨gH, 3, none⟩ (.int .i64 ((ag af dw).f3))).setCell ⟨gH, 4, none⟩ (.slice uz ((ag af dw).f4).length uA)) w.heap.size (fun k_ => k_ ≠ oJ ∧ k_ ≠ o7) pW oz) := ⟨by (with_reducible repeat (first | apply Kd.dN | apply Kd.dO | apply Kd.dP)); exact Kd.bQ (Kd.dD (p := ⟨gH, 4, none⟩) (Kd.dD (p := ⟨gH, 3, none⟩) (Kd.dD (p := ⟨gH, 2, none⟩) (Kd.dD (p := ⟨gH, 1, none⟩) (Kd.dD (p := ⟨gH, 0, none⟩) (Kd.rY ja.out jr.out (by decide)) (fun _ hk => hk.2) (.int .i64 ((ag af dw).f0))) (fun _ hk => hk.2) (.int .i64 ((ag af dw).f1))) (fun _ hk => hk.2) (.int .i64 ((ag af dw).f2))) (fun _ hk => hk.2) (.int .i64 ((ag af dw).f3))) (fun _ hk => hk.2) (.slice uz ((ag af dw).f4).length uA)) (fun _ hk => ⟨hk.1.1, hk.1.2⟩)⟩; have n1_ : aa ((((((w26.setCell ⟨gH, 0, none⟩ (.int .i64 ((ag af dw).f0))).setCell ⟨gH, 1, none⟩ (.int .i64 ((ag af dw).f1))).setCell ⟨gH, 2, none⟩ (.int .i64 ((ag af dw).f2))).setCell ⟨gH, 3, none⟩ (.int .i64 ((ag af dw).f3))).setCell ⟨gH, 4, none⟩ (.slice uz ((ag af dw).f4).length uA)).heap[GJ]? = some (.cells #[.int .i64 ai, .int .i64 az, .int .i64 aA, .int .i64 ay, .slice (some ad428) af.length bf] 24 (0, 0))) := ⟨by (with_reducible repeat (first | refine aj ?_ _ | refine ak ?_ | refine ah ?_ _)); refine bM ?_ Al.out _; (with_reducible repeat (first | refine aj ?_ _ | refine ak ?_ | refine ah ?_ _)); refine bM ?_ Al.out _; (with_reducible repeat (first | refine aj ?_ _ | refine ak ?_ | refine ah ?_ _)); refine bM ?_ Al.out _; (with_reducible repeat (first | refine aj ?_ _ | refine ak ?_ | refine ah ?_ _)); refine bM ?_ Al.out _; (with_reducible repeat (first | refine aj ?_ _ | refine ak ?_ | refine ah ?_ _)); refine bM ?_ Al.out _; (with_reducible repeat (first | refine aj ?_ _ | refine ak ?_ | refine ah ?_ _)); exact gQ.out⟩; have n2_ : aa ((((((w26.setCell ⟨gH, 0, none⟩ (.int .i64 ((ag af dw).f0))).setCell ⟨gH, 1, none⟩ (.int .i64 ((ag af dw).f1))).setCell ⟨gH, 2, none⟩ (.int .i64 ((ag af dw).f2))).setCell ⟨gH, 3, none⟩ (.int .i64 ((ag af dw).f3))).setCell ⟨gH, 4, none⟩ (.slice uz ((ag af dw).f4).length uA)).heap[oJ]? = some (.cells #[.int .i64 0, .slice none 0 0] 51 (0, 0))) := ⟨by (with_reducible repeat (first | refine aj ?_ _ | refine ak ?_ | refine ah ?_ _)); refine bM ?_ Am.out _; (with_reducible repeat (first | refine aj ?_ _ | refine ak ?_ | refine ah ?_ _)); refine bM ?_ Am.out _; (with_reducible repeat (first | refine aj ?_ _ | refine ak ?_ | refine ah ?_ _)); refine bM ?_ Am.out _; (with_reducible repeat (first | refine aj ?_ _ | refine ak ?_ | refine ah ?_ _)); refine bM ?_ Am.out _; (with_reducible repeat (first | refine aj ?_ _ | refine ak ?_ | refine ah ?_ _)); refine bM ?_ Am.out _; (with_reducible repeat (first | refine aj ?_ _ | refine ak ?_ | refine ah ?_ _)); exact iZ.out⟩
         have n3_ : aa ((((((w26.setCell ⟨gH, 0, none⟩ (.int .i64 ((ag af dw).f0))).setCell ⟨gH, 1, none⟩ (.int .i64 ((ag af dw).f1))).setCell ⟨gH, 2, none⟩ (.int .i64 ((ag af dw).f2))).setCell ⟨gH, 3, none⟩ (.int .i64 ((ag af dw).f3))).setCell ⟨gH, 4, none⟩ (.slice uz ((ag af dw).f4).length uA)).heap[o7]? = some (.cells #[.int .i64 0, pW] 51 (0, 0))) := ⟨by (with_reducible repeat (first | refine aj ?_ _ | refine ak ?_ | refine ah ?_ _)); refine bM ?_ wB.out _; (with_reducible repeat (first | refine aj ?_ _ | refine ak ?_ | refine ah ?_ _)); refine bM ?_ wB.out _; (with_reducible repeat (first | refine aj ?_ _ | refine ak ?_ | refine ah ?_ _)); refine bM ?_ wB.out _; (with_reducible repeat (first | refine aj ?_ _ | refine ak ?_ | refine ah ?_ _)); refine bM ?_ wB.out _; (with_reducible repeat (first | refine aj ?_ _ | refine ak ?_ | refine ah ?_ _)); refine bM ?_ wB.out _; (with_reducible repeat (first | refine aj ?_ _ | refine ak ?_ | refine ah ?_ _)); exact jP.out⟩; have n4_ : aa ((((((w26.setCell ⟨gH, 0, none⟩ (.int .i64 ((ag af dw).f0))).setCell ⟨gH, 1, none⟩ (.int .i64 ((ag af dw).f1))).setCell ⟨gH, 2, none⟩ (.int .i64 ((ag af dw).f2))).setCell ⟨gH, 3, none⟩ (.int .i64 ((ag af dw).f3))).setCell ⟨gH, 4, none⟩ (.slice uz ((ag af dw).f4).length uA)).heap[gH]? = some (.cells #[.int .i64 ((ag af dw).f0), .int .i64 ((ag af dw).f1), .int .i64 ((ag af dw).f2), .int .i64 ((ag af dw).f3), .slice uz ((ag af dw).f4).length uA] 24 (0, 0))) := ⟨by (with_reducible repeat (first | refine aj ?_ _ | refine ak ?_ | refine ah ?_ _)); refine bn (cs := #[.int .i64 ((ag af dw).f0), .int .i64 ((ag af dw).f1), .int .i64 ((ag af dw).f2), .int .i64 ((ag af dw).f3), .slice none 0 0]) ?_ 4 _ rfl; (with_reducible repeat (first | refine aj ?_ _ | refine ak ?_ | refine ah ?_ _)); refine bn (cs := #[.int .i64 ((ag af dw).f0), .int .i64 ((ag af dw).f1), .int .i64 ((ag af dw).f2), .int .i64 0, .slice none 0 0]) ?_ 3 _ rfl; (with_reducible repeat (first | refine aj ?_ _ | refine ak ?_ | refine ah ?_ _)); refine bn (cs := #[.int .i64 ((ag af dw).f0), .int .i64 ((ag af dw).f1), .int .i64 0, .int .i64 0, .slice none 0 0]) ?_ 2 _ rfl; (with_reducible repeat (first | refine aj ?_ _ | refine ak ?_ | refine ah ?_ _)); refine bn (cs := #[.int .i64 ((ag af dw).f0), .int .i64 0, .int .i64 0, .int .i64 0, .slice none 0 0]) ?_ 1 _ rfl; (with_reducible repeat (first | refine aj ?_ _ | refine ak ?_ | refine ah ?_ _)); refine bn (cs := #[.int .i64 0, .int .i64 0, .int .i64 0, .int .i64 0, .slice none 0 0]) ?_ 0 _ rfl; (with_reducible repeat (first | refine aj ?_ _ | refine ak ?_ | refine ah ?_ _)); exact jr.out⟩
         have n5_ : aa (Below w.heap.size w (((((w26.setCell ⟨gH, 0, none⟩ (.int .i64 ((ag af dw).f0))).setCell ⟨gH, 1, none⟩ (.int .i64 ((ag af dw).f1))).setCell ⟨gH, 2, none⟩ (.int .i64 ((ag af dw).f2))).setCell ⟨gH, 3, none⟩ (.int .i64 ((ag af dw).f3))).setCell ⟨gH, 4, none⟩ (.slice uz ((ag af dw).f4).length uA))) := ⟨bl_⟩; (try clear ja)
         (try clear gQ)
         (try clear iZ)
         (try clear jP)
         (try clear jr)
         (try clear HB)
         generalize (((((w26.setCell ⟨gH, 0, none⟩ (.int .i64 ((ag af dw).f0))).setCell ⟨gH, 1, none⟩ (.int .i64 ((ag af dw).f1))).setCell ⟨gH, 2, none⟩ (.int .i64 ((ag af dw).f2))).setCell ⟨gH, 3, none⟩ (.int .i64 ((ag af dw).f3))).setCell ⟨gH, 4, none⟩ (.slice uz ((ag af dw).f4).length uA)) = w31 at n0_ n1_ n2_ n3_ n4_ n5_ ⊢
         have ja := n0_; have gQ := n1_; have iZ := n2_; have jP := n3_; have jr := n4_; have HB := n5_; clear n0_ n1_ n2_ n3_ n4_ n5_; replace ja := aa.mk (Kd.dP ja.out); replace gQ := aa.mk (ak gQ.out); replace iZ := aa.mk (ak iZ.out); replace jP := aa.mk (ak jP.out); replace jr := aa.mk (ak jr.out); replace HB := aa.mk (bU HB.out); refine r9 (n := 8) (S := fun w' => w'.cell? ⟨o7, 0, none⟩ = some (.int .i64 0) ∧ w'.cell? ⟨o7, 1, none⟩ = some (pW) ∧ w'.cell? ⟨gH, 0, none⟩ = some (.int .i64 ((ag af dw).f0)) ∧ w'.cell? ⟨gH, 1, none⟩ = some (.int .i64 ((ag af dw).f1)) ∧ w'.cell? ⟨gH, 2, none⟩ = some (.int .i64 ((ag af dw).f2)) ∧ w'.cell? ⟨gH, 3, none⟩ = some (.int .i64 ((ag af dw).f3)) ∧ w'.cell? ⟨gH, 4, none⟩ = some (.slice uz ((ag af dw).f4).length uA)) (ds := [7]) #[false, false, false, false, false, false, false, false] (by kernel_rfl) rfl rfl ⟨(aC jP.out 0).trans rfl, (aC jP.out 1).trans rfl, (aC jr.out 0).trans rfl, (aC jr.out 1).trans rfl, (aC jr.out 2).trans rfl, (aC jr.out 3).trans rfl, (aC jr.out 4).trans rfl⟩ (fun hHeld => ?_); refine lK cu.tab9 cu.bits9 (fun HT_ HW_ => ?_)
         generalize w31.drew = w32 at ja gQ iZ jP jr HB hHeld ⊢
         refine pu_ HT_ 0 26 (bm 8 1) ?_
         refine ta_ HT_ HW_ 1 27 (bm 8 3) hHeld ?_
         refine ta_ HT_ HW_ 2 28 (bm 8 7) hHeld ?_
         refine oL (i := 3) (N := some 29) #[true, true, true, true, false, false, false, false] rfl rfl (iy HT_.out (by kernel_rfl)) (by decide) (fun K hK => ?_)
         refine tQ Tryd.func83 (by kernel_rfl) rfl #[.agg #[.int .i64 ((ag af dw).f0), .int .i64 ((ag af dw).f1), .int .i64 ((ag af dw).f2), .int .i64 ((ag af dw).f3), .slice uz ((ag af dw).f4).length uA]] (by rfl) rfl rfl mp_ ?_
         with_reducible refine (ih k1 (by have := HK1.out; omega) ((ag af dw).f0) ((ag af dw).f1) ((ag af dw).f2) ((ag af dw).f3) _ _ ((ag af dw).f4) t430 t431 _ ?aQ ?aT A24.out).mono ?_
         (case aQ => exact cb_ (Kd.bA HR428_4.out HB.out))
         (case aT => exact HC428_4.out)
         rintro e w33 ⟨v432, rfl, ho0, hb⟩
         refine ⟨_, rfl, ?_⟩
         have HO433 := aa.mk (Kd.dJ (Kd.oU (Kd.oU (Kd.lG ho0 (Kd.lC (pR_ ja.out))) (g := oJ) (o := .cells #[.int .i64 0, .slice none 0 0] 51 (0, 0)) bk_) (g := o7) (o := .cells #[.int .i64 0, pW] 51 (0, 0)) bk_) (aG bl_)); replace ja := aa.mk (Kd.jU (pR_ ja.out) (Kd.iI ho0) hb); replace gQ := kb_ gQ hb; replace iZ := kb_ iZ hb; replace jP := kb_ jP hb; replace jr := kb_ jr hb; replace HB := aa.mk (au bl_ hb); (try clear hb)
         (try clear hb2)
         (try clear hk)
         (try clear hi)
         (try clear ho0)
         obtain ⟨Ao35, co35, eo35⟩ := Kd.dG HO433.out; (first | subst eo35 | (injection eo35 with f1_ f2_ f3_; have f4_ := f1_.symm; have f5_ := f3_.symm; clear f1_ f2_ f3_; subst f4_; subst f5_))
         refine hK.out _ _ ⟨(aC jP.out 0).trans rfl, (aC jP.out 1).trans rfl, (aC jr.out 0).trans rfl, (aC jr.out 1).trans rfl, (aC jr.out 2).trans rfl, (aC jr.out 3).trans rfl, (aC jr.out 4).trans rfl⟩ (fun hHeld => ?_)
         clear hK K; refine kS (a' := ?_) ?_ ?_
         rotate_left
         ·show Act.put _ (some 29) _ = _
          simp only [Act.put, List.setIfInBounds_toArray, List.set_cons_zero, List.set_cons_succ, eT, eY]; rfl
         refine oL (i := 4) (N := some 30) #[true, true, true, true, true, false, false, false] rfl rfl (iy HT_.out (by kernel_rfl)) (by decide) (fun K hK => ?_)
         refine FE (w1 := ?_) (v := ?_) (by rfl) rfl ?_ ?_
         rotate_left 2
         ·go_simp; constructor
          ·rfl
          ·rfl
         refine hK.out _ _ ⟨(aC (ah jP.out _) 0).trans rfl, (aC (ah jP.out _) 1).trans rfl, (aC (ah jr.out _) 0).trans rfl, (aC (ah jr.out _) 1).trans rfl, (aC (ah jr.out _) 2).trans rfl, (aC (ah jr.out _) 3).trans rfl, (aC (ah jr.out _) 4).trans rfl⟩ (fun hHeld => ?_)
         clear hK K; refine kS (a' := ?_) ?_ ?_
         rotate_left
         ·show Act.put _ (some 30) _ = _
          simp only [Act.put, List.setIfInBounds_toArray, List.set_cons_zero, List.set_cons_succ, eT, eY]; rfl
         refine oL (i := 5) (N := some 31) #[true, true, true, true, true, true, false, false] rfl rfl (iy HT_.out (by kernel_rfl)) (by decide) (fun K hK => ?_)
         refine Kd.yY k51 (w0 := w) w.heap.size (by rfl) (.tmp 27) (.tmp 30) 49 51 (.agg #[(.int .i64 0), (.slice none 0 0)]) 32 rfl Tryd.underlying49 G5 rfl (by decide) (by omega) pW oz (⟨t430, t431⟩ : S51) [.int .i64 t430, .slice Ao35 t431.length co35] (fun k_ => k_ ≠ oJ ∧ k_ ≠ o7) (fun k_ => ((fun k_ => k_ ≠ oJ ∧ k_ ≠ o7)) k_ ∧ some k_ ≠ (pW : Value).ownBlock) rfl rfl ?aP (fun _ hk => hk) ?aF ?aO ?aB ?aS ?aL ?_
         (case aP => exact zA _ _ _ (⟨t430, t431⟩ : S51) (Kd.bQ (HO433.out) (fun k_ hk => ⟨⟨hk.1.2, hk.2⟩, hk.1.1.2⟩)))
         (case aB => exact bl_)
         (case aF => exact (fun k_ hk => ⟨Kd.fP (g := oJ) (o := .cells #[.int .i64 0, .slice none 0 0] 51 (0, 0)) bk_ k_ hk, Kd.fP (g := o7) (o := .cells #[.int .i64 0, pW] 51 (0, 0)) bk_ k_ hk⟩))
         (case aO => exact (by (with_reducible repeat (first | apply Kd.dN | apply Kd.dO | apply Kd.dP)); exact Kd.bQ ja.out (fun _ hk => ⟨hk.1.1, hk.1.2⟩)))
         (case aS => exact (aG bl_))
         (case aL => have := LMc25.out; omega)
         intro v435 w34 ho hb hg hat; rw [← Ny434.out] at ho; have HO436 := aa.mk (ho); replace gQ := aa.mk (fG (g := GJ) (o := .cells #[.int .i64 ai, .int .i64 az, .int .i64 aA, .int .i64 ay, .slice (some ad428) af.length bf] 24 (0, 0)) bk_ hg (Kd.rZ ja.out gQ.out (by decide))); replace iZ := aa.mk (fG (g := oJ) (o := .cells #[.int .i64 0, .slice none 0 0] 51 (0, 0)) bk_ hg (Kd.vH ja.out (fun _ hk => hk.1.1))); replace jP := aa.mk (fG (g := o7) (o := .cells #[.int .i64 0, pW] 51 (0, 0)) bk_ hg (Kd.vH ja.out (fun _ hk => hk.1.2))); replace jr := aa.mk (fG (g := gH) (o := .cells #[.int .i64 ((ag af dw).f0), .int .i64 ((ag af dw).f1), .int .i64 ((ag af dw).f2), .int .i64 ((ag af dw).f3), .slice uz ((ag af dw).f4).length uA] 24 (0, 0)) bk_ hg (Kd.rZ ja.out jr.out (by decide))); replace HB := aa.mk (hb); clear ja HO433; clear ho hb hg hat; obtain ⟨Ao36, co36, eo36⟩ := Kd.dG HO436.out; (first | subst eo36 | (injection eo36 with f1_ f2_ f3_; have f4_ := f1_.symm; have f5_ := f3_.symm; clear f1_ f2_ f3_; subst f4_; subst f5_))
         refine hK.out _ _ ⟨(aC jP.out 0).trans rfl, (aC jP.out 1).trans rfl, (aC jr.out 0).trans rfl, (aC jr.out 1).trans rfl, (aC jr.out 2).trans rfl, (aC jr.out 3).trans rfl, (aC jr.out 4).trans rfl⟩ (fun hHeld => ?_)
         clear hK K; refine kS (a' := ?_) ?_ ?_
         rotate_left
         ·show Act.put _ (some 31) _ = _
          simp only [Act.put, List.setIfInBounds_toArray, List.set_cons_zero, List.set_cons_succ, eT, eY]; rfl
         refine pu_ HT_ 6 32 (bm 8 127) ?_
         refine Gu (i := 7) (N := none) #[true, true, true, true, true, true, true, true] rfl rfl (iy HT_.out (by kernel_rfl)) (by decide) (fun K hK => ?_)
         have hs37 : w34.cell? ⟨o7, 1, none⟩ = some (pW) := (aC jP.out 1).trans rfl; have hfs37 := dW jP.out 1; have hns37_0 := tL.out; have hns37_1 := tN.out; have hns37_3 := SQ.out; have hms37_0 := wz.out; have hms37_1 := Ak.out; have hms37_3 := wB.out; refine CO (w1 := ?_) (by rfl) rfl ?_ ?_
         rotate_left
         ·go_simp; rfl
         refine hK.out _ _ ?_
         clear hK K; refine wP (pF HT_.out (by kernel_rfl)) ?_
         try go_wp2
         go_roundg k1
         case measure => have := HK1.out; omega
         case rel => exact ⟨(wrap64 (dw + 1)), (y434), (.slice Ao36 y434.length co36), rs_, H', ⟨by have := HK1.out; omega⟩, ⟨by (with_reducible repeat (first | apply Kd.dN | apply Kd.dO | apply Kd.dP)); exact Kd.bQ (Kd.dD (p := ⟨o7, 1, none⟩) (Kd.bQ HO436.out (fun k_ hk => (⟨hk, by first | exact hk.2 | exact hk.1 | exact hk.2 | exact hk.1.1 | exact hk.1.2⟩ : _ ∧ k_ ≠ o7))) (fun _ hk => hk.2) (.slice Ao36 y434.length co36)) (fun _ hk => ⟨hk.1.1, hk.1.2⟩)⟩, ⟨by (with_reducible repeat (first | refine aj ?_ _ | refine ak ?_ | refine ah ?_ _)); refine bM ?_ tL.out _; (with_reducible repeat (first | refine aj ?_ _ | refine ak ?_ | refine ah ?_ _)); exact gQ.out⟩, ⟨by (with_reducible repeat (first | refine aj ?_ _ | refine ak ?_ | refine ah ?_ _)); refine bM ?_ tN.out _; (with_reducible repeat (first | refine aj ?_ _ | refine ak ?_ | refine ah ?_ _)); exact iZ.out⟩, ⟨by (with_reducible repeat (first | refine aj ?_ _ | refine ak ?_ | refine ah ?_ _)); refine bn (cs := #[.int .i64 0, pW]) ?_ 1 _ rfl; (with_reducible repeat (first | refine aj ?_ _ | refine ak ?_ | refine ah ?_ _)); exact jP.out⟩, ⟨bl_⟩⟩
        ·rw [if_neg c25] at H; exact absurd H (by simp)
       ·rw [if_neg c23] at H; exact absurd H (by simp)
      ·rw [if_neg c22] at H; exact absurd H (by simp)
     ·rw [if_neg c21] at H; have AL : decide (dw < (af.length : Int)) = false := decide_eq_false c21; clear c21; simp only [Option.some.injEq, Prod.mk.injEq] at H; obtain ⟨rfl, rfl⟩ := H; have hnb38 := wz.out; have hnc38 := tL.out; have hnb39 := Ak.out; have hnc39 := tN.out; obtain ⟨hcz40_0, hcz40_1, hfz40_0, hfz40_1⟩ := eQ jP.out; have hnb41 := Aj.out; have hnc41 := Ah.out; obtain ⟨zY, zZ, z8, Aa⟩ := eQ iZ.out; obtain ⟨Ao43, co43, eo43⟩ := Kd.dG ja.out; subst eo43; go_wp2; refine bodyPost_ret (results_cell_row rfl _ _ oJ 51 #[.int .i64 0, .slice Ao43 oz.length co43] (0, 0) _ rfl (by (with_reducible repeat (first | refine aj ?_ _ | refine ak ?_ | refine ah ?_ _)); refine bn (cs := #[.int .i64 0, .slice none 0 0]) ?_ 1 _ rfl; (with_reducible repeat (first | refine aj ?_ _ | refine ak ?_ | refine ah ?_ _)); refine bn (cs := #[.int .i64 0, .slice none 0 0]) ?_ 0 _ rfl; (with_reducible repeat (first | refine aj ?_ _ | refine ak ?_ | refine ah ?_ _)); exact iZ.out) Tryd.underlying51 rfl (by kernel_rfl)) rfl ?_
      exact ⟨_, re_, by (with_reducible repeat (first | apply Kd.dN | apply Kd.dO | apply Kd.dP)); exact Kd.bQ (Kd.dD (p := ⟨oJ, 1, none⟩) (Kd.dD (p := ⟨oJ, 0, none⟩) (Kd.bQ ja.out (fun k_ hk => (⟨hk, by first | exact hk.1 | exact hk.1 | exact hk.2 | exact hk.1.1 | exact hk.1.2⟩ : _ ∧ k_ ≠ oJ))) (fun _ hk => hk.2) (.int .i64 0)) (fun _ hk => hk.2) (.slice Ao43 oz.length co43)) (fun _ hk => trivial), bl_⟩
  ·rw [if_neg c14] at H; have rW : (ai == 5) = false := beq_eq_false_iff_ne.mpr c14; have CW : (ai != 5) = true := bne_iff_ne.mpr c14; simp only [Option.some.injEq, Prod.mk.injEq] at H; obtain ⟨rfl, rfl⟩ := H; go_enter Tryd.func83, Tryd.ntmps83; go_wp2_with (first | ((with_reducible refine aY (N := 1) rfl ?_); refine aZ ?hg (N := 1) ?hd (cs := #[.int .i64 ai, .int .i64 az, .int .i64 aA, .int .i64 ay, .slice bq af.length bf]) (t := 24) ?hr ?_; (case hd => rfl); (case hg => rfl); (case hr => first | (go_simp; done) | (go_simp; rfl)); intro GJ hg w44 aK hb; have gQ := aa.mk (aK); have Py : aa (w.heap.size ≤ GJ) := gw_ hg (aG bl_); have GE425 := Py; replace HB := aa.mk (au bl_ hb); clear hb aK hg) | ((with_reducible refine aY (N := 2) rfl ?_); refine aZ ?hg (N := 2) ?hd (cs := #[.int .i64 0, .slice none 0 0]) (t := 51) ?hr ?_; (case hd => rfl); (case hg => rfl); (case hr => first | (go_simp; done) | (go_simp; rfl)); intro oJ hg w45 aK hb; have iZ := aa.mk (aK); have Pz : aa (w.heap.size ≤ oJ) := gw_ hg (aG bl_); have GE426 := Pz; have Ah := nl_ gQ hg; have Aj := ng_ gQ hg; replace gQ := kb_ gQ hb; replace HB := aa.mk (au bl_ hb); clear hb aK hg) | ((with_reducible refine aY (N := 3) rfl ?_); refine aZ ?hg (N := 3) ?hd (cs := #[.int .i64 0, .slice none 0 0]) (t := 51) ?hr ?_; (case hd => rfl); (case hg => rfl); (case hr => first | (go_simp; done) | (go_simp; rfl)); intro o7 hg w46 aK hb; have jP := aa.mk (aK); have PD : aa (w.heap.size ≤ o7) := gw_ hg (aG bl_); have GE427 := PD; have tL := nl_ gQ hg; have wz := ng_ gQ hg; have tN := nl_ iZ hg; have Ak := ng_ iZ hg; replace gQ := kb_ gQ hb; replace iZ := kb_ iZ hb; replace HB := aa.mk (au bl_ hb); clear hb aK hg; have hnb47 := Ah.out; have hnc47 := Aj.out; have hnb48 := tL.out; have hnc48 := wz.out; obtain ⟨MO, MP, MQ, MR, MS, MU, MV, MW, MX, MZ⟩ := bF gQ.out; have hnb50 := Ak.out; have hnc50 := tN.out; obtain ⟨hcz51_0, hcz51_1, hfz51_0, hfz51_1⟩ := eQ jP.out; obtain ⟨LD, LF, LG, LH⟩ := eQ iZ.out))
   refine bodyPost_ret (results_cell_row rfl _ _ oJ 51 #[.int .i64 0, .slice none 0 0] (0, 0) _ rfl (by (with_reducible repeat (first | refine aj ?_ _ | refine ak ?_ | refine ah ?_ _)); refine bn (cs := #[.int .i64 0, .slice none 0 0]) ?_ 1 _ rfl; (with_reducible repeat (first | refine aj ?_ _ | refine ak ?_ | refine ah ?_ _)); refine bn (cs := #[.int .i64 0, .slice none 0 0]) ?_ 0 _ rfl; (with_reducible repeat (first | refine aj ?_ _ | refine ak ?_ | refine ah ?_ _)); exact iZ.out) Tryd.underlying51 rfl (by kernel_rfl)) rfl ?_
   exact ⟨_, re_, by first | exact Kd.gZ _ _ _ _ _ | exact Kd.jD _ _ _ _ _ | exact Kd.iR _ _ _ _ _ | exact Kd.jB _ _ _ _ _ | exact Kd.jC _ _ _ _ _, bl_⟩

end Go.Proofs.YtggelekooacmnaaDoor.Q
set_option linter.unusedVariables false
set_option linter.unusedSimpArgs false
namespace Go.Proofs.YtggelekooacmnaaDoor.Pure
open Go.RowKit Go.Proofs.YtggelekooacmnaaDoor.Q Go.Proofs.YtggelekooacmnaaDoorW.bg Go.Proofs.YtggelekooacmnaaDoorW.bP Go.Proofs.YtggelekooacmnaaDoorW.bX
-- values: the printer's check and wrong are plain functions here
theorem NK {a1 a2 a3 : Int} {l : List S24} {i : Nat} (h : i < l.length) : iW.f 5 a1 a2 a3 l i = some ((l[i]).f0, (l[i]).f1, (l[i]).f2, (l[i]).f3, (l[i]).f4) := by
  unfold iW.f
  rw [if_neg (by decide), if_pos (by omega), if_pos (by omega), rdT h]
theorem NL {a1 a2 a3 i : Int} {x : S24} : iW.f 6 a1 a2 a3 [x] i = some (x.f0, x.f1, x.f2, x.f3, x.f4) := by
  unfold iW.f
  rw [if_pos rfl, if_pos (by simp), rd1]
abbrev at2 {α : Type} (g : Nat → Int → Int → Int → Int → List S24 → Int → List S51 → Option α) (t : S24) (v : S51) : Nat → Option α := fun k => g k t.f0 t.f1 t.f2 t.f3 t.f4 v.f0 v.f1
theorem TW (n : Nat) {t : S24} {v : S51} {m : Nat} (h : Vt 10 t) (h4 : t.f0 ≠ 4) (_ : Bv m v) (_ : 10 ≤ m) : Ev (fun _ => iQ.f t.f0 t.f1 t.f2 t.f3 t.f4 v.f0 v.f1) (chk 10 t v) :=
  ⟨0, fun k _ => by show (if vtb 10 t = true then some (chk 10 t v) else none) = _; rw [if_pos (vt_vtb 10 h h4)]⟩
theorem X6 (n : Nat) {t : S24} {v : S51} {m : Nat} (h : Vt 10 t) (h4 : t.f0 ≠ 4) (_ : Bv m v) (_ : 10 ≤ m) : Ev (fun _ => jd.f t.f0 t.f1 t.f2 t.f3 t.f4 v.f0 v.f1) (chk 10 t v) :=
  ⟨0, fun k _ => by show (if vtb 10 t = true then some (chk 10 t v) else none) = _; rw [if_pos (vt_vtb 10 h h4)]⟩

-- values: zero, cells
/-- the zero -/
def zr (x : S24) : Int := if x.f0 = 2 then max x.f1 (min 0 x.f2) else 0
def zv : Nat → S24 → S51
  | 0, _ => ⟨0, []⟩
  | n + 1, t => if t.f0 = 2 then ⟨zr t, []⟩ else if t.f0 = 5 then ⟨0, t.f4.map (zv n)⟩ else ⟨0, []⟩
theorem etaV (v : S51) : (⟨v.f0, v.f1⟩ : S51) = v := by cases v; rfl
theorem etaT (t : S24) : (⟨t.f0, t.f1, t.f2, t.f3, t.f4⟩ : S24) = t := by cases t; rfl
theorem zero_l0 (n : Nat) (l : List S24) (hl : l.length ≤ 4) (ih : ∀ t ∈ l, Ev (at_ cu.f t) ((zv n t).f0, (zv n t).f1)) :
    ∀ (d i : Nat) (o : List S51), o.length ≤ i → i + d = l.length → Ev (fun k => cu.l0 k l l.length i 0 o) ((0 : Int), o ++ (l.drop i).map (zv n)) := by
  intro d
  induction d with
  | zero =>
    intro i o ho hi
    refine ⟨1, fun k hk => ?_⟩
    obtain ⟨k, rfl⟩ : ∃ j, k = j + 1 := ⟨k - 1, by omega⟩
    simp only [cu.l0]
    rw [if_neg (by omega), List.drop_eq_nil_of_le (by omega)]; simp
  | succ d IH =>
    intro i o ho hi
    have hlt : i < l.length := by omega
    obtain ⟨K1, e1⟩ := ih l[i] (List.getElem_mem hlt)
    obtain ⟨K2, e2⟩ := IH (i + 1) (o ++ [zv n l[i]]) (by rw [List.length_append, List.length_singleton]; omega) (by omega)
    refine ⟨max K1 K2 + 1, fun k hk => ?_⟩
    obtain ⟨k, rfl⟩ : ∃ j, k = j + 1 := ⟨k - 1, by omega⟩
    have e1' := e1 k (by omega)
    have e2' := e2 k (by omega)
    unfold at_ at e1'
    dsimp only at e1' e2'
    simp only [cu.l0]
    rw [if_pos (by omega), if_pos (by omega), if_pos (by omega), rdT hlt, e1', Option.bind_some, if_pos (by omega), jE (by omega), etaV, e2', List.append_assoc, List.drop_eq_getElem_cons hlt]
    rfl
theorem zero_ev (n : Nat) : ∀ {t : S24}, Vt n t → Ev (at_ cu.f t) ((zv n t).f0, (zv n t).f1) := by
  induction n with
  | zero => intro t h; cases h
  | succ n ih =>
    intro t h
    by_cases k5 : t.f0 = 5
    · cases h with
      | tup _ l h1 h2 h3 h4 =>
        obtain ⟨K, e⟩ := zero_l0 n l h2 (fun x hx => ih (h3 x hx)) l.length 0 [] (by simp) (by omega)
        refine ⟨K + 1, fun k hk => ?_⟩
        obtain ⟨k, rfl⟩ : ∃ j, k = j + 1 := ⟨k - 1, by omega⟩
        have e' := e k (by omega)
        simp only [at_, cu.f, zv]
        simpa using e'
      | _ => simp at k5
    · refine ⟨1, fun k hk => ?_⟩
      obtain ⟨k, rfl⟩ : ∃ j, k = j + 1 := ⟨k - 1, by omega⟩
      simp only [at_, cu.f, zv, zr]
      by_cases k2 : t.f0 = 2
      · simp only [if_pos k2, mx_eq, mn_eq]
      · simp only [if_neg k2, if_neg k5]
/-- the cells -/
def rR (f : S24 → S51 → List Int) : List S24 → List S51 → List Int
  | t :: ts, v :: vs => f t v ++ rR f ts vs
  | _, _ => []
def cel : Nat → S24 → S51 → List Int
  | 0, _, _ => []
  | n + 1, t, v => if t.f0 = 5 then rR (cel n) t.f4 v.f1
    else if t.f0 = 6 then (v.f1.length : Int) :: (v.f1.map (fun x => x.f0) ++ List.replicate (t.f3.toNat - v.f1.length) (zr (ag t.f4 0)))
    else [v.f0]
theorem ck1_at {f : S24 → S51 → Int} : ∀ {ts : List S24} {vs : List S51}, ck1 f ts vs = 0 → ∀ (i : Nat) (h : i < ts.length) (h' : i < vs.length), f ts[i] vs[i] = 0
  | t :: ts, v :: vs, h, i, hi, hi' => by
    simp only [ck1] at h
    by_cases hc : f t v = 0
    · rw [if_pos hc] at h
      cases i with
      | zero => exact hc
      | succ i => exact ck1_at h i (by simpa using hi) (by simpa using hi')
    · rw [if_neg hc] at h; exact absurd h hc
  | [], _, _, i, hi, _ => by simp at hi
  | _ :: _, [], _, i, _, hi => by simp at hi
theorem ck2_at {f : S51 → Int} : ∀ {vs : List S51}, ck2 f vs = 0 → ∀ v ∈ vs, f v = 0
  | v :: vs, h, x, hx => by
    simp only [ck2] at h
    by_cases hc : f v = 0
    · rw [if_pos hc] at h
      rcases List.mem_cons.1 hx with rfl | hx
      · exact hc
      · exact ck2_at h x hx
    · rw [if_neg hc] at h; exact absurd h hc
  | [], _, x, hx => by simp at hx
/-- what a value of a valid type is -/
theorem yc {n : Nat} {l : List S24} {v : S51} (h : chk (n + 1) ⟨5, 0, 0, 0, l⟩ v = 0) : v.f0 = 0 ∧ v.f1.length = l.length ∧ ∀ (i : Nat) (h : i < l.length) (h' : i < v.f1.length), chk n l[i] v.f1[i] = 0 := by
  simp only [chk, if_pos] at h
  by_cases c : v.f0 ≠ 0 ∨ v.f1.length ≠ l.length
  · rw [if_pos c] at h; simp at h
  · rw [if_neg c] at h
    exact ⟨by omega, by omega, ck1_at h⟩
theorem yf {n : Nat} {m : Int} {x : S24} {v : S51} (h : chk (n + 1) ⟨6, 0, 0, m, [x]⟩ v = 0) : v.f0 = 0 ∧ (v.f1.length : Int) ≤ m ∧ ∀ y ∈ v.f1, chk n x y = 0 := by
  have hs : chk (n + 1) ⟨6, 0, 0, m, [x]⟩ v = (if v.f0 ≠ 0 ∨ (v.f1.length : Int) > m then 2 else ck2 (chk n x) v.f1) := by simp [chk, rd1]
  rw [hs] at h
  by_cases c : v.f0 ≠ 0 ∨ (v.f1.length : Int) > m
  · rw [if_pos c] at h; simp at h
  · rw [if_neg c] at h
    exact ⟨by omega, by omega, ck2_at h⟩
theorem oP {n : Nat} {t : S24} {v : S51} (h5 : t.f0 ≠ 5) (h6 : t.f0 ≠ 6) (h : chk (n + 1) t v = 0) : v.f1 = [] ∧ (t.f0 = 1 → 0 ≤ v.f0 ∧ v.f0 ≤ 1) ∧ (t.f0 = 3 → 0 ≤ v.f0) ∧ (t.f0 ≠ 1 → t.f0 ≠ 3 → t.f1 ≤ v.f0 ∧ v.f0 ≤ t.f2) := by
  simp only [chk, if_neg h5, if_neg h6] at h
  by_cases c : v.f1.length ≠ 0
  · rw [if_pos c] at h; simp at h
  · rw [if_neg c] at h
    refine ⟨List.eq_nil_of_length_eq_zero (by omega), ?_, ?_, ?_⟩
    · intro h1
      simp only [if_pos h1] at h
      split at h <;> omega
    · intro h3
      have h1 : t.f0 ≠ 1 := by omega
      simp only [if_neg h1, if_pos h3] at h
      split at h <;> omega
    · intro h1 h3
      simp only [if_neg h1, if_neg h3] at h
      split at h <;> omega
theorem TY {n : Nat} : ∀ {ts : List S24} {vs : List S51}, ts.length = vs.length → (∀ (i : Nat) (h : i < ts.length) (h' : i < vs.length), (cel n ts[i] vs[i]).length = (prt n ts[i]).length) → (rR (cel n) ts vs).length = (ts.map (prt n)).flatten.length
  | [], [], _, _ => rfl
  | t :: ts, v :: vs, hl, h => by
    simp only [rR, List.length_append, List.map_cons, List.flatten_cons]
    have h0 := h 0 (by simp) (by simp)
    simp only [List.getElem_cons_zero] at h0
    rw [h0, TY (by simpa using hl) (fun i h1 h2 => h (i + 1) (Nat.succ_lt_succ h1) (Nat.succ_lt_succ h2))]
  | [], _ :: _, hl, _ => by simp at hl
  | _ :: _, [], hl, _ => by simp at hl
theorem M0 (n : Nat) : ∀ {t : S24} {v : S51}, Vt n t → chk n t v = 0 → (cel n t v).length = (prt n t).length := by
  induction n with
  | zero => intro t v h; cases h
  | succ n ih =>
    intro t v h hc
    cases h with
    | bool => simp [cel, prt]
    | int _ lo hi h1 h2 h3 => simp [cel, prt]
    | nat => simp [cel, prt]
    | real => simp [cel, prt]
    | tup _ l h1 h2 h3 h4 =>
      obtain ⟨_, hl, ha⟩ := yc hc
      rw [prt5, show cel (n + 1) ⟨5, 0, 0, 0, l⟩ v = rR (cel n) l v.f1 from by simp [cel]]
      exact TY hl.symm (fun i h1 h2 => ih (h3 _ (List.getElem_mem h1)) (ha i h1 h2))
    | lst _ m x h1 h2 h3 h4 =>
      obtain ⟨_, hl, ha⟩ := yf hc
      rw [prt6, List.length_cons, ML, Pt h3 h4]
      simp [cel]; omega

end Go.Proofs.YtggelekooacmnaaDoor.Pure
namespace Go.Proofs.YtggelekooacmnaaDoor.Q
open Go.RowKit Go.Proofs.YtggelekooacmnaaDoorW.bg Go.Proofs.YtggelekooacmnaaDoorW.bP Go.Proofs.YtggelekooacmnaaDoorW.bX
attribute [local go_sem] ek eu fw fA dH dI eB eD   -- for this text's walks alone
set_option linter.unusedVariables false
set_option linter.unusedSimpArgs false

/-! ### ed: function 76 -/
def ed.f (k : Nat) (ai : Int) (az : Int) (aA : Int) (ay : Int) (af : List (S24)) : Option (Int) := (fB.f k ai az aA ay af).bind fun yT => (if yT = 0 then (if ai = 4 then (some 8) else (some 0)) else (some yT))
theorem ed.mono : ∀ a0 a1 a2 a3 a4 k, LeO (ed.f k a0 a1 a2 a3 a4) (ed.f (k + 1) a0 a1 a2 a3 a4) := by
 intro a0 a1 a2 a3 a4 k; unfold ed.f
 repeat' first
   | (with_reducible exact fB.mono _ _ _ _ _ _)
   | (with_reducible exact LeO.refl _)
   | (with_reducible exact LeO.none _)
   | (with_reducible refine LeO.ite ?_ ?_)
   | (with_reducible refine LeO.bind ?_ (fun _ => ?_))
   | exact fB.mono _ _ _ _ _ _
   | exact LeO.none _
   | refine LeO.ite ?_ ?_
   | refine LeO.bind ?_ (fun _ => ?_)
set_option maxHeartbeats 8000000 in
set_option maxRecDepth 100000 in
theorem ed.calls (k : Nat) (ai : Int) (az : Int) (aA : Int) (ay : Int) (bq : Option Addr) (bf : Nat) (af : List (S24)) (r : Int) (w : World) (dX : Kd.C k24 w bq af.length af) (dY : af.length ≤ bf) (h : ed.f k ai az aA ay af = some r) :
  Calls Tryd.prog 76 #[.agg #[.int .i64 ai, .int .i64 az, .int .i64 aA, .int .i64 ay, .slice bq af.length bf]] w fun e w' => e = .returned (.int .i64 r) ∧ Below w.heap.size w w' := by
 have ou := Tryd.underlying24; have bV := aa.mk dX; have dz := aa.mk dY; clear dX dY; have HB := aa.mk (Below.refl w.heap.size w); have H : ((fB.f k ai az aA ay af).bind fun yT => (if yT = 0 then (if ai = 4 then (some 8) else (some 0)) else (some yT))) = some r := h; clear h; replace H := Option.bind_eq_some_iff.mp H; obtain ⟨yT, A20, H⟩ := H; replace H : (if yT = 0 then (if ai = 4 then (some 8) else (some 0)) else (some yT)) = some r := H; have A2 := aa.mk A20; clear A20; by_cases c3 : yT = 0
 ·rw [if_pos c3] at H; have j5 : (yT == 0) = true := beq_iff_eq.mpr c3; have oM : (yT != 0) = false := bne_eq_false_iff_eq.mpr c3; clear c3; by_cases c4 : ai = 4
  ·rw [if_pos c4] at H; have kM : (ai == 4) = true := beq_iff_eq.mpr c4; have yS : (ai != 4) = false := bne_eq_false_iff_eq.mpr c4; clear c4; obtain rfl := Option.some.inj H; go_enter Tryd.func76, Tryd.ntmps76; go_wp2_with (first | ((with_reducible refine aY (N := 1) rfl ?_); refine aZ ?hg (N := 1) ?hd (cs := #[.int .i64 ai, .int .i64 az, .int .i64 aA, .int .i64 ay, .slice bq af.length bf]) (t := 24) ?hr ?_; (case hd => rfl); (case hg => rfl); (case hr => first | (go_simp; done) | (go_simp; rfl)); intro PG hg w5 aK hb; have yg := aa.mk (aK); have PH : aa (w.heap.size ≤ PG) := gw_ hg (aG bl_); have GE415 := PH; replace HB := aa.mk (au bl_ hb); clear hb aK hg; obtain ⟨Hl, Hm, Ho, Hq, Hr, Ht, Hu, Hw, Hy, Hz⟩ := bF yg.out) | ((with_reducible refine aN (f := 12) rfl ?_); refine bJ (some 5) rfl rfl Tryd.func12 (by kernel_rfl) rfl #[.agg #[.int .i64 ai, .int .i64 az, .int .i64 aA, .int .i64 ay, .slice bq af.length bf]] rfl mp_ ?_; (with_reducible refine (fB.calls k ai az aA ay _ _ af yT _ ?aQ ?aT A2.out).mono ?_); (case aQ => exact cb_ (Kd.bA bV.out HB.out)); (case aT => exact dz.out); rintro e w7 ⟨rfl, hb⟩; refine ⟨_, rfl, ?_⟩; replace yg := kb_ yg hb; replace HB := aa.mk (au bl_ hb); (try clear hb); (try clear hb2); (try clear hk); (try clear hi); obtain ⟨uq, uu, Ki, Kj, Kk, uw, uy, Kl, Km, Kn⟩ := bF yg.out))
   go_ret; exact ⟨re_, bl_⟩
  ·rw [if_neg c4] at H; have kM : (ai == 4) = false := beq_eq_false_iff_ne.mpr c4; have yS : (ai != 4) = true := bne_iff_ne.mpr c4; obtain rfl := Option.some.inj H; go_enter Tryd.func76, Tryd.ntmps76; go_wp2_with (first | ((with_reducible refine aY (N := 1) rfl ?_); refine aZ ?hg (N := 1) ?hd (cs := #[.int .i64 ai, .int .i64 az, .int .i64 aA, .int .i64 ay, .slice bq af.length bf]) (t := 24) ?hr ?_; (case hd => rfl); (case hg => rfl); (case hr => first | (go_simp; done) | (go_simp; rfl)); intro PG hg w9 aK hb; have yg := aa.mk (aK); have PH : aa (w.heap.size ≤ PG) := gw_ hg (aG bl_); have GE415 := PH; replace HB := aa.mk (au bl_ hb); clear hb aK hg; obtain ⟨lM, lN, nu, ny, nz, lQ, lS, nA, nC, nD⟩ := bF yg.out) | ((with_reducible refine aN (f := 12) rfl ?_); refine bJ (some 5) rfl rfl Tryd.func12 (by kernel_rfl) rfl #[.agg #[.int .i64 ai, .int .i64 az, .int .i64 aA, .int .i64 ay, .slice bq af.length bf]] rfl mp_ ?_; (with_reducible refine (fB.calls k ai az aA ay _ _ af yT _ ?aQ ?aT A2.out).mono ?_); (case aQ => exact cb_ (Kd.bA bV.out HB.out)); (case aT => exact dz.out); rintro e w11 ⟨rfl, hb⟩; refine ⟨_, rfl, ?_⟩; replace yg := kb_ yg hb; replace HB := aa.mk (au bl_ hb); (try clear hb); (try clear hb2); (try clear hk); (try clear hi); obtain ⟨lX, lY, u7, vk, vo, lZ, l5, vv, vw, vz⟩ := bF yg.out))
   go_ret; exact ⟨re_, bl_⟩
 ·rw [if_neg c3] at H; have j5 : (yT == 0) = false := beq_eq_false_iff_ne.mpr c3; have oM : (yT != 0) = true := bne_iff_ne.mpr c3; obtain rfl := Option.some.inj H; go_enter Tryd.func76, Tryd.ntmps76; go_wp2_with (first | ((with_reducible refine aY (N := 1) rfl ?_); refine aZ ?hg (N := 1) ?hd (cs := #[.int .i64 ai, .int .i64 az, .int .i64 aA, .int .i64 ay, .slice bq af.length bf]) (t := 24) ?hr ?_; (case hd => rfl); (case hg => rfl); (case hr => first | (go_simp; done) | (go_simp; rfl)); intro PG hg w13 aK hb; have yg := aa.mk (aK); have PH : aa (w.heap.size ≤ PG) := gw_ hg (aG bl_); have GE415 := PH; replace HB := aa.mk (au bl_ hb); clear hb aK hg; obtain ⟨kg, ko, kr, ku, kv, ky, kz, kC, kD, kE⟩ := bF yg.out) | ((with_reducible refine aN (f := 12) rfl ?_); refine bJ (some 5) rfl rfl Tryd.func12 (by kernel_rfl) rfl #[.agg #[.int .i64 ai, .int .i64 az, .int .i64 aA, .int .i64 ay, .slice bq af.length bf]] rfl mp_ ?_; (with_reducible refine (fB.calls k ai az aA ay _ _ af yT _ ?aQ ?aT A2.out).mono ?_); (case aQ => exact cb_ (Kd.bA bV.out HB.out)); (case aT => exact dz.out); rintro e w15 ⟨rfl, hb⟩; refine ⟨_, rfl, ?_⟩; replace yg := kb_ yg hb; replace HB := aa.mk (au bl_ hb); (try clear hb); (try clear hb2); (try clear hk); (try clear hi)))
  go_ret; exact ⟨re_, bl_⟩

end Go.Proofs.YtggelekooacmnaaDoor.Q
namespace Go.Proofs.YtggelekooacmnaaDoor.Q
open Go.RowKit Go.Proofs.YtggelekooacmnaaDoorW.bg Go.Proofs.YtggelekooacmnaaDoorW.bP Go.Proofs.YtggelekooacmnaaDoorW.bX
attribute [local go_sem] ek eu fw fA dH dI eB eD   -- for this text's walks alone
set_option linter.unusedVariables false
set_option linter.unusedSimpArgs false

/-! ### gJ: function 61 -/
def gJ.f (k : Nat) (ai : Int) (az : Int) (aA : Int) (ay : Int) (af : List (S24)) (bH : Int) (aU : List (S51)) : Option (Int) := (ed.f k ai az aA ay af).bind fun zo => (if zo = 0 then ((iQ.f ai az aA ay af bH aU).bind fun t424 => (some t424)) else (some zo))
theorem gJ.mono : ∀ a0 a1 a2 a3 a4 a5 a6 k, LeO (gJ.f k a0 a1 a2 a3 a4 a5 a6) (gJ.f (k + 1) a0 a1 a2 a3 a4 a5 a6) := by
 intro a0 a1 a2 a3 a4 a5 a6 k; unfold gJ.f
 repeat' first
   | (with_reducible exact ed.mono _ _ _ _ _ _)
   | (with_reducible exact LeO.refl _)
   | (with_reducible exact LeO.none _)
   | (with_reducible refine LeO.ite ?_ ?_)
   | (with_reducible refine LeO.bind ?_ (fun _ => ?_))
   | exact ed.mono _ _ _ _ _ _
   | exact LeO.none _
   | refine LeO.ite ?_ ?_
   | refine LeO.bind ?_ (fun _ => ?_)
set_option maxHeartbeats 8000000 in
set_option maxRecDepth 100000 in
theorem gJ.calls (k : Nat) (ai : Int) (az : Int) (aA : Int) (ay : Int) (bq : Option Addr) (bf : Nat) (af : List (S24)) (bH : Int) (gD : Option Addr) (fI : Nat) (aU : List (S51)) (r : Int) (w : World) (dX : Kd.C k24 w bq af.length af) (dY : af.length ≤ bf) (kT : Kd.C k51 w gD aU.length aU) (kU : aU.length ≤ fI) (h : gJ.f k ai az aA ay af bH aU = some r) :
  Calls Tryd.prog 61 #[.agg #[.int .i64 ai, .int .i64 az, .int .i64 aA, .int .i64 ay, .slice bq af.length bf], .agg #[.int .i64 bH, .slice gD aU.length fI]] w fun e w' => e = .returned (.int .i64 r) ∧ Below w.heap.size w w' := by
 have ou := Tryd.underlying24; have zh := Tryd.underlying51; have bV := aa.mk dX; have dz := aa.mk dY; clear dX dY; have mq := aa.mk kT; have qd := aa.mk kU; clear kT kU; have HB := aa.mk (Below.refl w.heap.size w); have H : ((ed.f k ai az aA ay af).bind fun zo => (if zo = 0 then ((iQ.f ai az aA ay af bH aU).bind fun t424 => (some t424)) else (some zo))) = some r := h; clear h; replace H := Option.bind_eq_some_iff.mp H; obtain ⟨zo, A30, H⟩ := H; replace H : (if zo = 0 then ((iQ.f ai az aA ay af bH aU).bind fun t424 => (some t424)) else (some zo)) = some r := H; have A3 := aa.mk A30; clear A30; by_cases c4 : zo = 0
 ·rw [if_pos c4] at H; have kM : (zo == 0) = true := beq_iff_eq.mpr c4; have yS : (zo != 0) = false := bne_eq_false_iff_eq.mpr c4; clear c4; replace H := Option.bind_eq_some_iff.mp H; obtain ⟨t424, A50, H⟩ := H; replace H : (some t424) = some r := H; have A5 := aa.mk A50; clear A50; obtain rfl := Option.some.inj H; go_enter Tryd.func61, Tryd.ntmps61; go_wp2_with (first | ((with_reducible refine aY (N := 2) rfl ?_); refine aZ ?hg (N := 2) ?hd (cs := #[.int .i64 ai, .int .i64 az, .int .i64 aA, .int .i64 ay, .slice bq af.length bf]) (t := 24) ?hr ?_; (case hd => rfl); (case hg => rfl); (case hr => first | (go_simp; done) | (go_simp; rfl)); intro gb421 hg w6 aK hb; have qf := aa.mk (aK); have GW421 : aa (w.heap.size ≤ gb421) := gw_ hg (aG bl_); have GE421 := GW421; replace HB := aa.mk (au bl_ hb); clear hb aK hg) | ((with_reducible refine aY (N := 3) rfl ?_); refine aZ ?hg (N := 3) ?hd (cs := #[.int .i64 bH, .slice gD aU.length fI]) (t := 51) ?hr ?_; (case hd => rfl); (case hg => rfl); (case hr => first | (go_simp; done) | (go_simp; rfl)); intro gb422 hg w7 aK hb; have GK := aa.mk (aK); have GW422 : aa (w.heap.size ≤ gb422) := gw_ hg (aG bl_); have GE422 := GW422; have Ko := nl_ qf hg; have Kq := ng_ qf hg; replace qf := kb_ qf hb; replace HB := aa.mk (au bl_ hb); clear hb aK hg; have hnb8 := Ko.out; have hnc8 := Kq.out; obtain ⟨uj, uk, AP, AQ, AR, um, uo, AU, AV, AX⟩ := bF qf.out) | ((with_reducible refine aN (f := 76) rfl ?_); refine bJ (some 7) rfl rfl Tryd.func76 (by kernel_rfl) rfl #[.agg #[.int .i64 ai, .int .i64 az, .int .i64 aA, .int .i64 ay, .slice bq af.length bf]] rfl mp_ ?_; (with_reducible refine (ed.calls k ai az aA ay _ _ af zo _ ?aQ ?aT A3.out).mono ?_); (case aQ => exact cb_ (Kd.bA bV.out HB.out)); (case aT => exact dz.out); rintro e w10 ⟨rfl, hb⟩; refine ⟨_, rfl, ?_⟩; replace qf := kb_ qf hb; replace GK := kb_ GK hb; replace HB := aa.mk (au bl_ hb); (try clear hb); (try clear hb2); (try clear hk); (try clear hi); obtain ⟨qp, qw, wT, wU, wV, qx, qy, wW, wX, wY⟩ := bF qf.out; obtain ⟨lX, lY, lZ, l5⟩ := eQ GK.out) | ((with_reducible refine aN (f := 78) rfl ?_); refine bJ (some 13) rfl rfl Tryd.func78 (by kernel_rfl) rfl #[.agg #[.int .i64 ai, .int .i64 az, .int .i64 aA, .int .i64 ay, .slice bq af.length bf], .agg #[.int .i64 bH, .slice gD aU.length fI]] rfl mp_ ?_; (with_reducible refine (iQ.calls ai az aA ay _ _ af bH _ _ aU t424 _ ?aQ ?aT ?dK ?dL A5.out).mono ?_); (case aQ => exact cb_ (Kd.bA bV.out HB.out)); (case aT => exact dz.out); (case dK => exact cb_ (Kd.bA mq.out HB.out)); (case dL => exact qd.out); rintro e w13 ⟨rfl, hb⟩; refine ⟨_, rfl, ?_⟩; replace qf := kb_ qf hb; replace GK := kb_ GK hb; replace HB := aa.mk (au bl_ hb); (try clear hb); (try clear hb2); (try clear hk); (try clear hi)))
  go_ret; exact ⟨re_, bl_⟩
 ·rw [if_neg c4] at H; have kM : (zo == 0) = false := beq_eq_false_iff_ne.mpr c4; have yS : (zo != 0) = true := bne_iff_ne.mpr c4; obtain rfl := Option.some.inj H; go_enter Tryd.func61, Tryd.ntmps61; go_wp2_with (first | ((with_reducible refine aY (N := 2) rfl ?_); refine aZ ?hg (N := 2) ?hd (cs := #[.int .i64 ai, .int .i64 az, .int .i64 aA, .int .i64 ay, .slice bq af.length bf]) (t := 24) ?hr ?_; (case hd => rfl); (case hg => rfl); (case hr => first | (go_simp; done) | (go_simp; rfl)); intro gb421 hg w14 aK hb; have qf := aa.mk (aK); have GW421 : aa (w.heap.size ≤ gb421) := gw_ hg (aG bl_); have GE421 := GW421; replace HB := aa.mk (au bl_ hb); clear hb aK hg) | ((with_reducible refine aY (N := 3) rfl ?_); refine aZ ?hg (N := 3) ?hd (cs := #[.int .i64 bH, .slice gD aU.length fI]) (t := 51) ?hr ?_; (case hd => rfl); (case hg => rfl); (case hr => first | (go_simp; done) | (go_simp; rfl)); intro gb422 hg w15 aK hb; have GK := aa.mk (aK); have GW422 : aa (w.heap.size ≤ gb422) := gw_ hg (aG bl_); have GE422 := GW422; have Ko := nl_ qf hg; have Kq := ng_ qf hg; replace qf := kb_ qf hb; replace HB := aa.mk (au bl_ hb); clear hb aK hg; have hnb16 := Ko.out; have hnc16 := Kq.out; obtain ⟨Ik, Il, Im, Io, Ip, Iq, Ir, Iu, Iw, Iy⟩ := bF qf.out) | ((with_reducible refine aN (f := 76) rfl ?_); refine bJ (some 7) rfl rfl Tryd.func76 (by kernel_rfl) rfl #[.agg #[.int .i64 ai, .int .i64 az, .int .i64 aA, .int .i64 ay, .slice bq af.length bf]] rfl mp_ ?_; (with_reducible refine (ed.calls k ai az aA ay _ _ af zo _ ?aQ ?aT A3.out).mono ?_); (case aQ => exact cb_ (Kd.bA bV.out HB.out)); (case aT => exact dz.out); rintro e w18 ⟨rfl, hb⟩; refine ⟨_, rfl, ?_⟩; replace qf := kb_ qf hb; replace GK := kb_ GK hb; replace HB := aa.mk (au bl_ hb); (try clear hb); (try clear hb2); (try clear hk); (try clear hi)))
  go_ret; exact ⟨re_, bl_⟩

end Go.Proofs.YtggelekooacmnaaDoor.Q
namespace Go.Proofs.YtggelekooacmnaaDoor.Q
open Go.RowKit Go.Proofs.YtggelekooacmnaaDoorW.bg Go.Proofs.YtggelekooacmnaaDoorW.bP Go.Proofs.YtggelekooacmnaaDoorW.bX
attribute [local go_sem] ek eu fw fA dH dI eB eD   -- for this text's walks alone
set_option linter.unusedVariables false
set_option linter.unusedSimpArgs false

/-! ### aM: function 75 -/
mutual
def aM.l0 : Nat → List Int → List (S51) → Int → Int → Int → Int → Int → Int → List (S24) → Option (List Int)
 | 0, _, _, _, _, _, _, _, _, _ => none
 | k + 1, x5, x16, x17, x18, EU, EW, EX, Cw, ic => if x18 < x17 then (if 0 ≤ x18 then (if x18 < (x16.length : Int) then (if x18 < (ic.length : Int) then ((aM.f k ((ag ic x18).f0) ((ag ic x18).f1) ((ag ic x18).f2) ((ag ic x18).f3) ((ag ic x18).f4) ((bB x16 x18).f0) ((bB x16 x18).f1)).bind fun t442 => (if x5.length + t442.length < 17592186044416 then (aM.l0 k (x5 ++ t442) x16 x17 (wrap64 (x18 + 1)) EU EW EX Cw ic) else (none))) else (none)) else (none)) else (none)) else (some x5)
def aM.l1 : Nat → List Int → List (S51) → Int → Int → Int → Int → Int → Int → List (S24) → Int → List (S51) → Option (List Int)
 | 0, _, _, _, _, _, _, _, _, _, _, _ => none
 | k + 1, x8, x41, x42, x43, EU, EW, EX, Cw, ic, x439000, WO => if x43 < x42 then (if 0 ≤ x43 then (if x43 < (x41.length : Int) then (if 0 < (ic.length : Int) then ((aM.f k ((ag ic 0).f0) ((ag ic 0).f1) ((ag ic 0).f2) ((ag ic 0).f3) ((ag ic 0).f4) ((bB x41 x43).f0) ((bB x41 x43).f1)).bind fun t454 => (if x8.length + t454.length < 17592186044416 then (aM.l1 k (x8 ++ t454) x41 x42 (wrap64 (x43 + 1)) EU EW EX Cw ic x439000 WO) else (none))) else (none)) else (none)) else (none)) else (aM.l2 k x8 (wrap64 (Cw - (WO.length : Int))) 0 EU EW EX Cw ic)
def aM.l2 : Nat → List Int → Int → Int → Int → Int → Int → Int → List (S24) → Option (List Int)
 | 0, _, _, _, _, _, _, _, _ => none
 | k + 1, x8, x61, x62, EU, EW, EX, Cw, ic => if x62 < x61 then (if 0 < (ic.length : Int) then ((cu.f k ((ag ic 0).f0) ((ag ic 0).f1) ((ag ic 0).f2) ((ag ic 0).f3) ((ag ic 0).f4)).bind fun bt462 => ((aM.f k ((ag ic 0).f0) ((ag ic 0).f1) ((ag ic 0).f2) ((ag ic 0).f3) ((ag ic 0).f4) bt462.1 bt462.2).bind fun Cx => (if x8.length + Cx.length < 17592186044416 then (aM.l2 k (x8 ++ Cx) x61 (wrap64 (x62 + 1)) EU EW EX Cw ic) else (none)))) else (none)) else (some x8)
def aM.f : Nat → Int → Int → Int → Int → List (S24) → Int → List (S51) → Option (List Int)
 | 0, _, _, _, _, _, _, _ => none
 | k + 1, ai, az, aA, ay, af, bH, aU => if ai = 5 then (aM.l0 k ([] : List Int) aU (aU.length : Int) 0 ai az aA ay af) else (if ai = 6 then (aM.l1 k (([(aU.length : Int)] : List Int)) aU (aU.length : Int) 0 ai az aA ay af bH aU) else (some (([bH] : List Int))))
end
theorem aM.fH : ∀ k, (∀ y0 y1 y2 y3 y4 y5 y6, LeO (aM.f k y0 y1 y2 y3 y4 y5 y6) (aM.f (k + 1) y0 y1 y2 y3 y4 y5 y6)) ∧ (∀ y0 y1 y2 y3 y4 y5 y6 y7 y8, LeO (aM.l0 k y0 y1 y2 y3 y4 y5 y6 y7 y8) (aM.l0 (k + 1) y0 y1 y2 y3 y4 y5 y6 y7 y8)) ∧ (∀ y0 y1 y2 y3 y4 y5 y6 y7 y8 y9 y10, LeO (aM.l1 k y0 y1 y2 y3 y4 y5 y6 y7 y8 y9 y10) (aM.l1 (k + 1) y0 y1 y2 y3 y4 y5 y6 y7 y8 y9 y10)) ∧ (∀ y0 y1 y2 y3 y4 y5 y6 y7, LeO (aM.l2 k y0 y1 y2 y3 y4 y5 y6 y7) (aM.l2 (k + 1) y0 y1 y2 y3 y4 y5 y6 y7))
 | 0 => ⟨fun _ _ _ _ _ _ _ r h => by simp [aM.f] at h, fun _ _ _ _ _ _ _ _ _ r h => by simp [aM.l0] at h, fun _ _ _ _ _ _ _ _ _ _ _ r h => by simp [aM.l1] at h, fun _ _ _ _ _ _ _ _ r h => by simp [aM.l2] at h⟩
 | k + 1 => by
  obtain ⟨ih0, ih1, ih2, ih3⟩ := aM.fH k; refine ⟨?_, ?_, ?_, ?_⟩
  ·intro y0 y1 y2 y3 y4 y5 y6; unfold aM.f; repeat' first
   | (with_reducible exact ih0 _ _ _ _ _ _ _)
   | (with_reducible exact ih1 _ _ _ _ _ _ _ _ _)
   | (with_reducible exact ih2 _ _ _ _ _ _ _ _ _ _ _)
   | (with_reducible exact ih3 _ _ _ _ _ _ _ _)
   | (with_reducible exact cu.mono _ _ _ _ _ _)
   | (with_reducible exact LeO.refl _)
   | (with_reducible exact LeO.none _)
   | (with_reducible refine LeO.ite ?_ ?_)
   | (with_reducible refine LeO.bind ?_ (fun _ => ?_))
   | exact ih0 _ _ _ _ _ _ _
   | exact ih1 _ _ _ _ _ _ _ _ _
   | exact ih2 _ _ _ _ _ _ _ _ _ _ _
   | exact ih3 _ _ _ _ _ _ _ _
   | exact cu.mono _ _ _ _ _ _
   | exact LeO.none _
   | refine LeO.ite ?_ ?_
   | refine LeO.bind ?_ (fun _ => ?_)
  ·intro y0 y1 y2 y3 y4 y5 y6 y7 y8; unfold aM.l0; repeat' first
   | (with_reducible exact ih0 _ _ _ _ _ _ _)
   | (with_reducible exact ih1 _ _ _ _ _ _ _ _ _)
   | (with_reducible exact ih2 _ _ _ _ _ _ _ _ _ _ _)
   | (with_reducible exact ih3 _ _ _ _ _ _ _ _)
   | (with_reducible exact cu.mono _ _ _ _ _ _)
   | (with_reducible exact LeO.refl _)
   | (with_reducible exact LeO.none _)
   | (with_reducible refine LeO.ite ?_ ?_)
   | (with_reducible refine LeO.bind ?_ (fun _ => ?_))
   | exact ih0 _ _ _ _ _ _ _
   | exact ih1 _ _ _ _ _ _ _ _ _
   | exact ih2 _ _ _ _ _ _ _ _ _ _ _
   | exact ih3 _ _ _ _ _ _ _ _
   | exact cu.mono _ _ _ _ _ _
   | exact LeO.none _
   | refine LeO.ite ?_ ?_
   | refine LeO.bind ?_ (fun _ => ?_)
  ·intro y0 y1 y2 y3 y4 y5 y6 y7 y8 y9 y10; unfold aM.l1; repeat' first
   | (with_reducible exact ih0 _ _ _ _ _ _ _)
   | (with_reducible exact ih1 _ _ _ _ _ _ _ _ _)
   | (with_reducible exact ih2 _ _ _ _ _ _ _ _ _ _ _)
   | (with_reducible exact ih3 _ _ _ _ _ _ _ _)
   | (with_reducible exact cu.mono _ _ _ _ _ _)
   | (with_reducible exact LeO.refl _)
   | (with_reducible exact LeO.none _)
   | (with_reducible refine LeO.ite ?_ ?_)
   | (with_reducible refine LeO.bind ?_ (fun _ => ?_))
   | exact ih0 _ _ _ _ _ _ _
   | exact ih1 _ _ _ _ _ _ _ _ _
   | exact ih2 _ _ _ _ _ _ _ _ _ _ _
   | exact ih3 _ _ _ _ _ _ _ _
   | exact cu.mono _ _ _ _ _ _
   | exact LeO.none _
   | refine LeO.ite ?_ ?_
   | refine LeO.bind ?_ (fun _ => ?_)
  ·intro y0 y1 y2 y3 y4 y5 y6 y7; unfold aM.l2; repeat' first
   | (with_reducible exact ih0 _ _ _ _ _ _ _)
   | (with_reducible exact ih1 _ _ _ _ _ _ _ _ _)
   | (with_reducible exact ih2 _ _ _ _ _ _ _ _ _ _ _)
   | (with_reducible exact ih3 _ _ _ _ _ _ _ _)
   | (with_reducible exact cu.mono _ _ _ _ _ _)
   | (with_reducible exact LeO.refl _)
   | (with_reducible exact LeO.none _)
   | (with_reducible refine LeO.ite ?_ ?_)
   | (with_reducible refine LeO.bind ?_ (fun _ => ?_))
   | exact ih0 _ _ _ _ _ _ _
   | exact ih1 _ _ _ _ _ _ _ _ _
   | exact ih2 _ _ _ _ _ _ _ _ _ _ _
   | exact ih3 _ _ _ _ _ _ _ _
   | exact cu.mono _ _ _ _ _ _
   | exact LeO.none _
   | refine LeO.ite ?_ ?_
   | refine LeO.bind ?_ (fun _ => ?_)
theorem aM.mono : ∀ a0 a1 a2 a3 a4 a5 a6 k, LeO (aM.f k a0 a1 a2 a3 a4 a5 a6) (aM.f (k + 1) a0 a1 a2 a3 a4 a5 a6) := by
 intro a0 a1 a2 a3 a4 a5 a6 k; obtain ⟨ih0, ih1, ih2, ih3⟩ := aM.fH k; exact ih0 a0 a1 a2 a3 a4 a5 a6
def aM.T7 : Bool × List (List Nat × List Nat) := (true, [([], []), ([], []), ([1], [1]), ([], []), ([2, 3], [2, 3]), ([4], [4]), ([], []), ([5, 6], [5, 6]), ([0, 7, 7], [0, 7]), ([8, 8, 0, 1, 2, 3, 4, 5, 6, 7, 8], [0, 8])])
def aM.B7 : List Nat := [0, 0, 2, 0, 14, 30, 0, 126, 255, 511]
theorem aM.tab7 : kJ .any (opsOf Tryd.f75 7) = aM.T7 := by kernel_rfl
theorem aM.bits7 : lJ aM.T7.2 aM.B7 = true := by kernel_rfl
def aM.T15 : Bool × List (List Nat × List Nat) := (true, [([], []), ([], []), ([1], [1]), ([2], [2]), ([3], [3]), ([], []), ([4, 5], [4, 5]), ([0, 6, 6], [0, 6]), ([7, 7, 0, 1, 2, 3, 4, 5, 6, 7], [0, 7])])
def aM.B15 : List Nat := [0, 0, 2, 6, 14, 0, 62, 127, 255]
theorem aM.tab15 : kJ .any (opsOf Tryd.f75 15) = aM.T15 := by kernel_rfl
theorem aM.bits15 : lJ aM.T15.2 aM.B15 = true := by kernel_rfl
def aM.T19 : Bool × List (List Nat × List Nat) := (true, [([], []), ([], []), ([1], [1]), ([2], [2]), ([3], [3]), ([], []), ([5], [5]), ([6], [6]), ([7], [7]), ([8], [8]), ([4, 9, 9], [4, 9]), ([0, 10, 10], [0, 10]), ([11, 11, 0, 1, 2, 3, 4, 5, 6, 7, 8, 9, 10, 11], [0, 11])])
def aM.B19 : List Nat := [0, 0, 2, 6, 14, 0, 32, 96, 224, 480, 1022, 2047, 4095]
theorem aM.tab19 : kJ .any (opsOf Tryd.f75 19) = aM.T19 := by kernel_rfl
theorem aM.bits19 : lJ aM.T19.2 aM.B19 = true := by kernel_rfl
set_option maxHeartbeats 8000000 in
set_option maxRecDepth 100000 in
theorem aM.calls (k : Nat) : ∀ (ai : Int) (az : Int) (aA : Int) (ay : Int) (bq : Option Addr) (bf : Nat) (af : List (S24)) (bH : Int) (gD : Option Addr) (fI : Nat) (aU : List (S51)) (r : List Int) (w : World) (dX : Kd.C k24 w bq af.length af) (dY : af.length ≤ bf) (kT : Kd.C k51 w gD aU.length aU) (kU : aU.length ≤ fI) (h : aM.f k ai az aA ay af bH aU = some r),
  Calls Tryd.prog 75 #[.agg #[.int .i64 ai, .int .i64 az, .int .i64 aA, .int .i64 ay, .slice bq af.length bf], .agg #[.int .i64 bH, .slice gD aU.length fI]] w fun e w' => ∃ v0_ : Value, e = .returned (v0_) ∧ Kd.R (Kd.int .i64) 3 w' w.heap.size (fun _ => True) v0_ r ∧ Below w.heap.size w w' := by
 induction k using Nat.strongRecOn with
 | _ k ih =>
 intro ai az aA ay bq bf af bH gD fI aU r w dX dY kT kU h; cases k with
 | zero => exact absurd h (by simp [aM.f])
 | succ k =>
 simp only [aM.f] at h; have ou := Tryd.underlying24; have zh := Tryd.underlying51; have bV := aa.mk dX; have dz := aa.mk dY; clear dX dY; have mq := aa.mk kT; have qd := aa.mk kU; clear kT kU; have HB := aa.mk (Below.refl w.heap.size w); have H : (if ai = 5 then (aM.l0 k ([] : List Int) aU (aU.length : Int) 0 ai az aA ay af) else (if ai = 6 then (aM.l1 k (([(aU.length : Int)] : List Int)) aU (aU.length : Int) 0 ai az aA ay af bH aU) else (some (([bH] : List Int))))) = some r := h; clear h; by_cases c3 : ai = 5
 ·rw [if_pos c3] at H; have j5 : (ai == 5) = true := beq_iff_eq.mpr c3; have oM : (ai != 5) = false := bne_eq_false_iff_eq.mpr c3; clear c3; have H' := aa.mk H; clear H; go_enter Tryd.func75, Tryd.ntmps75; go_wp2_with (first | ((with_reducible refine aY (N := 2) rfl ?_); refine aZ ?hg (N := 2) ?hd (cs := #[.int .i64 ai, .int .i64 az, .int .i64 aA, .int .i64 ay, .slice bq af.length bf]) (t := 24) ?hr ?_; (case hd => rfl); (case hg => rfl); (case hr => first | (go_simp; done) | (go_simp; rfl)); intro kF hg w4 aK hb; have bZ := aa.mk (aK); have PI : aa (w.heap.size ≤ kF) := gw_ hg (aG bl_); have GE437 := PI; replace HB := aa.mk (au bl_ hb); clear hb aK hg) | ((with_reducible refine aY (N := 3) rfl ?_); refine aZ ?hg (N := 3) ?hd (cs := #[.int .i64 bH, .slice gD aU.length fI]) (t := 51) ?hr ?_; (case hd => rfl); (case hg => rfl); (case hr => first | (go_simp; done) | (go_simp; rfl)); intro vF hg w5 aK hb; have gm := aa.mk (aK); have PK : aa (w.heap.size ≤ vF) := gw_ hg (aG bl_); have GE438 := PK; have Ao := nl_ bZ hg; have Ap := ng_ bZ hg; replace bZ := kb_ bZ hb; replace HB := aa.mk (au bl_ hb); clear hb aK hg; have hnb6 := Ao.out; have hnc6 := Ap.out; obtain ⟨Dj, Dk, J5, OT, OU, FZ, Dl, J6, OV, OW⟩ := bF bZ.out; obtain ⟨uq, uu, uw, uy⟩ := eQ gm.out))
  go_loopg [5, 18] k (fun kq v5 v18 w' => ∃ (gY : List Int) (dS : Int), v18 = .int .i64 dS ∧ aa (aM.l0 kq gY aU (aU.length : Int) dS ai az aA ay af = some r) ∧ aa (kq ≤ k) ∧ aa (Kd.R (Kd.int .i64) 3 w' w.heap.size (fun _ => True) v5 gY) ∧ aa (w'.heap[kF]? = some (.cells #[.int .i64 ai, .int .i64 az, .int .i64 aA, .int .i64 ay, (.slice bq af.length bf)] 24 (0, 0))) ∧ aa (w'.heap[vF]? = some (.cells #[.int .i64 bH, (.slice gD aU.length fI)] 51 (0, 0))) ∧ aa (Below w.heap.size w w'))
  case atStart => exact ⟨(([] : List Int)), (0), rs_, H', ⟨Nat.le_refl _⟩, ⟨by first | exact Kd.gZ _ _ _ _ _ | exact Kd.jD _ _ _ _ _ | exact Kd.iR _ _ _ _ _ | exact Kd.jB _ _ _ _ _ | exact Kd.jC _ _ _ _ _⟩, ⟨bk_⟩, ⟨bk_⟩, ⟨bl_⟩⟩
  case round =>
   clear H'; (try clear c1); (try clear p2); (try clear c3); (try clear j5); (try clear oM); (try clear c6); (try clear c7); (try clear Dj Dk J5 OT OU FZ Dl J6 OV OW); (try clear uq uu uw uy); obtain ⟨gY, dS, rfl, HA, HK1, gW, bZ, gm, HB⟩ := hrel; cases gk with
   | zero => exact absurd HA.out (by simp [aM.l0])
   | succ k1 =>
    have H := HA.out; clear HA; simp only [aM.l0] at H; by_cases c9 : dS < (aU.length : Int)
    ·rw [if_pos c9] at H; have vQ : decide (dS < (aU.length : Int)) = true := decide_eq_true c9; clear c9; by_cases c10 : 0 ≤ dS
     ·rw [if_pos c10] at H; have oI : decide (0 ≤ dS) = true := decide_eq_true c10; clear c10; by_cases c11 : dS < (aU.length : Int)
      ·rw [if_pos c11] at H; have yZ : decide (dS < (aU.length : Int)) = true := decide_eq_true c11; clear c11; by_cases c12 : dS < (af.length : Int)
       ·rw [if_pos c12] at H; have oV : decide (dS < (af.length : Int)) = true := decide_eq_true c12; clear c12; replace H := Option.bind_eq_some_iff.mp H; obtain ⟨t442, A130, H⟩ := H; replace H : (if gY.length + t442.length < 17592186044416 then (aM.l0 k1 (gY ++ t442) aU (aU.length : Int) (wrap64 (dS + 1)) ai az aA ay af) else (none)) = some r := H; have A13 := aa.mk A130; clear A130; by_cases c14 : gY.length + t442.length < 17592186044416
        ·rw [if_pos c14] at H; have LMc14 := aa.mk c14; clear c14; obtain ⟨y445, PL⟩ : ∃ y_ : List Int, y_ = (gY ++ t442) := ⟨_, rfl⟩; replace H : (aM.l0 k1 y445 aU (aU.length : Int) (wrap64 (dS + 1)) ai az aA ay af) = some r := by first | (rw [PL]; with_reducible exact H) | (have H2_ := (Option.bind_some _ _).symm.trans H; rw [PL]; with_reducible exact H2_) | (have H2_ := (Option.bind_some _ _).symm.trans H; with_reducible exact H2_) | with_reducible exact H | (rw [PL]; exact H) | exact H
         have Ny445 := aa.mk PL; clear PL; have H' := aa.mk H; clear H; have p439 : 0 ≤ (dS : Int) := dt_; have q439 : dS < (aU.length : Int) := dt_; obtain ⟨ad439, wC, wD, e439, M3, M4, WQ, WR⟩ := vN mq.out dS p439 q439; cases e439; replace M3 := hc_ HB M3; replace M4 := hc_ HB M4; have HR439_1 := aa.mk WR; have HC439_1 := aa.mk WQ; clear WR WQ; replace p439 := eq_true p439; replace q439 := eq_true q439; try go_wp2_with (first | ((with_reducible refine aY (N := 7) rfl ?_); refine aZ ?hg (N := 7) ?hd (cs := #[.int .i64 0, .slice none 0 0]) (t := 51) ?hr ?_; (case hd => rfl); (case hg => rfl); (case hr => first | (go_simp; done) | (go_simp; rfl)); intro o8 hg w15 aK hb; have qg := aa.mk (aK); have GW440 : aa (w.heap.size ≤ o8) := gw_ hg (aG bl_); have GE440 := GW440; have Kr := nl_ bZ hg; have X7 := ng_ bZ hg; have Kt := nl_ gm hg; have X8 := ng_ gm hg; replace gW := aa.mk (Kd.cB (pR_ gW.out) hb); replace bZ := kb_ bZ hb; replace gm := kb_ gm hb; replace HB := aa.mk (au bl_ hb); clear hb aK hg; have hnb16 := X7.out; have hnc16 := Kr.out; have hnb17 := X8.out; have hnc17 := Kt.out; obtain ⟨lT, lU, lV, lW⟩ := eQ qg.out))
         have n0_ : aa (Kd.R (Kd.int .i64) 3 ((w15.setCell ⟨o8, 0, none⟩ (.int .i64 ((bB aU dS).f0))).setCell ⟨o8, 1, none⟩ (.slice wC ((bB aU dS).f1).length wD)) w.heap.size (fun _ => True) u5 gY) := ⟨by (with_reducible repeat (first | apply Kd.dN | apply Kd.dO | apply Kd.dP)); exact Kd.bQ (Kd.dD (p := ⟨o8, 1, none⟩) (Kd.dD (p := ⟨o8, 0, none⟩) (Kd.rY gW.out qg.out (by decide)) (fun _ hk => hk.2) (.int .i64 ((bB aU dS).f0))) (fun _ hk => hk.2) (.slice wC ((bB aU dS).f1).length wD)) (fun _ hk => trivial)⟩; have n1_ : aa (((w15.setCell ⟨o8, 0, none⟩ (.int .i64 ((bB aU dS).f0))).setCell ⟨o8, 1, none⟩ (.slice wC ((bB aU dS).f1).length wD)).heap[kF]? = some (.cells #[.int .i64 ai, .int .i64 az, .int .i64 aA, .int .i64 ay, .slice bq af.length bf] 24 (0, 0))) := ⟨by (with_reducible repeat (first | refine aj ?_ _ | refine ak ?_ | refine ah ?_ _)); refine bM ?_ Kr.out _; (with_reducible repeat (first | refine aj ?_ _ | refine ak ?_ | refine ah ?_ _)); refine bM ?_ Kr.out _; (with_reducible repeat (first | refine aj ?_ _ | refine ak ?_ | refine ah ?_ _)); exact bZ.out⟩; have n2_ : aa (((w15.setCell ⟨o8, 0, none⟩ (.int .i64 ((bB aU dS).f0))).setCell ⟨o8, 1, none⟩ (.slice wC ((bB aU dS).f1).length wD)).heap[vF]? = some (.cells #[.int .i64 bH, .slice (some ad439) aU.length fI] 51 (0, 0))) := ⟨by (with_reducible repeat (first | refine aj ?_ _ | refine ak ?_ | refine ah ?_ _)); refine bM ?_ Kt.out _; (with_reducible repeat (first | refine aj ?_ _ | refine ak ?_ | refine ah ?_ _)); refine bM ?_ Kt.out _; (with_reducible repeat (first | refine aj ?_ _ | refine ak ?_ | refine ah ?_ _)); exact gm.out⟩; have n3_ : aa (((w15.setCell ⟨o8, 0, none⟩ (.int .i64 ((bB aU dS).f0))).setCell ⟨o8, 1, none⟩ (.slice wC ((bB aU dS).f1).length wD)).heap[o8]? = some (.cells #[.int .i64 ((bB aU dS).f0), .slice wC ((bB aU dS).f1).length wD] 51 (0, 0))) := ⟨by (with_reducible repeat (first | refine aj ?_ _ | refine ak ?_ | refine ah ?_ _)); refine bn (cs := #[.int .i64 ((bB aU dS).f0), .slice none 0 0]) ?_ 1 _ rfl; (with_reducible repeat (first | refine aj ?_ _ | refine ak ?_ | refine ah ?_ _)); refine bn (cs := #[.int .i64 0, .slice none 0 0]) ?_ 0 _ rfl; (with_reducible repeat (first | refine aj ?_ _ | refine ak ?_ | refine ah ?_ _)); exact qg.out⟩; have n4_ : aa (Below w.heap.size w ((w15.setCell ⟨o8, 0, none⟩ (.int .i64 ((bB aU dS).f0))).setCell ⟨o8, 1, none⟩ (.slice wC ((bB aU dS).f1).length wD))) := ⟨bl_⟩; (try clear gW)
         (try clear bZ)
         (try clear gm)
         (try clear qg)
         (try clear HB)
         generalize ((w15.setCell ⟨o8, 0, none⟩ (.int .i64 ((bB aU dS).f0))).setCell ⟨o8, 1, none⟩ (.slice wC ((bB aU dS).f1).length wD)) = w19 at n0_ n1_ n2_ n3_ n4_ ⊢
         have gW := n0_; have bZ := n1_; have gm := n2_; have qg := n3_; have HB := n4_; clear n0_ n1_ n2_ n3_ n4_; replace gW := aa.mk (Kd.dP gW.out); replace bZ := aa.mk (ak bZ.out); replace gm := aa.mk (ak gm.out); replace qg := aa.mk (ak qg.out); replace HB := aa.mk (bU HB.out); have p441 : 0 ≤ (dS : Int) := dt_; have q441 : dS < (af.length : Int) := dt_; obtain ⟨Bc, A441_4, c441_4, e441, EY, EZ, E5, E8, E9, WS, WT⟩ := eX bV.out dS p441 q441; have Fa := E9; have Fb := E8; have Fe := E5; have Ff := EZ; have Fg := EY; cases e441; replace EY := hc_ HB EY; replace EZ := hc_ HB EZ; replace E5 := hc_ HB E5; replace E8 := hc_ HB E8; replace E9 := hc_ HB E9; have WU := aa.mk WT; have HC441_4 := aa.mk WS; clear WT WS; replace p441 := eq_true p441; replace q441 := eq_true q441; refine r9 (n := 10) (S := fun w' => w'.cell? ⟨kF, 0, none⟩ = some (.int .i64 ai) ∧ w'.cell? ⟨kF, 1, none⟩ = some (.int .i64 az) ∧ w'.cell? ⟨kF, 2, none⟩ = some (.int .i64 aA) ∧ w'.cell? ⟨kF, 3, none⟩ = some (.int .i64 ay) ∧ w'.cell? ⟨kF, 4, none⟩ = some (.slice (some Bc) af.length bf) ∧ w'.cell? ⟨o8, 0, none⟩ = some (.int .i64 ((bB aU dS).f0)) ∧ w'.cell? ⟨o8, 1, none⟩ = some (.slice wC ((bB aU dS).f1).length wD) ∧ w'.cell? (Bc.add ((dS).toNat * 5)) = some (.int .i64 ((ag af dS).f0)) ∧ w'.cell? ⟨(Bc.add ((dS).toNat * 5)).block, (Bc.add ((dS).toNat * 5)).off + 1, none⟩ = some (.int .i64 ((ag af dS).f1)) ∧ w'.cell? ⟨(Bc.add ((dS).toNat * 5)).block, (Bc.add ((dS).toNat * 5)).off + 2, none⟩ = some (.int .i64 ((ag af dS).f2)) ∧ w'.cell? ⟨(Bc.add ((dS).toNat * 5)).block, (Bc.add ((dS).toNat * 5)).off + 3, none⟩ = some (.int .i64 ((ag af dS).f3)) ∧ w'.cell? ⟨(Bc.add ((dS).toNat * 5)).block, (Bc.add ((dS).toNat * 5)).off + 4, none⟩ = some (.slice A441_4 ((ag af dS).f4).length c441_4)) (ds := []) #[false, false, false, false, false, false, false, false, false, false] (by kernel_rfl) rfl rfl ⟨(aC bZ.out 0).trans rfl, (aC bZ.out 1).trans rfl, (aC bZ.out 2).trans rfl, (aC bZ.out 3).trans rfl, (aC bZ.out 4).trans rfl, (aC qg.out 0).trans rfl, (aC qg.out 1).trans rfl, ((HB.out.cell (World.block_lt_of_cell? w _ Fg)).trans Fg), ((HB.out.cell (World.block_lt_of_cell? w _ Ff)).trans Ff), ((HB.out.cell (World.block_lt_of_cell? w _ Fe)).trans Fe), ((HB.out.cell (World.block_lt_of_cell? w _ Fb)).trans Fb), ((HB.out.cell (World.block_lt_of_cell? w _ Fa)).trans Fa)⟩ (fun hHeld => ?_); refine lK aM.tab7 aM.bits7 (fun HT_ HW_ => ?_)
         generalize w19.drew = w20 at gW bZ gm qg HB WU EY EZ E5 E8 E9 hHeld ⊢
         refine pu_ HT_ 0 23 (bm 10 1) ?_
         refine pu_ HT_ 1 24 (bm 10 3) ?_
         refine pu_ HT_ 3 26 (bm 10 11) ?_
         refine ta_ HT_ HW_ 2 25 (bm 10 15) hHeld ?_
         refine pu_ HT_ 4 27 (bm 10 31) ?_
         refine ta_ HT_ HW_ 5 28 (bm 10 63) hHeld ?_
         refine ta_ HT_ HW_ 6 29 (bm 10 127) hHeld ?_
         refine oL (i := 7) (N := some 30) #[true, true, true, true, true, true, true, true, false, false] rfl rfl (iy HT_.out (by kernel_rfl)) (by decide) (fun K hK => ?_)
         refine tQ Tryd.func75 (by kernel_rfl) rfl #[.agg #[.int .i64 ((ag af dS).f0), .int .i64 ((ag af dS).f1), .int .i64 ((ag af dS).f2), .int .i64 ((ag af dS).f3), .slice A441_4 ((ag af dS).f4).length c441_4], .agg #[.int .i64 ((bB aU dS).f0), .slice wC ((bB aU dS).f1).length wD]] (by rfl) rfl rfl mp_ ?_
         with_reducible refine (ih k1 (by have := HK1.out; omega) ((ag af dS).f0) ((ag af dS).f1) ((ag af dS).f2) ((ag af dS).f3) _ _ ((ag af dS).f4) ((bB aU dS).f0) _ _ ((bB aU dS).f1) t442 _ ?aQ ?aT ?dK ?dL A13.out).mono ?_
         (case aQ => exact cb_ (Kd.bA WU.out HB.out))
         (case aT => exact HC441_4.out)
         (case dK => exact cb_ (Kd.bA HR439_1.out HB.out))
         (case dL => exact HC439_1.out)
         rintro e w21 ⟨v443, rfl, ho0, hb⟩
         refine ⟨_, rfl, ?_⟩
         have PM := aa.mk (Kd.dJ (Kd.lG ho0 (Kd.lC (pR_ gW.out))) (aG bl_)); replace gW := aa.mk (Kd.jU (pR_ gW.out) (Kd.iI ho0) hb); replace bZ := kb_ bZ hb; replace gm := kb_ gm hb; replace qg := kb_ qg hb; replace HB := aa.mk (au bl_ hb); (try clear hb)
         (try clear hb2)
         (try clear hk)
         (try clear hi)
         (try clear ho0)
         obtain ⟨DC, DD, eo23⟩ := Kd.dG PM.out; (first | subst eo23 | (injection eo23 with f1_ f2_ f3_; have f4_ := f1_.symm; have f5_ := f3_.symm; clear f1_ f2_ f3_; subst f4_; subst f5_))
         refine hK.out _ _ ⟨(aC bZ.out 0).trans rfl, (aC bZ.out 1).trans rfl, (aC bZ.out 2).trans rfl, (aC bZ.out 3).trans rfl, (aC bZ.out 4).trans rfl, (aC qg.out 0).trans rfl, (aC qg.out 1).trans rfl, ((HB.out.cell (World.block_lt_of_cell? w _ Fg)).trans Fg), ((HB.out.cell (World.block_lt_of_cell? w _ Ff)).trans Ff), ((HB.out.cell (World.block_lt_of_cell? w _ Fe)).trans Fe), ((HB.out.cell (World.block_lt_of_cell? w _ Fb)).trans Fb), ((HB.out.cell (World.block_lt_of_cell? w _ Fa)).trans Fa)⟩ (fun hHeld => ?_)
         clear hK K; refine kS (a' := ?_) ?_ ?_
         rotate_left
         ·show Act.put _ (some 30) _ = _
          simp only [Act.put, List.setIfInBounds_toArray, List.set_cons_zero, List.set_cons_succ, eT, eY]; rfl
         refine oL (i := 8) (N := some 31) #[true, true, true, true, true, true, true, true, true, false] rfl rfl (iy HT_.out (by kernel_rfl)) (by decide) (fun K hK => ?_)
         refine Kd.vJ (Kd.int .i64) (w0 := w) w.heap.size (by rfl) (.tmp 23) (.tmp 30) 29 3 (.int .i64 0) 8 rfl Tryd.underlying29 info3 rfl (by decide) (by omega) u5 gY t442 _ _ _ (fun k_ => some k_ ≠ (.slice DC t442.length DD : Value).ownBlock) (fun _ => False) rfl rfl ?aO ?aR (fun _ _ h => h) (fun _ h => h.elim) ?aF ?aB ?aS ?aL ?_
         (case aR => exact cb_ ((Kd.cK PM.out).2.2))
         (case aB => exact bl_)
         (case aF => exact (fun k_ hk => Kd.fresh' (Kd.lC (pR_ PM.out)) k_ hk))
         (case aO => exact (by (with_reducible repeat (first | apply Kd.dN | apply Kd.dO | apply Kd.dP)); exact Kd.bQ gW.out (fun _ hk => hk.2)))
         (case aS => exact (aG bl_))
         (case aL => have := LMc14.out; omega)
         intro v446 w22 ho hb hg hat; rw [← Ny445.out] at ho; have HO447 := aa.mk (ho); replace bZ := aa.mk (fG (g := kF) (o := .cells #[.int .i64 ai, .int .i64 az, .int .i64 aA, .int .i64 ay, .slice (some Bc) af.length bf] 24 (0, 0)) bk_ hg (Kd.rZ gW.out bZ.out (by decide))); replace gm := aa.mk (fG (g := vF) (o := .cells #[.int .i64 bH, .slice (some ad439) aU.length fI] 51 (0, 0)) bk_ hg (Kd.rZ gW.out gm.out (by decide))); replace qg := aa.mk (fG (g := o8) (o := .cells #[.int .i64 ((bB aU dS).f0), .slice wC ((bB aU dS).f1).length wD] 51 (0, 0)) bk_ hg (Kd.rZ gW.out qg.out (by decide))); replace PM := aa.mk (Kd.GR (ok := (fun _ => True)) (pR_ PM.out) hg hat); replace HB := aa.mk (hb); clear gW; clear ho hb hg hat; refine hK.out _ _ ⟨(aC bZ.out 0).trans rfl, (aC bZ.out 1).trans rfl, (aC bZ.out 2).trans rfl, (aC bZ.out 3).trans rfl, (aC bZ.out 4).trans rfl, (aC qg.out 0).trans rfl, (aC qg.out 1).trans rfl, ((HB.out.cell (World.block_lt_of_cell? w _ Fg)).trans Fg), ((HB.out.cell (World.block_lt_of_cell? w _ Ff)).trans Ff), ((HB.out.cell (World.block_lt_of_cell? w _ Fe)).trans Fe), ((HB.out.cell (World.block_lt_of_cell? w _ Fb)).trans Fb), ((HB.out.cell (World.block_lt_of_cell? w _ Fa)).trans Fa)⟩ (fun hHeld => ?_)
         clear hK K; refine kS (a' := ?_) ?_ ?_
         rotate_left
         ·show Act.put _ (some 31) _ = _
          simp only [Act.put, List.setIfInBounds_toArray, List.set_cons_zero, List.set_cons_succ, eT, eY]; rfl
         refine pu_ HT_ 9 5 #[true, true, true, true, true, true, true, true, true, true] ?_
         refine wP (pF HT_.out (by kernel_rfl)) ?_
         try go_wp2
         go_roundg k1
         case measure => have := HK1.out; omega
         case rel => exact ⟨(y445), (wrap64 (dS + 1)), rs_, H', ⟨by have := HK1.out; omega⟩, ⟨by (with_reducible repeat (first | apply Kd.dN | apply Kd.dO | apply Kd.dP)); exact Kd.bQ HO447.out (fun _ hk => trivial)⟩, ⟨bk_⟩, ⟨bk_⟩, ⟨bl_⟩⟩
        ·rw [if_neg c14] at H; exact absurd H (by simp)
       ·rw [if_neg c12] at H; exact absurd H (by simp)
      ·rw [if_neg c11] at H; exact absurd H (by simp)
     ·rw [if_neg c10] at H; exact absurd H (by simp)
    ·rw [if_neg c9] at H; have vQ : decide (dS < (aU.length : Int)) = false := decide_eq_false c9; clear c9; obtain rfl := Option.some.inj H; go_wp2; go_ret; exact ⟨_, re_, pR_ gW.out, bl_⟩
 ·rw [if_neg c3] at H; have j5 : (ai == 5) = false := beq_eq_false_iff_ne.mpr c3; have oM : (ai != 5) = true := bne_iff_ne.mpr c3; by_cases c24 : ai = 6
  ·rw [if_pos c24] at H; have tX : (ai == 6) = true := beq_iff_eq.mpr c24; have OX : (ai != 6) = false := bne_eq_false_iff_eq.mpr c24; clear c24; obtain ⟨y448, PN⟩ : ∃ y_ : List Int, y_ = (([(aU.length : Int)] : List Int)) := ⟨_, rfl⟩; replace H : (aM.l1 k y448 aU (aU.length : Int) 0 ai az aA ay af bH aU) = some r := by first | (rw [PN]; with_reducible exact H) | (have H2_ := (Option.bind_some _ _).symm.trans H; rw [PN]; with_reducible exact H2_) | (have H2_ := (Option.bind_some _ _).symm.trans H; with_reducible exact H2_) | with_reducible exact H | (rw [PN]; exact H) | exact H
   have Ny448 := aa.mk PN; clear PN; have H' := aa.mk H; clear H; go_enter Tryd.func75, Tryd.ntmps75; go_wp2_with (first | ((with_reducible refine aY (N := 2) rfl ?_); refine aZ ?hg (N := 2) ?hd (cs := #[.int .i64 ai, .int .i64 az, .int .i64 aA, .int .i64 ay, .slice bq af.length bf]) (t := 24) ?hr ?_; (case hd => rfl); (case hg => rfl); (case hr => first | (go_simp; done) | (go_simp; rfl)); intro kF hg w25 aK hb; have bZ := aa.mk (aK); have PI : aa (w.heap.size ≤ kF) := gw_ hg (aG bl_); have GE437 := PI; replace HB := aa.mk (au bl_ hb); clear hb aK hg) | ((with_reducible refine aY (N := 3) rfl ?_); refine aZ ?hg (N := 3) ?hd (cs := #[.int .i64 bH, .slice gD aU.length fI]) (t := 51) ?hr ?_; (case hd => rfl); (case hg => rfl); (case hr => first | (go_simp; done) | (go_simp; rfl)); intro vF hg w26 aK hb; have gm := aa.mk (aK); have PK : aa (w.heap.size ≤ vF) := gw_ hg (aG bl_); have GE438 := PK; have Ao := nl_ bZ hg; have Ap := ng_ bZ hg; replace bZ := kb_ bZ hb; replace HB := aa.mk (au bl_ hb); clear hb aK hg; have Js := Ao.out; have Jt := Ap.out; obtain ⟨l6, l7, mJ, mK, mM, l8, l9, mO, mP, mQ⟩ := bF bZ.out; obtain ⟨nE, nG, nH, nI⟩ := eQ gm.out) | ((with_reducible refine aY (N := 39) rfl ?_); refine Kd.qb (Kd.int .i64) _ 3 ?hg (N := 39) ?hd (xs := ([(aU.length : Int)] : List Int)) (inner := [.int .i64 (aU.length : Int)]) (ok := fun _ => True) (okp := fun _ => True) ?hr ?hp (fun _ hk => hk) trivial (Below.refl _ _) (Nat.le_refl _) (by simp) ?_; (case hd => rfl); (case hg => rfl); (case hr => first | (go_simp; done) | (go_simp; rfl)); (case hp => exact (dm.one (show Kd.M (Kd.int .i64) _ _ _ (aU.length : Int) [.int .i64 (aU.length : Int)] from rfl) (dm.none _ _))); intro v449 w30 ho31 hb hg_ iL; clear hg_ iL; (first | rw [← Ny448.out] at ho31 | (simp only [Int.reduceToNat] at ho31; rw [← Ny448.out] at ho31)); have HO450 := aa.mk (Kd.dJ ho31 (aG bl_)); replace bZ := kb_ bZ hb; replace gm := kb_ gm hb; replace HB := aa.mk (au bl_ hb); clear hb ho31; obtain ⟨sG, sH, sI, sJ⟩ := eQ gm.out))
   go_loopg [8, 43] k (fun kq v8 v43 w' => ∃ (x8_1 : List Int) (ig : Int), v43 = .int .i64 ig ∧ aa (aM.l1 kq x8_1 aU (aU.length : Int) ig ai az aA ay af bH aU = some r) ∧ aa (kq ≤ k) ∧ aa (Kd.R (Kd.int .i64) 3 w' w.heap.size (fun _ => True) v8 x8_1) ∧ aa (w'.heap[kF]? = some (.cells #[.int .i64 ai, .int .i64 az, .int .i64 aA, .int .i64 ay, (.slice bq af.length bf)] 24 (0, 0))) ∧ aa (w'.heap[vF]? = some (.cells #[.int .i64 bH, (.slice gD aU.length fI)] 51 (0, 0))) ∧ aa (Below w.heap.size w w'))
   case atStart => exact ⟨(y448), (0), rs_, H', ⟨Nat.le_refl _⟩, ⟨pR_ HO450.out⟩, ⟨bk_⟩, ⟨bk_⟩, ⟨bl_⟩⟩
   case round =>
    clear H'; (try clear c1); (try clear c2); (try clear p2); (try clear c3); (try clear j5); (try clear oM); (try clear c4); (try clear p4); (try clear q4); (try clear hx4); (try clear c6); (try clear p6); (try clear c7); (try clear c9); (try clear vQ); (try clear c10); (try clear oI); (try clear c11); (try clear yZ); (try clear c12); (try clear oV); (try clear c14); (try clear c16); (try clear c17); (try clear c24); (try clear tX); (try clear OX); (try clear c27); (try clear lT lU lV lW); (try clear l6 l7 mJ mK mM l8 l9 mO mP mQ); (try clear nE nG nH nI); (try clear sG sH sI sJ); (try clear Dj Dk J5 OT OU FZ Dl J6 OV OW); (try clear uq uu uw uy); (try clear M3); (try clear M4); (try clear EY); (try clear EZ); (try clear E5); (try clear E8); (try clear E9); (try clear p2); (try clear p439); (try clear p441); (try clear q439); (try clear q441); obtain ⟨x8_1, ig, rfl, HA, HK1, lu, bZ, gm, HB⟩ := hrel; cases gk with
    | zero => exact absurd HA.out (by simp [aM.l1])
    | succ k1 =>
     have H := HA.out; clear HA; simp only [aM.l1] at H; by_cases c33 : ig < (aU.length : Int)
     ·rw [if_pos c33] at H; have xD : decide (ig < (aU.length : Int)) = true := decide_eq_true c33; clear c33; by_cases c34 : 0 ≤ ig
      ·rw [if_pos c34] at H; have JD : decide (0 ≤ ig) = true := decide_eq_true c34; clear c34; by_cases c35 : ig < (aU.length : Int)
       ·rw [if_pos c35] at H; have c35b0 : decide (ig < (aU.length : Int)) = true := decide_eq_true c35; clear c35; by_cases c36 : 0 < (af.length : Int)
        ·rw [if_pos c36] at H; have Ba : decide (0 < (af.length : Int)) = true := decide_eq_true c36; have M5 : decide (0 < af.length) = true := decide_eq_true (by omega); clear c36; replace H := Option.bind_eq_some_iff.mp H; obtain ⟨t454, A370, H⟩ := H; replace H : (if x8_1.length + t454.length < 17592186044416 then (aM.l1 k1 (x8_1 ++ t454) aU (aU.length : Int) (wrap64 (ig + 1)) ai az aA ay af bH aU) else (none)) = some r := H; have A37 := aa.mk A370; clear A370; by_cases c38 : x8_1.length + t454.length < 17592186044416
         ·rw [if_pos c38] at H; have LMc38 := aa.mk c38; clear c38; obtain ⟨y457, PO⟩ : ∃ y_ : List Int, y_ = (x8_1 ++ t454) := ⟨_, rfl⟩; replace H : (aM.l1 k1 y457 aU (aU.length : Int) (wrap64 (ig + 1)) ai az aA ay af bH aU) = some r := by first | (rw [PO]; with_reducible exact H) | (have H2_ := (Option.bind_some _ _).symm.trans H; rw [PO]; with_reducible exact H2_) | (have H2_ := (Option.bind_some _ _).symm.trans H; with_reducible exact H2_) | with_reducible exact H | (rw [PO]; exact H) | exact H
          have Ny457 := aa.mk PO; clear PO; have H' := aa.mk H; clear H; have p451 : 0 ≤ (ig : Int) := dt_; have q451 : ig < (aU.length : Int) := dt_; obtain ⟨ad451, wE, wF, e451, R9, Sa, WV, WW⟩ := vN mq.out ig p451 q451; cases e451; replace R9 := hc_ HB R9; replace Sa := hc_ HB Sa; have HR451_1 := aa.mk WW; have HC451_1 := aa.mk WV; clear WW WV; replace p451 := eq_true p451; replace q451 := eq_true q451; try go_wp2_with (first | ((with_reducible refine aY (N := 10) rfl ?_); refine aZ ?hg (N := 10) ?hd (cs := #[.int .i64 0, .slice none 0 0]) (t := 51) ?hr ?_; (case hd => rfl); (case hg => rfl); (case hr => first | (go_simp; done) | (go_simp; rfl)); intro o9 hg w39 aK hb; have qh := aa.mk (aK); have GW452 : aa (w.heap.size ≤ o9) := gw_ hg (aG bl_); have GE452 := GW452; have Ku := nl_ bZ hg; have X9 := ng_ bZ hg; have Kv := nl_ gm hg; have Ya := ng_ gm hg; replace lu := aa.mk (Kd.cB (pR_ lu.out) hb); replace bZ := kb_ bZ hb; replace gm := kb_ gm hb; replace HB := aa.mk (au bl_ hb); clear hb aK hg; have hnb40 := X9.out; have hnc40 := Ku.out; have hnb41 := Ya.out; have hnc41 := Kv.out; obtain ⟨zY, zZ, z8, Aa⟩ := eQ qh.out))
          have n0_ : aa (Kd.R (Kd.int .i64) 3 ((w39.setCell ⟨o9, 0, none⟩ (.int .i64 ((bB aU ig).f0))).setCell ⟨o9, 1, none⟩ (.slice wE ((bB aU ig).f1).length wF)) w.heap.size (fun _ => True) u8 x8_1) := ⟨by (with_reducible repeat (first | apply Kd.dN | apply Kd.dO | apply Kd.dP)); exact Kd.bQ (Kd.dD (p := ⟨o9, 1, none⟩) (Kd.dD (p := ⟨o9, 0, none⟩) (Kd.rY lu.out qh.out (by decide)) (fun _ hk => hk.2) (.int .i64 ((bB aU ig).f0))) (fun _ hk => hk.2) (.slice wE ((bB aU ig).f1).length wF)) (fun _ hk => trivial)⟩; have n1_ : aa (((w39.setCell ⟨o9, 0, none⟩ (.int .i64 ((bB aU ig).f0))).setCell ⟨o9, 1, none⟩ (.slice wE ((bB aU ig).f1).length wF)).heap[kF]? = some (.cells #[.int .i64 ai, .int .i64 az, .int .i64 aA, .int .i64 ay, .slice bq af.length bf] 24 (0, 0))) := ⟨by (with_reducible repeat (first | refine aj ?_ _ | refine ak ?_ | refine ah ?_ _)); refine bM ?_ Ku.out _; (with_reducible repeat (first | refine aj ?_ _ | refine ak ?_ | refine ah ?_ _)); refine bM ?_ Ku.out _; (with_reducible repeat (first | refine aj ?_ _ | refine ak ?_ | refine ah ?_ _)); exact bZ.out⟩; have n2_ : aa (((w39.setCell ⟨o9, 0, none⟩ (.int .i64 ((bB aU ig).f0))).setCell ⟨o9, 1, none⟩ (.slice wE ((bB aU ig).f1).length wF)).heap[vF]? = some (.cells #[.int .i64 bH, .slice (some ad451) aU.length fI] 51 (0, 0))) := ⟨by (with_reducible repeat (first | refine aj ?_ _ | refine ak ?_ | refine ah ?_ _)); refine bM ?_ Kv.out _; (with_reducible repeat (first | refine aj ?_ _ | refine ak ?_ | refine ah ?_ _)); refine bM ?_ Kv.out _; (with_reducible repeat (first | refine aj ?_ _ | refine ak ?_ | refine ah ?_ _)); exact gm.out⟩; have n3_ : aa (((w39.setCell ⟨o9, 0, none⟩ (.int .i64 ((bB aU ig).f0))).setCell ⟨o9, 1, none⟩ (.slice wE ((bB aU ig).f1).length wF)).heap[o9]? = some (.cells #[.int .i64 ((bB aU ig).f0), .slice wE ((bB aU ig).f1).length wF] 51 (0, 0))) := ⟨by (with_reducible repeat (first | refine aj ?_ _ | refine ak ?_ | refine ah ?_ _)); refine bn (cs := #[.int .i64 ((bB aU ig).f0), .slice none 0 0]) ?_ 1 _ rfl; (with_reducible repeat (first | refine aj ?_ _ | refine ak ?_ | refine ah ?_ _)); refine bn (cs := #[.int .i64 0, .slice none 0 0]) ?_ 0 _ rfl; (with_reducible repeat (first | refine aj ?_ _ | refine ak ?_ | refine ah ?_ _)); exact qh.out⟩; have n4_ : aa (Below w.heap.size w ((w39.setCell ⟨o9, 0, none⟩ (.int .i64 ((bB aU ig).f0))).setCell ⟨o9, 1, none⟩ (.slice wE ((bB aU ig).f1).length wF))) := ⟨bl_⟩; (try clear lu)
          (try clear bZ)
          (try clear gm)
          (try clear qh)
          (try clear HB)
          generalize ((w39.setCell ⟨o9, 0, none⟩ (.int .i64 ((bB aU ig).f0))).setCell ⟨o9, 1, none⟩ (.slice wE ((bB aU ig).f1).length wF)) = w43 at n0_ n1_ n2_ n3_ n4_ ⊢
          have lu := n0_; have bZ := n1_; have gm := n2_; have qh := n3_; have HB := n4_; clear n0_ n1_ n2_ n3_ n4_; replace lu := aa.mk (Kd.dP lu.out); replace bZ := aa.mk (ak bZ.out); replace gm := aa.mk (ak gm.out); replace qh := aa.mk (ak qh.out); replace HB := aa.mk (bU HB.out); have p453 : 0 ≤ (0 : Int) := (by omega); have q453 : 0 < (af.length : Int) := dt_; obtain ⟨Be, A453_4, c453_4, e453, Fh, Fj, Fp, Fq, Fs, WX, WY⟩ := eX bV.out 0 p453 q453; have Cy := Fs; (try simp only [z0_, Nat.zero_mul, Addr.add_zero'] at Cy)
          have Cz := Fq; (try simp only [z0_, Nat.zero_mul, Addr.add_zero'] at Cz)
          have CB := Fp; (try simp only [z0_, Nat.zero_mul, Addr.add_zero'] at CB)
          have CE := Fj; (try simp only [z0_, Nat.zero_mul, Addr.add_zero'] at CE)
          have CF := Fh; (try simp only [z0_, Nat.zero_mul, Addr.add_zero'] at CF)
          cases e453; have qi453 : (0 < af.length) = True := eq_true (by omega); (try simp only [z0_, Nat.zero_mul, Addr.add_zero'] at Fh Fj Fp Fq Fs)
          replace Fh := hc_ HB Fh; replace Fj := hc_ HB Fj; replace Fp := hc_ HB Fp; replace Fq := hc_ HB Fq; replace Fs := hc_ HB Fs; have WZ := aa.mk WY; have HC453_4 := aa.mk WX; clear WY WX; replace p453 := eq_true p453; replace q453 := eq_true q453; refine r9 (n := 9) (S := fun w' => w'.cell? ⟨kF, 0, none⟩ = some (.int .i64 ai) ∧ w'.cell? ⟨kF, 1, none⟩ = some (.int .i64 az) ∧ w'.cell? ⟨kF, 2, none⟩ = some (.int .i64 aA) ∧ w'.cell? ⟨kF, 3, none⟩ = some (.int .i64 ay) ∧ w'.cell? ⟨kF, 4, none⟩ = some (.slice (some Be) af.length bf) ∧ w'.cell? ⟨o9, 0, none⟩ = some (.int .i64 ((bB aU ig).f0)) ∧ w'.cell? ⟨o9, 1, none⟩ = some (.slice wE ((bB aU ig).f1).length wF) ∧ w'.cell? Be = some (.int .i64 ((ag af 0).f0)) ∧ w'.cell? ⟨Be.block, Be.off + 1, none⟩ = some (.int .i64 ((ag af 0).f1)) ∧ w'.cell? ⟨Be.block, Be.off + 2, none⟩ = some (.int .i64 ((ag af 0).f2)) ∧ w'.cell? ⟨Be.block, Be.off + 3, none⟩ = some (.int .i64 ((ag af 0).f3)) ∧ w'.cell? ⟨Be.block, Be.off + 4, none⟩ = some (.slice A453_4 ((ag af 0).f4).length c453_4)) (ds := []) #[false, false, false, false, false, false, false, false, false] (by kernel_rfl) rfl rfl ⟨(aC bZ.out 0).trans rfl, (aC bZ.out 1).trans rfl, (aC bZ.out 2).trans rfl, (aC bZ.out 3).trans rfl, (aC bZ.out 4).trans rfl, (aC qh.out 0).trans rfl, (aC qh.out 1).trans rfl, ((HB.out.cell (World.block_lt_of_cell? w _ CF)).trans CF), ((HB.out.cell (World.block_lt_of_cell? w _ CE)).trans CE), ((HB.out.cell (World.block_lt_of_cell? w _ CB)).trans CB), ((HB.out.cell (World.block_lt_of_cell? w _ Cz)).trans Cz), ((HB.out.cell (World.block_lt_of_cell? w _ Cy)).trans Cy)⟩ (fun hHeld => ?_); refine lK aM.tab15 aM.bits15 (fun HT_ HW_ => ?_)
          generalize w43.drew = w44 at lu bZ gm qh HB WZ Fh Fj Fp Fq Fs hHeld ⊢
          refine pu_ HT_ 0 47 (bm 9 1) ?_
          refine pu_ HT_ 1 48 (bm 9 3) ?_
          refine ta_ HT_ HW_ 2 49 (bm 9 7) hHeld ?_
          refine pu_ HT_ 3 50 (bm 9 15) ?_
          refine ta_ HT_ HW_ 4 51 (bm 9 31) hHeld ?_
          refine ta_ HT_ HW_ 5 52 (bm 9 63) hHeld ?_
          refine oL (i := 6) (N := some 53) #[true, true, true, true, true, true, true, false, false] rfl rfl (iy HT_.out (by kernel_rfl)) (by decide) (fun K hK => ?_)
          refine tQ Tryd.func75 (by kernel_rfl) rfl #[.agg #[.int .i64 ((ag af 0).f0), .int .i64 ((ag af 0).f1), .int .i64 ((ag af 0).f2), .int .i64 ((ag af 0).f3), .slice A453_4 ((ag af 0).f4).length c453_4], .agg #[.int .i64 ((bB aU ig).f0), .slice wE ((bB aU ig).f1).length wF]] (by rfl) rfl rfl mp_ ?_
          with_reducible refine (ih k1 (by have := HK1.out; omega) ((ag af 0).f0) ((ag af 0).f1) ((ag af 0).f2) ((ag af 0).f3) _ _ ((ag af 0).f4) ((bB aU ig).f0) _ _ ((bB aU ig).f1) t454 _ ?aQ ?aT ?dK ?dL A37.out).mono ?_
          (case aQ => exact cb_ (Kd.bA WZ.out HB.out))
          (case aT => exact HC453_4.out)
          (case dK => exact cb_ (Kd.bA HR451_1.out HB.out))
          (case dL => exact HC451_1.out)
          rintro e w45 ⟨v455, rfl, ho0, hb⟩
          refine ⟨_, rfl, ?_⟩
          have PQ := aa.mk (Kd.dJ (Kd.lG ho0 (Kd.lC (pR_ lu.out))) (aG bl_)); replace lu := aa.mk (Kd.jU (pR_ lu.out) (Kd.iI ho0) hb); replace bZ := kb_ bZ hb; replace gm := kb_ gm hb; replace qh := kb_ qh hb; replace HB := aa.mk (au bl_ hb); (try clear hb)
          (try clear hb2)
          (try clear hk)
          (try clear hi)
          (try clear ho0)
          obtain ⟨Ao47, co47, eo47⟩ := Kd.dG PQ.out; (first | subst eo47 | (injection eo47 with f1_ f2_ f3_; have f4_ := f1_.symm; have f5_ := f3_.symm; clear f1_ f2_ f3_; subst f4_; subst f5_))
          refine hK.out _ _ ⟨(aC bZ.out 0).trans rfl, (aC bZ.out 1).trans rfl, (aC bZ.out 2).trans rfl, (aC bZ.out 3).trans rfl, (aC bZ.out 4).trans rfl, (aC qh.out 0).trans rfl, (aC qh.out 1).trans rfl, ((HB.out.cell (World.block_lt_of_cell? w _ CF)).trans CF), ((HB.out.cell (World.block_lt_of_cell? w _ CE)).trans CE), ((HB.out.cell (World.block_lt_of_cell? w _ CB)).trans CB), ((HB.out.cell (World.block_lt_of_cell? w _ Cz)).trans Cz), ((HB.out.cell (World.block_lt_of_cell? w _ Cy)).trans Cy)⟩ (fun hHeld => ?_)
          clear hK K; refine kS (a' := ?_) ?_ ?_
          rotate_left
          ·show Act.put _ (some 53) _ = _
           simp only [Act.put, List.setIfInBounds_toArray, List.set_cons_zero, List.set_cons_succ, eT, eY]; rfl
          refine oL (i := 7) (N := some 54) #[true, true, true, true, true, true, true, true, false] rfl rfl (iy HT_.out (by kernel_rfl)) (by decide) (fun K hK => ?_)
          refine Kd.vJ (Kd.int .i64) (w0 := w) w.heap.size (by rfl) (.tmp 47) (.tmp 53) 29 3 (.int .i64 0) 8 rfl Tryd.underlying29 info3 rfl (by decide) (by omega) u8 x8_1 t454 _ _ _ (fun k_ => some k_ ≠ (.slice Ao47 t454.length co47 : Value).ownBlock) (fun _ => False) rfl rfl ?aO ?aR (fun _ _ h => h) (fun _ h => h.elim) ?aF ?aB ?aS ?aL ?_
          (case aR => exact cb_ ((Kd.cK PQ.out).2.2))
          (case aB => exact bl_)
          (case aF => exact (fun k_ hk => Kd.fresh' (Kd.lC (pR_ PQ.out)) k_ hk))
          (case aO => exact (by (with_reducible repeat (first | apply Kd.dN | apply Kd.dO | apply Kd.dP)); exact Kd.bQ lu.out (fun _ hk => hk.2)))
          (case aS => exact (aG bl_))
          (case aL => have := LMc38.out; omega)
          intro v458 w46 ho hb hg hat; rw [← Ny457.out] at ho; have HO459 := aa.mk (ho); replace bZ := aa.mk (fG (g := kF) (o := .cells #[.int .i64 ai, .int .i64 az, .int .i64 aA, .int .i64 ay, .slice (some Be) af.length bf] 24 (0, 0)) bk_ hg (Kd.rZ lu.out bZ.out (by decide))); replace gm := aa.mk (fG (g := vF) (o := .cells #[.int .i64 bH, .slice (some ad451) aU.length fI] 51 (0, 0)) bk_ hg (Kd.rZ lu.out gm.out (by decide))); replace qh := aa.mk (fG (g := o9) (o := .cells #[.int .i64 ((bB aU ig).f0), .slice wE ((bB aU ig).f1).length wF] 51 (0, 0)) bk_ hg (Kd.rZ lu.out qh.out (by decide))); replace PQ := aa.mk (Kd.GR (ok := (fun _ => True)) (pR_ PQ.out) hg hat); replace HB := aa.mk (hb); clear lu; clear ho hb hg hat; refine hK.out _ _ ⟨(aC bZ.out 0).trans rfl, (aC bZ.out 1).trans rfl, (aC bZ.out 2).trans rfl, (aC bZ.out 3).trans rfl, (aC bZ.out 4).trans rfl, (aC qh.out 0).trans rfl, (aC qh.out 1).trans rfl, ((HB.out.cell (World.block_lt_of_cell? w _ CF)).trans CF), ((HB.out.cell (World.block_lt_of_cell? w _ CE)).trans CE), ((HB.out.cell (World.block_lt_of_cell? w _ CB)).trans CB), ((HB.out.cell (World.block_lt_of_cell? w _ Cz)).trans Cz), ((HB.out.cell (World.block_lt_of_cell? w _ Cy)).trans Cy)⟩ (fun hHeld => ?_)
          clear hK K; refine kS (a' := ?_) ?_ ?_
          rotate_left
          ·show Act.put _ (some 54) _ = _
           simp only [Act.put, List.setIfInBounds_toArray, List.set_cons_zero, List.set_cons_succ, eT, eY]; rfl
          refine pu_ HT_ 8 8 #[true, true, true, true, true, true, true, true, true] ?_
          refine wP (pF HT_.out (by kernel_rfl)) ?_
          try go_wp2
          go_roundg k1
          case measure => have := HK1.out; omega
          case rel => exact ⟨(y457), (wrap64 (ig + 1)), rs_, H', ⟨by have := HK1.out; omega⟩, ⟨by (with_reducible repeat (first | apply Kd.dN | apply Kd.dO | apply Kd.dP)); exact Kd.bQ HO459.out (fun _ hk => trivial)⟩, ⟨bk_⟩, ⟨bk_⟩, ⟨bl_⟩⟩
         ·rw [if_neg c38] at H; exact absurd H (by simp)
        ·rw [if_neg c36] at H; exact absurd H (by simp)
       ·rw [if_neg c35] at H; exact absurd H (by simp)
      ·rw [if_neg c34] at H; exact absurd H (by simp)
     ·rw [if_neg c33] at H; have xD : decide (ig < (aU.length : Int)) = false := decide_eq_false c33; clear c33; have H' := aa.mk H; clear H; have hnb48 := Ao.out; have hnc48 := Ap.out; obtain ⟨MO, MP, MQ, MR, MS, MU, MV, MW, MX, MZ⟩ := bF bZ.out; obtain ⟨IM, IP, IQ, IU⟩ := eQ gm.out; go_wp2; go_loopg [8, 62] k1 (fun kq v8 v62 w' => ∃ (x8_2 : List Int) (C9 : Int), v62 = .int .i64 C9 ∧ aa (aM.l2 kq x8_2 (wrap64 (ay - (aU.length : Int))) C9 ai az aA ay af = some r) ∧ aa (kq ≤ k1) ∧ aa (Kd.R (Kd.int .i64) 3 w' w.heap.size (fun _ => True) v8 x8_2) ∧ aa (w'.heap[kF]? = some (.cells #[.int .i64 ai, .int .i64 az, .int .i64 aA, .int .i64 ay, (.slice bq af.length bf)] 24 (0, 0))) ∧ aa (w'.heap[vF]? = some (.cells #[.int .i64 bH, (.slice gD aU.length fI)] 51 (0, 0))) ∧ aa (Below w.heap.size w w'))
      case atStart => exact ⟨(x8_1), (0), rs_, H', ⟨Nat.le_refl _⟩, ⟨pR_ lu.out⟩, ⟨bk_⟩, ⟨bk_⟩, ⟨bl_⟩⟩
      case round =>
       clear H'; (try clear c1); (try clear c2); (try clear p2); (try clear c3); (try clear j5); (try clear oM); (try clear c4); (try clear p4); (try clear q4); (try clear hx4); (try clear qi4); (try clear c6); (try clear p6); (try clear c7); (try clear c9); (try clear vQ); (try clear c10); (try clear oI); (try clear c11); (try clear yZ); (try clear c12); (try clear oV); (try clear c14); (try clear c16); (try clear c17); (try clear c24); (try clear tX); (try clear OX); (try clear c27); (try clear c33); (try clear xD); (try clear c34); (try clear JD); (try clear c35); (try clear c35b0); (try clear c36); (try clear Ba); (try clear M5); (try clear c38); (try clear c40); (try clear c41); (try clear c43); (try clear p43); (try clear q43); (try clear hx43); (try clear c44); (try clear p44); (try clear q44); (try clear hx44); (try clear c45); (try clear p45); (try clear q45); (try clear hx45); (try clear qi45); (try clear c48); (try clear lT lU lV lW); (try clear l6 l7 mJ mK mM l8 l9 mO mP mQ); (try clear nE nG nH nI); (try clear sG sH sI sJ); (try clear zY zZ z8 Aa); (try clear MO MP MQ MR MS MU MV MW MX MZ); (try clear IM IP IQ IU); (try clear Dj Dk J5 OT OU FZ Dl J6 OV OW); (try clear uq uu uw uy); (try clear M3); (try clear M4); (try clear EY); (try clear EZ); (try clear E5); (try clear E8); (try clear E9); (try clear R9); (try clear Sa); (try clear Fh); (try clear Fj); (try clear Fp); (try clear Fq); (try clear Fs); (try clear p2); (try clear p4); (try clear p439); (try clear p441); (try clear p451); (try clear p453); (try clear p6); (try clear q4); (try clear q439); (try clear q441); (try clear q451); (try clear q453); obtain ⟨x8_2, C9, rfl, HA, HK2, lu, bZ, gm, HB⟩ := hrel; cases gk with
       | zero => exact absurd HA.out (by simp [aM.l2])
       | succ k2 =>
        have H := HA.out; clear HA; simp only [aM.l2] at H; by_cases c51 : C9 < (wrap64 (ay - (aU.length : Int)))
        ·rw [if_pos c51] at H; have c51b0 : decide (C9 < (wrap64 (ay - (aU.length : Int)))) = true := decide_eq_true c51; clear c51; by_cases c52 : 0 < (af.length : Int)
         ·rw [if_pos c52] at H; have c52b0 : decide (0 < (af.length : Int)) = true := decide_eq_true c52; have c52b1 : decide (0 < af.length) = true := decide_eq_true (by omega); clear c52; replace H := Option.bind_eq_some_iff.mp H; obtain ⟨⟨t462, t463⟩, A530, H⟩ := H; replace H : ((aM.f k2 ((ag af 0).f0) ((ag af 0).f1) ((ag af 0).f2) ((ag af 0).f3) ((ag af 0).f4) t462 t463).bind fun Cx => (if x8_2.length + Cx.length < 17592186044416 then (aM.l2 k2 (x8_2 ++ Cx) (wrap64 (ay - (aU.length : Int))) (wrap64 (C9 + 1)) ai az aA ay af) else (none))) = some r := H; have A53 := aa.mk A530; clear A530; replace H := Option.bind_eq_some_iff.mp H; obtain ⟨Cx, A540, H⟩ := H; replace H : (if x8_2.length + Cx.length < 17592186044416 then (aM.l2 k2 (x8_2 ++ Cx) (wrap64 (ay - (aU.length : Int))) (wrap64 (C9 + 1)) ai az aA ay af) else (none)) = some r := H; have A54 := aa.mk A540; clear A540; by_cases c55 : x8_2.length + Cx.length < 17592186044416
          ·rw [if_pos c55] at H; have LMc55 := aa.mk c55; clear c55; obtain ⟨y469, PR⟩ : ∃ y_ : List Int, y_ = (x8_2 ++ Cx) := ⟨_, rfl⟩; replace H : (aM.l2 k2 y469 (wrap64 (ay - (aU.length : Int))) (wrap64 (C9 + 1)) ai az aA ay af) = some r := by first | (rw [PR]; with_reducible exact H) | (have H2_ := (Option.bind_some _ _).symm.trans H; rw [PR]; with_reducible exact H2_) | (have H2_ := (Option.bind_some _ _).symm.trans H; with_reducible exact H2_) | with_reducible exact H | (rw [PR]; exact H) | exact H
           have Ny469 := aa.mk PR; clear PR; have H' := aa.mk H; clear H; try go_wp2
           replace lu := aa.mk (Kd.dP lu.out); replace bZ := aa.mk (ak bZ.out); replace gm := aa.mk (ak gm.out); replace HB := aa.mk (bU HB.out); have p460 : 0 ≤ (0 : Int) := (by omega); have q460 : 0 < (af.length : Int) := dt_; obtain ⟨oh, PS, PT, e460, IZ, I1, I4, I5, Fu, W9, Xa⟩ := eX bV.out 0 p460 q460; have yh := Fu; (try simp only [z0_, Nat.zero_mul, Addr.add_zero'] at yh)
           have yj := I5; (try simp only [z0_, Nat.zero_mul, Addr.add_zero'] at yj)
           have yl := I4; (try simp only [z0_, Nat.zero_mul, Addr.add_zero'] at yl)
           have ym := I1; (try simp only [z0_, Nat.zero_mul, Addr.add_zero'] at ym)
           have yn := IZ; (try simp only [z0_, Nat.zero_mul, Addr.add_zero'] at yn)
           cases e460; have qi460 : (0 < af.length) = True := eq_true (by omega); (try simp only [z0_, Nat.zero_mul, Addr.add_zero'] at IZ I1 I4 I5 Fu)
           replace IZ := hc_ HB IZ; replace I1 := hc_ HB I1; replace I4 := hc_ HB I4; replace I5 := hc_ HB I5; replace Fu := hc_ HB Fu; have Xb := aa.mk Xa; have HC460_4 := aa.mk W9; clear Xa W9; replace p460 := eq_true p460; replace q460 := eq_true q460; have p461 : 0 ≤ (0 : Int) := (by omega); have q461 : 0 < (af.length : Int) := dt_; obtain ⟨ad461, A461_4, c461_4, e461, I6, I7, I8, I9, Fv, Xc, Xd⟩ := eX bV.out 0 p461 q461; have yo := Fv; (try simp only [z0_, Nat.zero_mul, Addr.add_zero'] at yo)
           have yt := I9; (try simp only [z0_, Nat.zero_mul, Addr.add_zero'] at yt)
           have yu := I8; (try simp only [z0_, Nat.zero_mul, Addr.add_zero'] at yu)
           have yw := I7; (try simp only [z0_, Nat.zero_mul, Addr.add_zero'] at yw)
           have yx := I6; (try simp only [z0_, Nat.zero_mul, Addr.add_zero'] at yx)
           obtain rfl : oh = ad461 := (by injection e461); have qi461 : (0 < af.length) = True := eq_true (by omega); (try simp only [z0_, Nat.zero_mul, Addr.add_zero'] at I6 I7 I8 I9 Fv)
           replace I6 := hc_ HB I6; replace I7 := hc_ HB I7; replace I8 := hc_ HB I8; replace I9 := hc_ HB I9; replace Fv := hc_ HB Fv; have Xe := aa.mk Xd; have HC461_4 := aa.mk Xc; clear Xd Xc; replace p461 := eq_true p461; replace q461 := eq_true q461; have ea_ := Option.some.inj (Fu.symm.trans Fv); injection ea_ with ea_ en_ ec_
           subst ea_; subst ec_; clear en_; refine r9 (n := 13) (S := fun w' => w'.cell? ⟨kF, 0, none⟩ = some (.int .i64 ai) ∧ w'.cell? ⟨kF, 1, none⟩ = some (.int .i64 az) ∧ w'.cell? ⟨kF, 2, none⟩ = some (.int .i64 aA) ∧ w'.cell? ⟨kF, 3, none⟩ = some (.int .i64 ay) ∧ w'.cell? ⟨kF, 4, none⟩ = some (.slice (some oh) af.length bf) ∧ w'.cell? oh = some (.int .i64 ((ag af 0).f0)) ∧ w'.cell? ⟨oh.block, oh.off + 1, none⟩ = some (.int .i64 ((ag af 0).f1)) ∧ w'.cell? ⟨oh.block, oh.off + 2, none⟩ = some (.int .i64 ((ag af 0).f2)) ∧ w'.cell? ⟨oh.block, oh.off + 3, none⟩ = some (.int .i64 ((ag af 0).f3)) ∧ w'.cell? ⟨oh.block, oh.off + 4, none⟩ = some (.slice PS ((ag af 0).f4).length PT) ∧ w'.cell? oh = some (.int .i64 ((ag af 0).f0)) ∧ w'.cell? ⟨oh.block, oh.off + 1, none⟩ = some (.int .i64 ((ag af 0).f1)) ∧ w'.cell? ⟨oh.block, oh.off + 2, none⟩ = some (.int .i64 ((ag af 0).f2)) ∧ w'.cell? ⟨oh.block, oh.off + 3, none⟩ = some (.int .i64 ((ag af 0).f3)) ∧ w'.cell? ⟨oh.block, oh.off + 4, none⟩ = some (.slice PS ((ag af 0).f4).length PT)) (ds := []) #[false, false, false, false, false, false, false, false, false, false, false, false, false] (by kernel_rfl) rfl rfl ⟨(aC bZ.out 0).trans rfl, (aC bZ.out 1).trans rfl, (aC bZ.out 2).trans rfl, (aC bZ.out 3).trans rfl, (aC bZ.out 4).trans rfl, ((HB.out.cell (World.block_lt_of_cell? w _ yn)).trans yn), ((HB.out.cell (World.block_lt_of_cell? w _ ym)).trans ym), ((HB.out.cell (World.block_lt_of_cell? w _ yl)).trans yl), ((HB.out.cell (World.block_lt_of_cell? w _ yj)).trans yj), ((HB.out.cell (World.block_lt_of_cell? w _ yh)).trans yh), ((HB.out.cell (World.block_lt_of_cell? w _ yx)).trans yx), ((HB.out.cell (World.block_lt_of_cell? w _ yw)).trans yw), ((HB.out.cell (World.block_lt_of_cell? w _ yu)).trans yu), ((HB.out.cell (World.block_lt_of_cell? w _ yt)).trans yt), ((HB.out.cell (World.block_lt_of_cell? w _ yo)).trans yo)⟩ (fun hHeld => ?_); refine lK aM.tab19 aM.bits19 (fun HT_ HW_ => ?_)
           generalize wr.drew = w56 at lu bZ gm HB Xb Xe IZ I1 I4 I5 Fu I6 I7 I8 I9 Fv hHeld ⊢
           refine pu_ HT_ 0 64 (bm 13 1) ?_
           refine pu_ HT_ 1 65 (bm 13 3) ?_
           refine pu_ HT_ 5 69 (bm 13 35) ?_
           refine ta_ HT_ HW_ 2 66 (bm 13 39) hHeld ?_
           refine pu_ HT_ 3 67 (bm 13 47) ?_
           refine ta_ HT_ HW_ 4 68 (bm 13 63) hHeld ?_
           refine ta_ HT_ HW_ 6 70 (bm 13 127) hHeld ?_
           refine pu_ HT_ 7 71 (bm 13 255) ?_
           refine ta_ HT_ HW_ 8 72 (bm 13 511) hHeld ?_
           refine oL (i := 9) (N := some 73) #[true, true, true, true, true, true, true, true, true, true, false, false, false] rfl rfl (iy HT_.out (by kernel_rfl)) (by decide) (fun K hK => ?_)
           refine tQ Tryd.func83 (by kernel_rfl) rfl #[.agg #[.int .i64 ((ag af 0).f0), .int .i64 ((ag af 0).f1), .int .i64 ((ag af 0).f2), .int .i64 ((ag af 0).f3), .slice PS ((ag af 0).f4).length PT]] (by rfl) rfl rfl mp_ ?_
           with_reducible refine (cu.calls k2 ((ag af 0).f0) ((ag af 0).f1) ((ag af 0).f2) ((ag af 0).f3) _ _ ((ag af 0).f4) t462 t463 _ ?aQ ?aT A53.out).mono ?_
           (case aQ => exact cb_ (Kd.bA Xe.out HB.out))
           (case aT => exact HC461_4.out)
           rintro e w57 ⟨v464, rfl, ho0, hb⟩
           refine ⟨_, rfl, ?_⟩
           have JI := aa.mk (Kd.dJ (Kd.oU ho0 (g := vF) (o := .cells #[.int .i64 bH, .slice gD aU.length fI] 51 (0, 0)) bk_) (aG bl_)); replace lu := aa.mk (Kd.cB (pR_ lu.out) hb); replace bZ := kb_ bZ hb; replace gm := kb_ gm hb; replace HB := aa.mk (au bl_ hb); (try clear hb)
           (try clear hb2)
           (try clear hk)
           (try clear hi)
           (try clear ho0)
           obtain ⟨Ao58, co58, eo58⟩ := Kd.dG JI.out; (first | subst eo58 | (injection eo58 with f1_ f2_ f3_; have f4_ := f1_.symm; have f5_ := f3_.symm; clear f1_ f2_ f3_; subst f4_; subst f5_))
           refine hK.out _ _ ⟨(aC bZ.out 0).trans rfl, (aC bZ.out 1).trans rfl, (aC bZ.out 2).trans rfl, (aC bZ.out 3).trans rfl, (aC bZ.out 4).trans rfl, ((HB.out.cell (World.block_lt_of_cell? w _ yn)).trans yn), ((HB.out.cell (World.block_lt_of_cell? w _ ym)).trans ym), ((HB.out.cell (World.block_lt_of_cell? w _ yl)).trans yl), ((HB.out.cell (World.block_lt_of_cell? w _ yj)).trans yj), ((HB.out.cell (World.block_lt_of_cell? w _ yh)).trans yh), ((HB.out.cell (World.block_lt_of_cell? w _ yx)).trans yx), ((HB.out.cell (World.block_lt_of_cell? w _ yw)).trans yw), ((HB.out.cell (World.block_lt_of_cell? w _ yu)).trans yu), ((HB.out.cell (World.block_lt_of_cell? w _ yt)).trans yt), ((HB.out.cell (World.block_lt_of_cell? w _ yo)).trans yo)⟩ (fun hHeld => ?_)
           clear hK K; refine kS (a' := ?_) ?_ ?_
           rotate_left
           ·show Act.put _ (some 73) _ = _
            simp only [Act.put, List.setIfInBounds_toArray, List.set_cons_zero, List.set_cons_succ, eT, eY]; rfl
           refine oL (i := 10) (N := some 74) #[true, true, true, true, true, true, true, true, true, true, true, false, false] rfl rfl (iy HT_.out (by kernel_rfl)) (by decide) (fun K hK => ?_)
           refine tQ Tryd.func75 (by kernel_rfl) rfl #[.agg #[.int .i64 ((ag af 0).f0), .int .i64 ((ag af 0).f1), .int .i64 ((ag af 0).f2), .int .i64 ((ag af 0).f3), .slice PS ((ag af 0).f4).length PT], .agg #[.int .i64 t462, .slice Ao58 t463.length co58]] (by rfl) rfl rfl mp_ ?_
           with_reducible refine (ih k2 (by have := HK1.out; have := HK2.out; omega) ((ag af 0).f0) ((ag af 0).f1) ((ag af 0).f2) ((ag af 0).f3) _ _ ((ag af 0).f4) t462 _ _ t463 Cx _ ?aQ ?aT ?dK ?dL A54.out).mono ?_
           (case aQ => exact cb_ (Kd.bA Xb.out HB.out))
           (case aT => exact HC460_4.out)
           (case dK => exact cb_ ((Kd.cK JI.out).2.2))
           (case dL => exact (Kd.cK JI.out).2.1)
           rintro e w59 ⟨v467, rfl, ho0, hb⟩
           refine ⟨_, rfl, ?_⟩
           have PU := aa.mk (Kd.dJ (Kd.lG ho0 (Kd.lC (pR_ lu.out))) (aG bl_)); replace lu := aa.mk (Kd.jU (pR_ lu.out) (Kd.iI ho0) hb); replace JI := aa.mk (Kd.cB (pR_ JI.out) hb); replace bZ := kb_ bZ hb; replace gm := kb_ gm hb; replace HB := aa.mk (au bl_ hb); (try clear hb)
           (try clear hb2)
           (try clear hk)
           (try clear hi)
           (try clear ho0)
           obtain ⟨Ao61, co61, eo61⟩ := Kd.dG PU.out; (first | subst eo61 | (injection eo61 with f1_ f2_ f3_; have f4_ := f1_.symm; have f5_ := f3_.symm; clear f1_ f2_ f3_; subst f4_; subst f5_))
           refine hK.out _ _ ⟨(aC bZ.out 0).trans rfl, (aC bZ.out 1).trans rfl, (aC bZ.out 2).trans rfl, (aC bZ.out 3).trans rfl, (aC bZ.out 4).trans rfl, ((HB.out.cell (World.block_lt_of_cell? w _ yn)).trans yn), ((HB.out.cell (World.block_lt_of_cell? w _ ym)).trans ym), ((HB.out.cell (World.block_lt_of_cell? w _ yl)).trans yl), ((HB.out.cell (World.block_lt_of_cell? w _ yj)).trans yj), ((HB.out.cell (World.block_lt_of_cell? w _ yh)).trans yh), ((HB.out.cell (World.block_lt_of_cell? w _ yx)).trans yx), ((HB.out.cell (World.block_lt_of_cell? w _ yw)).trans yw), ((HB.out.cell (World.block_lt_of_cell? w _ yu)).trans yu), ((HB.out.cell (World.block_lt_of_cell? w _ yt)).trans yt), ((HB.out.cell (World.block_lt_of_cell? w _ yo)).trans yo)⟩ (fun hHeld => ?_)
           clear hK K; refine kS (a' := ?_) ?_ ?_
           rotate_left
           ·show Act.put _ (some 74) _ = _
            simp only [Act.put, List.setIfInBounds_toArray, List.set_cons_zero, List.set_cons_succ, eT, eY]; rfl
           refine oL (i := 11) (N := some 75) #[true, true, true, true, true, true, true, true, true, true, true, true, false] rfl rfl (iy HT_.out (by kernel_rfl)) (by decide) (fun K hK => ?_)
           refine Kd.vJ (Kd.int .i64) (w0 := w) w.heap.size (by rfl) (.tmp 64) (.tmp 74) 29 3 (.int .i64 0) 8 rfl Tryd.underlying29 info3 rfl (by decide) (by omega) u8 x8_2 Cx _ _ _ (fun k_ => some k_ ≠ (.slice Ao61 Cx.length co61 : Value).ownBlock) (fun _ => False) rfl rfl ?aO ?aR (fun _ _ h => h) (fun _ h => h.elim) ?aF ?aB ?aS ?aL ?_
           (case aR => exact cb_ ((Kd.cK PU.out).2.2))
           (case aB => exact bl_)
           (case aF => exact (fun k_ hk => Kd.fresh' (Kd.lC (pR_ PU.out)) k_ hk))
           (case aO => exact (by (with_reducible repeat (first | apply Kd.dN | apply Kd.dO | apply Kd.dP)); exact Kd.bQ lu.out (fun _ hk => hk.2)))
           (case aS => exact (aG bl_))
           (case aL => have := LMc55.out; omega)
           intro v470 w60 ho hb hg hat; rw [← Ny469.out] at ho; have HO471 := aa.mk (ho); replace bZ := aa.mk (fG (g := kF) (o := .cells #[.int .i64 ai, .int .i64 az, .int .i64 aA, .int .i64 ay, .slice (some oh) af.length bf] 24 (0, 0)) bk_ hg (Kd.rZ lu.out bZ.out (by decide))); replace gm := aa.mk (fG (g := vF) (o := .cells #[.int .i64 bH, .slice gD aU.length fI] 51 (0, 0)) bk_ hg (Kd.rZ lu.out gm.out (by decide))); replace JI := aa.mk (Kd.R_over' (pR_ JI.out) (Kd.R_typed (pR_ lu.out)) (by decide) hg); replace PU := aa.mk (Kd.GR (ok := (fun _ => True)) (pR_ PU.out) hg hat); replace HB := aa.mk (hb); clear lu; clear ho hb hg hat; refine hK.out _ _ ⟨(aC bZ.out 0).trans rfl, (aC bZ.out 1).trans rfl, (aC bZ.out 2).trans rfl, (aC bZ.out 3).trans rfl, (aC bZ.out 4).trans rfl, ((HB.out.cell (World.block_lt_of_cell? w _ yn)).trans yn), ((HB.out.cell (World.block_lt_of_cell? w _ ym)).trans ym), ((HB.out.cell (World.block_lt_of_cell? w _ yl)).trans yl), ((HB.out.cell (World.block_lt_of_cell? w _ yj)).trans yj), ((HB.out.cell (World.block_lt_of_cell? w _ yh)).trans yh), ((HB.out.cell (World.block_lt_of_cell? w _ yx)).trans yx), ((HB.out.cell (World.block_lt_of_cell? w _ yw)).trans yw), ((HB.out.cell (World.block_lt_of_cell? w _ yu)).trans yu), ((HB.out.cell (World.block_lt_of_cell? w _ yt)).trans yt), ((HB.out.cell (World.block_lt_of_cell? w _ yo)).trans yo)⟩ (fun hHeld => ?_)
           clear hK K; refine kS (a' := ?_) ?_ ?_
           rotate_left
           ·show Act.put _ (some 75) _ = _
            simp only [Act.put, List.setIfInBounds_toArray, List.set_cons_zero, List.set_cons_succ, eT, eY]; rfl
           refine pu_ HT_ 12 8 #[true, true, true, true, true, true, true, true, true, true, true, true, true] ?_
           refine wP (pF HT_.out (by kernel_rfl)) ?_
           try go_wp2
           go_roundg k2
           case measure => have := HK1.out; have := HK2.out; omega
           case rel => exact ⟨(y469), (wrap64 (C9 + 1)), rs_, H', ⟨by have := HK1.out; have := HK2.out; omega⟩, ⟨by (with_reducible repeat (first | apply Kd.dN | apply Kd.dO | apply Kd.dP)); exact Kd.bQ HO471.out (fun _ hk => trivial)⟩, ⟨bk_⟩, ⟨bk_⟩, ⟨bl_⟩⟩
          ·rw [if_neg c55] at H; exact absurd H (by simp)
         ·rw [if_neg c52] at H; exact absurd H (by simp)
        ·rw [if_neg c51] at H; have c51b0 : decide (C9 < (wrap64 (ay - (aU.length : Int)))) = false := decide_eq_false c51; clear c51; obtain rfl := Option.some.inj H; go_wp2; go_ret; exact ⟨_, re_, pR_ lu.out, bl_⟩
  ·rw [if_neg c24] at H; have tX : (ai == 6) = false := beq_eq_false_iff_ne.mpr c24; have OX : (ai != 6) = true := bne_iff_ne.mpr c24; obtain ⟨y472, PV⟩ : ∃ y_ : List Int, y_ = (([bH] : List Int)) := ⟨_, rfl⟩; replace H : (some y472) = some r := by first | (rw [PV]; with_reducible exact H) | (have H2_ := (Option.bind_some _ _).symm.trans H; rw [PV]; with_reducible exact H2_) | (have H2_ := (Option.bind_some _ _).symm.trans H; with_reducible exact H2_) | with_reducible exact H | (rw [PV]; exact H) | exact H
   have Ny472 := aa.mk PV; clear PV; obtain rfl := Option.some.inj H; go_enter Tryd.func75, Tryd.ntmps75; go_wp2_with (first | ((with_reducible refine aY (N := 2) rfl ?_); refine aZ ?hg (N := 2) ?hd (cs := #[.int .i64 ai, .int .i64 az, .int .i64 aA, .int .i64 ay, .slice bq af.length bf]) (t := 24) ?hr ?_; (case hd => rfl); (case hg => rfl); (case hr => first | (go_simp; done) | (go_simp; rfl)); intro kF hg w62 aK hb; have bZ := aa.mk (aK); have PI : aa (w.heap.size ≤ kF) := gw_ hg (aG bl_); have GE437 := PI; replace HB := aa.mk (au bl_ hb); clear hb aK hg) | ((with_reducible refine aY (N := 3) rfl ?_); refine aZ ?hg (N := 3) ?hd (cs := #[.int .i64 bH, .slice gD aU.length fI]) (t := 51) ?hr ?_; (case hd => rfl); (case hg => rfl); (case hr => first | (go_simp; done) | (go_simp; rfl)); intro vF hg w63 aK hb; have gm := aa.mk (aK); have PK : aa (w.heap.size ≤ vF) := gw_ hg (aG bl_); have GE438 := PK; have Ao := nl_ bZ hg; have Ap := ng_ bZ hg; replace bZ := kb_ bZ hb; replace HB := aa.mk (au bl_ hb); clear hb aK hg; have hnb64 := Ao.out; have hnc64 := Ap.out; obtain ⟨hcz65_0, hcz65_1, hcz65_2, hcz65_3, hcz65_4, hfz65_0, hfz65_1, hfz65_2, hfz65_3, hfz65_4⟩ := bF bZ.out; obtain ⟨Ig, Ih, Ii, Ij⟩ := eQ gm.out) | ((with_reducible refine aY (N := 80) rfl ?_); refine Kd.qb (Kd.int .i64) _ 3 ?hg (N := 80) ?hd (xs := ([bH] : List Int)) (inner := [.int .i64 bH]) (ok := fun _ => True) (okp := fun _ => True) ?hr ?hp (fun _ hk => hk) trivial (Below.refl _ _) (Nat.le_refl _) (by simp) ?_; (case hd => rfl); (case hg => rfl); (case hr => first | (go_simp; done) | (go_simp; rfl)); (case hp => exact (dm.one (show Kd.M (Kd.int .i64) _ _ _ bH [.int .i64 bH] from rfl) (dm.none _ _))); intro v473 w67 ho68 hb hg_ iL; clear hg_ iL; (first | rw [← Ny472.out] at ho68 | (simp only [Int.reduceToNat] at ho68; rw [← Ny472.out] at ho68)); have HO474 := aa.mk (Kd.dJ ho68 (aG bl_)); replace bZ := kb_ bZ hb; replace gm := kb_ gm hb; replace HB := aa.mk (au bl_ hb); clear hb ho68))
   go_ret; exact ⟨_, re_, pR_ HO474.out, bl_⟩

end Go.Proofs.YtggelekooacmnaaDoor.Q
namespace Go.Proofs.YtggelekooacmnaaDoor.Q
open Go.RowKit Go.Proofs.YtggelekooacmnaaDoorW.bg Go.Proofs.YtggelekooacmnaaDoorW.bP Go.Proofs.YtggelekooacmnaaDoorW.bX
attribute [local go_sem] ek eu fw fA dH dI eB eD   -- for this text's walks alone
set_option linter.unusedVariables false
set_option linter.unusedSimpArgs false

/-! ### dC: function 57 -/
def dC.f (k : Nat) (ai : Int) (az : Int) (aA : Int) (ay : Int) (af : List (S24)) (bH : Int) (aU : List (S51)) : Option (List Int × Int) := (gJ.f k ai az aA ay af bH aU).bind fun zq => (if zq = 0 then ((aM.f k ai az aA ay af bH aU).bind fun t478 => (some (t478, 0))) else (some (([] : List Int), zq)))
theorem dC.mono : ∀ a0 a1 a2 a3 a4 a5 a6 k, LeO (dC.f k a0 a1 a2 a3 a4 a5 a6) (dC.f (k + 1) a0 a1 a2 a3 a4 a5 a6) := by
 intro a0 a1 a2 a3 a4 a5 a6 k; unfold dC.f
 repeat' first
   | (with_reducible exact gJ.mono _ _ _ _ _ _ _ _)
   | (with_reducible exact aM.mono _ _ _ _ _ _ _ _)
   | (with_reducible exact LeO.refl _)
   | (with_reducible exact LeO.none _)
   | (with_reducible refine LeO.ite ?_ ?_)
   | (with_reducible refine LeO.bind ?_ (fun _ => ?_))
   | exact gJ.mono _ _ _ _ _ _ _ _
   | exact aM.mono _ _ _ _ _ _ _ _
   | exact LeO.none _
   | refine LeO.ite ?_ ?_
   | refine LeO.bind ?_ (fun _ => ?_)
set_option maxHeartbeats 8000000 in
set_option maxRecDepth 100000 in
theorem dC.calls (k : Nat) (ai : Int) (az : Int) (aA : Int) (ay : Int) (bq : Option Addr) (bf : Nat) (af : List (S24)) (bH : Int) (gD : Option Addr) (fI : Nat) (aU : List (S51)) (r1 : List Int) (r2 : Int) (w : World) (dX : Kd.C k24 w bq af.length af) (dY : af.length ≤ bf) (kT : Kd.C k51 w gD aU.length aU) (kU : aU.length ≤ fI) (h : dC.f k ai az aA ay af bH aU = some (r1, r2)) :
  Calls Tryd.prog 57 #[.agg #[.int .i64 ai, .int .i64 az, .int .i64 aA, .int .i64 ay, .slice bq af.length bf], .agg #[.int .i64 bH, .slice gD aU.length fI]] w fun e w' => ∃ v0_ : Value, e = .returned (.tuple #[v0_, .int .i64 r2]) ∧ Kd.R (Kd.int .i64) 3 w' w.heap.size (fun _ => True) v0_ r1 ∧ Below w.heap.size w w' := by
 have ou := Tryd.underlying24; have zh := Tryd.underlying51; have bV := aa.mk dX; have dz := aa.mk dY; clear dX dY; have mq := aa.mk kT; have qd := aa.mk kU; clear kT kU; have HB := aa.mk (Below.refl w.heap.size w); have H : ((gJ.f k ai az aA ay af bH aU).bind fun zq => (if zq = 0 then ((aM.f k ai az aA ay af bH aU).bind fun t478 => (some (t478, 0))) else (some (([] : List Int), zq)))) = some (r1, r2) := h; clear h; replace H := Option.bind_eq_some_iff.mp H; obtain ⟨zq, A30, H⟩ := H; replace H : (if zq = 0 then ((aM.f k ai az aA ay af bH aU).bind fun t478 => (some (t478, 0))) else (some (([] : List Int), zq))) = some (r1, r2) := H; have A3 := aa.mk A30; clear A30; by_cases c4 : zq = 0
 ·rw [if_pos c4] at H; have kM : (zq == 0) = true := beq_iff_eq.mpr c4; have yS : (zq != 0) = false := bne_eq_false_iff_eq.mpr c4; clear c4; replace H := Option.bind_eq_some_iff.mp H; obtain ⟨t478, A50, H⟩ := H; replace H : (some (t478, 0)) = some (r1, r2) := H; have A5 := aa.mk A50; clear A50; simp only [Option.some.injEq, Prod.mk.injEq] at H; obtain ⟨rfl, rfl⟩ := H; go_enter Tryd.func57, Tryd.ntmps57; go_wp2_with (first | ((with_reducible refine aY (N := 2) rfl ?_); refine aZ ?hg (N := 2) ?hd (cs := #[.int .i64 ai, .int .i64 az, .int .i64 aA, .int .i64 ay, .slice bq af.length bf]) (t := 24) ?hr ?_; (case hd => rfl); (case hg => rfl); (case hr => first | (go_simp; done) | (go_simp; rfl)); intro gb475 hg w6 aK hb; have qi := aa.mk (aK); have GW475 : aa (w.heap.size ≤ gb475) := gw_ hg (aG bl_); have GE475 := GW475; replace HB := aa.mk (au bl_ hb); clear hb aK hg) | ((with_reducible refine aY (N := 3) rfl ?_); refine aZ ?hg (N := 3) ?hd (cs := #[.int .i64 bH, .slice gD aU.length fI]) (t := 51) ?hr ?_; (case hd => rfl); (case hg => rfl); (case hr => first | (go_simp; done) | (go_simp; rfl)); intro gb476 hg w7 aK hb; have Da := aa.mk (aK); have GW476 : aa (w.heap.size ≤ gb476) := gw_ hg (aG bl_); have GE476 := GW476; have Kw := nl_ qi hg; have Ky := ng_ qi hg; replace qi := kb_ qi hb; replace HB := aa.mk (au bl_ hb); clear hb aK hg; have hnb8 := Kw.out; have hnc8 := Ky.out; obtain ⟨uj, uk, AP, AQ, AR, um, uo, AU, AV, AX⟩ := bF qi.out; obtain ⟨lM, lN, lQ, lS⟩ := eQ Da.out) | ((with_reducible refine aN (f := 61) rfl ?_); refine bJ (some 9) rfl rfl Tryd.func61 (by kernel_rfl) rfl #[.agg #[.int .i64 ai, .int .i64 az, .int .i64 aA, .int .i64 ay, .slice bq af.length bf], .agg #[.int .i64 bH, .slice gD aU.length fI]] rfl mp_ ?_; (with_reducible refine (gJ.calls k ai az aA ay _ _ af bH _ _ aU zq _ ?aQ ?aT ?dK ?dL A3.out).mono ?_); (case aQ => exact cb_ (Kd.bA bV.out HB.out)); (case aT => exact dz.out); (case dK => exact cb_ (Kd.bA mq.out HB.out)); (case dL => exact qd.out); rintro e w11 ⟨rfl, hb⟩; refine ⟨_, rfl, ?_⟩; replace qi := kb_ qi hb; replace Da := kb_ Da hb; replace HB := aa.mk (au bl_ hb); (try clear hb); (try clear hb2); (try clear hk); (try clear hi); obtain ⟨lX, lY, u7, vk, vo, lZ, l5, vv, vw, vz⟩ := bF qi.out; obtain ⟨Lg, Lh, Li, Lj⟩ := eQ Da.out) | ((with_reducible refine aN (f := 75) rfl ?_); refine bJ (some 15) rfl rfl Tryd.func75 (by kernel_rfl) rfl #[.agg #[.int .i64 ai, .int .i64 az, .int .i64 aA, .int .i64 ay, .slice bq af.length bf], .agg #[.int .i64 bH, .slice gD aU.length fI]] rfl mp_ ?_; (with_reducible refine (aM.calls k ai az aA ay _ _ af bH _ _ aU t478 _ ?aQ ?aT ?dK ?dL A5.out).mono ?_); (case aQ => exact cb_ (Kd.bA bV.out HB.out)); (case aT => exact dz.out); (case dK => exact cb_ (Kd.bA mq.out HB.out)); (case dL => exact qd.out); rintro e w14 ⟨v479, rfl, ho0, hb⟩; refine ⟨_, rfl, ?_⟩; have HO480 := aa.mk (Kd.dJ ho0 (aG bl_)); replace qi := kb_ qi hb; replace Da := kb_ Da hb; replace HB := aa.mk (au bl_ hb); (try clear hb); (try clear hb2); (try clear hk); (try clear hi); (try clear ho0)))
  go_ret2; exact ⟨_, re_, pR_ HO480.out, bl_⟩
 ·rw [if_neg c4] at H; have kM : (zq == 0) = false := beq_eq_false_iff_ne.mpr c4; have yS : (zq != 0) = true := bne_iff_ne.mpr c4; simp only [Option.some.injEq, Prod.mk.injEq] at H; obtain ⟨rfl, rfl⟩ := H; go_enter Tryd.func57, Tryd.ntmps57; go_wp2_with (first | ((with_reducible refine aY (N := 2) rfl ?_); refine aZ ?hg (N := 2) ?hd (cs := #[.int .i64 ai, .int .i64 az, .int .i64 aA, .int .i64 ay, .slice bq af.length bf]) (t := 24) ?hr ?_; (case hd => rfl); (case hg => rfl); (case hr => first | (go_simp; done) | (go_simp; rfl)); intro gb475 hg w15 aK hb; have qi := aa.mk (aK); have GW475 : aa (w.heap.size ≤ gb475) := gw_ hg (aG bl_); have GE475 := GW475; replace HB := aa.mk (au bl_ hb); clear hb aK hg) | ((with_reducible refine aY (N := 3) rfl ?_); refine aZ ?hg (N := 3) ?hd (cs := #[.int .i64 bH, .slice gD aU.length fI]) (t := 51) ?hr ?_; (case hd => rfl); (case hg => rfl); (case hr => first | (go_simp; done) | (go_simp; rfl)); intro gb476 hg w16 aK hb; have Da := aa.mk (aK); have GW476 : aa (w.heap.size ≤ gb476) := gw_ hg (aG bl_); have GE476 := GW476; have Kw := nl_ qi hg; have Ky := ng_ qi hg; replace qi := kb_ qi hb; replace HB := aa.mk (au bl_ hb); clear hb aK hg; have hnb17 := Kw.out; have hnc17 := Ky.out; obtain ⟨lT, lU, qz, qA, qB, lV, lW, qC, qD, qE⟩ := bF qi.out; obtain ⟨Ef, Eg, Eh, Ei⟩ := eQ Da.out) | ((with_reducible refine aN (f := 61) rfl ?_); refine bJ (some 9) rfl rfl Tryd.func61 (by kernel_rfl) rfl #[.agg #[.int .i64 ai, .int .i64 az, .int .i64 aA, .int .i64 ay, .slice bq af.length bf], .agg #[.int .i64 bH, .slice gD aU.length fI]] rfl mp_ ?_; (with_reducible refine (gJ.calls k ai az aA ay _ _ af bH _ _ aU zq _ ?aQ ?aT ?dK ?dL A3.out).mono ?_); (case aQ => exact cb_ (Kd.bA bV.out HB.out)); (case aT => exact dz.out); (case dK => exact cb_ (Kd.bA mq.out HB.out)); (case dL => exact qd.out); rintro e w20 ⟨rfl, hb⟩; refine ⟨_, rfl, ?_⟩; replace qi := kb_ qi hb; replace Da := kb_ Da hb; replace HB := aa.mk (au bl_ hb); (try clear hb); (try clear hb2); (try clear hk); (try clear hi)))
  go_ret2; exact ⟨_, re_, by first | exact Kd.gZ _ _ _ _ _ | exact Kd.jD _ _ _ _ _ | exact Kd.iR _ _ _ _ _ | exact Kd.jB _ _ _ _ _ | exact Kd.jC _ _ _ _ _, bl_⟩

end Go.Proofs.YtggelekooacmnaaDoor.Q
namespace Go.Proofs.YtggelekooacmnaaDoor.Q
open Go.RowKit Go.Proofs.YtggelekooacmnaaDoorW.bg Go.Proofs.YtggelekooacmnaaDoorW.bP Go.Proofs.YtggelekooacmnaaDoorW.bX
attribute [local go_sem] ek eu fw fA dH dI eB eD   -- for this text's walks alone
set_option linter.unusedVariables false
set_option linter.unusedSimpArgs false

/-! ### bL: function 79 -/
def bL.l0 : Nat → List Int → List Int → Int → Int → Option (Bool)
  | 0, _, _, _, _ => none
  | k + 1, x0, x1, x12, x13 => if x13 < x12 then (if 0 ≤ x13 then (if x13 < (x0.length : Int) then (if x13 < (x1.length : Int) then (if (rd x0 x13) = (rd x1 x13) then (bL.l0 k x0 x1 x12 (wrap64 (x13 + 1))) else (some false)) else (none)) else (none)) else (none)) else (some true)
def bL.f (k : Nat) (l0 : List Int) (l1 : List Int) : Option (Bool) := if (l0.length : Int) = (l1.length : Int) then (bL.l0 k l0 l1 (l0.length : Int) 0) else (some false)
theorem bL.fH : ∀ k, (∀ y0 y1 y2 y3, LeO (bL.l0 k y0 y1 y2 y3) (bL.l0 (k + 1) y0 y1 y2 y3))
  | 0 => fun _ _ _ _ r h => by simp [bL.l0] at h
  | k + 1 => by
    have ih0 := bL.fH k
    · intro y0 y1 y2 y3
      unfold bL.l0
      repeat' first
      | (with_reducible exact ih0 _ _ _ _)
      | (with_reducible exact LeO.refl _)
      | (with_reducible exact LeO.none _)
      | (with_reducible refine LeO.ite ?_ ?_)
      | (with_reducible refine LeO.bind ?_ (fun _ => ?_))
      | exact ih0 _ _ _ _
      | exact LeO.none _
      | refine LeO.ite ?_ ?_
      | refine LeO.bind ?_ (fun _ => ?_)
theorem bL.mono : ∀ a0 a1 k, LeO (bL.f k a0 a1) (bL.f (k + 1) a0 a1) := by
  intro a0 a1 k
  have ih0 := bL.fH k
  unfold bL.f
  repeat' first
      | (with_reducible exact ih0 _ _ _ _)
      | (with_reducible exact LeO.refl _)
      | (with_reducible exact LeO.none _)
      | (with_reducible refine LeO.ite ?_ ?_)
      | (with_reducible refine LeO.bind ?_ (fun _ => ?_))
      | exact ih0 _ _ _ _
      | exact LeO.none _
      | refine LeO.ite ?_ ?_
      | refine LeO.bind ?_ (fun _ => ?_)
set_option maxHeartbeats 8000000 in
set_option maxRecDepth 100000 in
theorem bL.calls (k : Nat) (A0 : Option Addr) (c0 : Nat) (l0 : List Int) (A1 : Option Addr) (c1 : Nat) (l1 : List Int) (r : Bool) (w : World) (hr0 : Kd.C (Kd.int .i64) w A0 l0.length l0) (hc0 : l0.length ≤ c0) (hr1 : Kd.C (Kd.int .i64) w A1 l1.length l1) (hc1 : l1.length ≤ c1) (h : bL.f k l0 l1 = some r) :
    Calls Tryd.prog 79 #[.slice A0 l0.length c0, .slice A1 l1.length c1] w fun e w' => e = .returned (.bool r) ∧ dx w w' := by
  have HR0 := aa.mk hr0
  have HC0 := aa.mk hc0
  clear hr0 hc0
  have HR1 := aa.mk hr1
  have HC1 := aa.mk hc1
  clear hr1 hc1
  have H : (if (l0.length : Int) = (l1.length : Int) then (bL.l0 k l0 l1 (l0.length : Int) 0) else (some false)) = some r := h
  clear h
  by_cases c3 : (l0.length : Int) = (l1.length : Int)
  · rw [if_pos c3] at H
    have j5 : ((l0.length : Int) == (l1.length : Int)) = true := beq_iff_eq.mpr c3
    have oM : ((l0.length : Int) != (l1.length : Int)) = false := bne_eq_false_iff_eq.mpr c3
    have c3b2 : (l0.length == l1.length) = true := by first | simpa using c3 | (simp at c3 ⊢; omega)
    clear c3
    have H' := aa.mk H
    clear H
    go_enter Tryd.func79, Tryd.ntmps79
    go_wp2
    repeat (go_quiet (fail); try go_wp2)
    go_loopg [13] k (fun kq v13 w' => ∃ (dE : Int), v13 = .int .i64 dE ∧ aa (bL.l0 kq l0 l1 (l0.length : Int) dE = some r) ∧ aa (kq ≤ k) ∧ dx w w')
    case atStart => exact ⟨(0), (by first | rfl | (simp; done) | (simp [*]; done)), H', ⟨Nat.le_refl _⟩, by repeat (first | exact dx.refl _ | apply dx.step)⟩
    case round =>
      clear H'
      try clear c1
      try clear p2
      try clear c3
      try clear j5
      try clear oM
      try clear c3b2
      obtain ⟨dE, rfl, HA, HK1, ⟨m1, rfl⟩⟩ := hrel
      cases gk with
      | zero => exact absurd HA.out (by simp [bL.l0])
      | succ k1 =>
        have H := HA.out
        clear HA
        simp only [bL.l0] at H
        by_cases c4 : dE < (l0.length : Int)
        · rw [if_pos c4] at H
          have kM : decide (dE < (l0.length : Int)) = true := decide_eq_true c4
          clear c4
          by_cases c5 : 0 ≤ dE
          · rw [if_pos c5] at H
            have p8 : decide (0 ≤ dE) = true := decide_eq_true c5
            clear c5
            by_cases c6 : dE < (l0.length : Int)
            · rw [if_pos c6] at H
              have oN : decide (dE < (l0.length : Int)) = true := decide_eq_true c6
              clear c6
              by_cases c7 : dE < (l1.length : Int)
              · rw [if_pos c7] at H
                have p9 : decide (dE < (l1.length : Int)) = true := decide_eq_true c7
                clear c7
                by_cases c8 : (rd l0 dE) = (rd l1 dE)
                · rw [if_pos c8] at H
                  have tV : ((rd l0 dE) == (rd l1 dE)) = true := beq_iff_eq.mpr c8
                  have BJ : ((rd l0 dE) != (rd l1 dE)) = false := bne_eq_false_iff_eq.mpr c8
                  clear c8
                  have H' := aa.mk H
                  clear H
                  have p520 : 0 ≤ (dE : Int) := of_decide_eq_true (by first | (with_reducible assumption) | assumption)
                  have q520 : dE < (l0.length : Int) := of_decide_eq_true (by first | (with_reducible assumption) | assumption)
                  obtain ⟨ad520, e520, hx520_0⟩ := Kd.mi HR0.out dE p520 q520
                  cases e520
                  replace p520 := eq_true p520
                  replace q520 := eq_true q520
                  have p521 : 0 ≤ (dE : Int) := of_decide_eq_true (by first | (with_reducible assumption) | assumption)
                  have q521 : dE < (l1.length : Int) := of_decide_eq_true (by first | (with_reducible assumption) | assumption)
                  obtain ⟨ad521, e521, hx521_0⟩ := Kd.mi HR1.out dE p521 q521
                  cases e521
                  replace p521 := eq_true p521
                  replace q521 := eq_true q521
                  go_wp2
                  repeat (go_quiet (fail); try go_wp2)
                  go_roundg k1
                  case measure => have := HK1.out; omega
                  case rel => exact ⟨(wrap64 (dE + 1)), (by first | rfl | (simp; done) | (simp [*]; done)), H', ⟨by have := HK1.out; omega⟩, by repeat (first | exact dx.refl _ | apply dx.step)⟩
                · rw [if_neg c8] at H
                  have tV : ((rd l0 dE) == (rd l1 dE)) = false := beq_eq_false_iff_ne.mpr c8
                  have BJ : ((rd l0 dE) != (rd l1 dE)) = true := bne_iff_ne.mpr c8
                  obtain rfl := Option.some.inj H
                  have p520 : 0 ≤ (dE : Int) := of_decide_eq_true (by first | (with_reducible assumption) | assumption)
                  have q520 : dE < (l0.length : Int) := of_decide_eq_true (by first | (with_reducible assumption) | assumption)
                  obtain ⟨ad520, e520, hx520_0⟩ := Kd.mi HR0.out dE p520 q520
                  cases e520
                  replace p520 := eq_true p520
                  replace q520 := eq_true q520
                  have p521 : 0 ≤ (dE : Int) := of_decide_eq_true (by first | (with_reducible assumption) | assumption)
                  have q521 : dE < (l1.length : Int) := of_decide_eq_true (by first | (with_reducible assumption) | assumption)
                  obtain ⟨ad521, e521, hx521_0⟩ := Kd.mi HR1.out dE p521 q521
                  cases e521
                  replace p521 := eq_true p521
                  replace q521 := eq_true q521
                  go_wp2
                  repeat (go_quiet (fail); try go_wp2)
                  go_ret
                  exact ⟨by first | rfl | (simp; done) | (simp [*]; done), by repeat (first | exact dx.refl _ | apply dx.step)⟩
              · rw [if_neg c7] at H
                exact absurd H (by simp)
            · rw [if_neg c6] at H
              exact absurd H (by simp)
          · rw [if_neg c5] at H
            exact absurd H (by simp)
        · rw [if_neg c4] at H
          have kM : decide (dE < (l0.length : Int)) = false := decide_eq_false c4
          clear c4
          obtain rfl := Option.some.inj H
          go_wp2
          repeat (go_quiet (fail); try go_wp2)
          go_ret
          exact ⟨by first | rfl | (simp; done) | (simp [*]; done), by repeat (first | exact dx.refl _ | apply dx.step)⟩
  · rw [if_neg c3] at H
    have j5 : ((l0.length : Int) == (l1.length : Int)) = false := beq_eq_false_iff_ne.mpr c3
    have oM : ((l0.length : Int) != (l1.length : Int)) = true := bne_iff_ne.mpr c3
    have c3b2 : (l0.length == l1.length) = false := by first | simpa using c3 | (simp at c3 ⊢; omega)
    obtain rfl := Option.some.inj H
    go_enter Tryd.func79, Tryd.ntmps79
    go_wp2
    repeat (go_quiet (fail); try go_wp2)
    go_ret
    exact ⟨by first | rfl | (simp; done) | (simp [*]; done), by repeat (first | exact dx.refl _ | apply dx.step)⟩

end Go.Proofs.YtggelekooacmnaaDoor.Q
namespace Go.Proofs.YtggelekooacmnaaDoor.Q
open Go.RowKit Go.Proofs.YtggelekooacmnaaDoorW.bg Go.Proofs.YtggelekooacmnaaDoorW.bP Go.Proofs.YtggelekooacmnaaDoorW.bX
attribute [local go_sem] ek eu fw fA dH dI eB eD   -- for this text's walks alone
set_option linter.unusedVariables false
set_option linter.unusedSimpArgs false

/-! ### bG: function 59 -/
def bG.l0 : Nat → List Int → List Int → Int → Option (Bool)
  | 0, _, _, _ => none
  | k + 1, x0, x1, x5 => if x5 < (x0.length : Int) then (if 0 ≤ x5 then (if x5 < (x1.length : Int) then (if (rd x0 x5) = (rd x1 x5) then (bG.l0 k x0 x1 (wrap64 (x5 + 1))) else (some false)) else (none)) else (none)) else (some true)
def bG.f (k : Nat) (l0 : List Int) (l1 : List Int) : Option (Bool) := if (l0.length : Int) = (l1.length : Int) then (bG.l0 k l0 l1 0) else (some false)
theorem bG.fH : ∀ k, (∀ y0 y1 y2, LeO (bG.l0 k y0 y1 y2) (bG.l0 (k + 1) y0 y1 y2))
  | 0 => fun _ _ _ r h => by simp [bG.l0] at h
  | k + 1 => by
    have ih0 := bG.fH k
    · intro y0 y1 y2
      unfold bG.l0
      repeat' first
      | (with_reducible exact ih0 _ _ _)
      | (with_reducible exact LeO.refl _)
      | (with_reducible exact LeO.none _)
      | (with_reducible refine LeO.ite ?_ ?_)
      | (with_reducible refine LeO.bind ?_ (fun _ => ?_))
      | exact ih0 _ _ _
      | exact LeO.none _
      | refine LeO.ite ?_ ?_
      | refine LeO.bind ?_ (fun _ => ?_)
theorem bG.mono : ∀ a0 a1 k, LeO (bG.f k a0 a1) (bG.f (k + 1) a0 a1) := by
  intro a0 a1 k
  have ih0 := bG.fH k
  unfold bG.f
  repeat' first
      | (with_reducible exact ih0 _ _ _)
      | (with_reducible exact LeO.refl _)
      | (with_reducible exact LeO.none _)
      | (with_reducible refine LeO.ite ?_ ?_)
      | (with_reducible refine LeO.bind ?_ (fun _ => ?_))
      | exact ih0 _ _ _
      | exact LeO.none _
      | refine LeO.ite ?_ ?_
      | refine LeO.bind ?_ (fun _ => ?_)
set_option maxHeartbeats 8000000 in
set_option maxRecDepth 100000 in
theorem bG.calls (k : Nat) (A0 : Option Addr) (c0 : Nat) (l0 : List Int) (A1 : Option Addr) (c1 : Nat) (l1 : List Int) (r : Bool) (w : World) (hr0 : Kd.C (Kd.int .i64) w A0 l0.length l0) (hc0 : l0.length ≤ c0) (hr1 : Kd.C (Kd.int .i64) w A1 l1.length l1) (hc1 : l1.length ≤ c1) (h : bG.f k l0 l1 = some r) :
    Calls Tryd.prog 59 #[.slice A0 l0.length c0, .slice A1 l1.length c1] w fun e w' => e = .returned (.bool r) ∧ dx w w' := by
  have HR0 := aa.mk hr0
  have HC0 := aa.mk hc0
  clear hr0 hc0
  have HR1 := aa.mk hr1
  have HC1 := aa.mk hc1
  clear hr1 hc1
  have H : (if (l0.length : Int) = (l1.length : Int) then (bG.l0 k l0 l1 0) else (some false)) = some r := h
  clear h
  by_cases c3 : (l0.length : Int) = (l1.length : Int)
  · rw [if_pos c3] at H
    have j5 : ((l0.length : Int) == (l1.length : Int)) = true := beq_iff_eq.mpr c3
    have oM : ((l0.length : Int) != (l1.length : Int)) = false := bne_eq_false_iff_eq.mpr c3
    have c3b2 : (l0.length == l1.length) = true := by first | simpa using c3 | (simp at c3 ⊢; omega)
    clear c3
    have H' := aa.mk H
    clear H
    go_enter Tryd.func59, Tryd.ntmps59
    go_wp2
    repeat (go_quiet (fail); try go_wp2)
    go_loopg [5] k (fun kq v5 w' => ∃ (gY : Int), v5 = .int .i64 gY ∧ aa (bG.l0 kq l0 l1 gY = some r) ∧ aa (kq ≤ k) ∧ dx w w')
    case atStart => exact ⟨(0), (by first | rfl | (simp; done) | (simp [*]; done)), H', ⟨Nat.le_refl _⟩, by repeat (first | exact dx.refl _ | apply dx.step)⟩
    case round =>
      clear H'
      try clear c1
      try clear p2
      try clear c3
      try clear j5
      try clear oM
      try clear c3b2
      obtain ⟨gY, rfl, HA, HK1, ⟨m1, rfl⟩⟩ := hrel
      cases gk with
      | zero => exact absurd HA.out (by simp [bG.l0])
      | succ k1 =>
        have H := HA.out
        clear HA
        simp only [bG.l0] at H
        by_cases c4 : gY < (l0.length : Int)
        · rw [if_pos c4] at H
          have kM : decide (gY < (l0.length : Int)) = true := decide_eq_true c4
          clear c4
          by_cases c5 : 0 ≤ gY
          · rw [if_pos c5] at H
            have p8 : decide (0 ≤ gY) = true := decide_eq_true c5
            clear c5
            by_cases c6 : gY < (l1.length : Int)
            · rw [if_pos c6] at H
              have oN : decide (gY < (l1.length : Int)) = true := decide_eq_true c6
              clear c6
              by_cases c7 : (rd l0 gY) = (rd l1 gY)
              · rw [if_pos c7] at H
                have p9 : ((rd l0 gY) == (rd l1 gY)) = true := beq_iff_eq.mpr c7
                have c7b1 : ((rd l0 gY) != (rd l1 gY)) = false := bne_eq_false_iff_eq.mpr c7
                clear c7
                have H' := aa.mk H
                clear H
                have p539 : 0 ≤ (gY : Int) := of_decide_eq_true (by first | (with_reducible assumption) | assumption)
                have q539 : gY < (l0.length : Int) := of_decide_eq_true (by first | (with_reducible assumption) | assumption)
                obtain ⟨ad539, e539, hx539_0⟩ := Kd.mi HR0.out gY p539 q539
                cases e539
                replace p539 := eq_true p539
                replace q539 := eq_true q539
                have p540 : 0 ≤ (gY : Int) := of_decide_eq_true (by first | (with_reducible assumption) | assumption)
                have q540 : gY < (l1.length : Int) := of_decide_eq_true (by first | (with_reducible assumption) | assumption)
                obtain ⟨ad540, e540, hx540_0⟩ := Kd.mi HR1.out gY p540 q540
                cases e540
                replace p540 := eq_true p540
                replace q540 := eq_true q540
                go_wp2
                repeat (go_quiet (fail); try go_wp2)
                go_roundg k1
                case measure => have := HK1.out; omega
                case rel => exact ⟨(wrap64 (gY + 1)), (by first | rfl | (simp; done) | (simp [*]; done)), H', ⟨by have := HK1.out; omega⟩, by repeat (first | exact dx.refl _ | apply dx.step)⟩
              · rw [if_neg c7] at H
                have p9 : ((rd l0 gY) == (rd l1 gY)) = false := beq_eq_false_iff_ne.mpr c7
                have c7b1 : ((rd l0 gY) != (rd l1 gY)) = true := bne_iff_ne.mpr c7
                obtain rfl := Option.some.inj H
                have p539 : 0 ≤ (gY : Int) := of_decide_eq_true (by first | (with_reducible assumption) | assumption)
                have q539 : gY < (l0.length : Int) := of_decide_eq_true (by first | (with_reducible assumption) | assumption)
                obtain ⟨ad539, e539, hx539_0⟩ := Kd.mi HR0.out gY p539 q539
                cases e539
                replace p539 := eq_true p539
                replace q539 := eq_true q539
                have p540 : 0 ≤ (gY : Int) := of_decide_eq_true (by first | (with_reducible assumption) | assumption)
                have q540 : gY < (l1.length : Int) := of_decide_eq_true (by first | (with_reducible assumption) | assumption)
                obtain ⟨ad540, e540, hx540_0⟩ := Kd.mi HR1.out gY p540 q540
                cases e540
                replace p540 := eq_true p540
                replace q540 := eq_true q540
                go_wp2
                repeat (go_quiet (fail); try go_wp2)
                go_ret
                exact ⟨by first | rfl | (simp; done) | (simp [*]; done), by repeat (first | exact dx.refl _ | apply dx.step)⟩
            · rw [if_neg c6] at H
              exact absurd H (by simp)
          · rw [if_neg c5] at H
            exact absurd H (by simp)
        · rw [if_neg c4] at H
          have kM : decide (gY < (l0.length : Int)) = false := decide_eq_false c4
          clear c4
          obtain rfl := Option.some.inj H
          go_wp2
          repeat (go_quiet (fail); try go_wp2)
          go_ret
          exact ⟨by first | rfl | (simp; done) | (simp [*]; done), by repeat (first | exact dx.refl _ | apply dx.step)⟩
  · rw [if_neg c3] at H
    have j5 : ((l0.length : Int) == (l1.length : Int)) = false := beq_eq_false_iff_ne.mpr c3
    have oM : ((l0.length : Int) != (l1.length : Int)) = true := bne_iff_ne.mpr c3
    have c3b2 : (l0.length == l1.length) = false := by first | simpa using c3 | (simp at c3 ⊢; omega)
    obtain rfl := Option.some.inj H
    go_enter Tryd.func59, Tryd.ntmps59
    go_wp2
    repeat (go_quiet (fail); try go_wp2)
    go_ret
    exact ⟨by first | rfl | (simp; done) | (simp [*]; done), by repeat (first | exact dx.refl _ | apply dx.step)⟩

end Go.Proofs.YtggelekooacmnaaDoor.Q
set_option linter.unusedVariables false
set_option linter.unusedSimpArgs false
namespace Go.Proofs.YtggelekooacmnaaDoor.Pure
open Go.RowKit Go.Proofs.YtggelekooacmnaaDoor.Q Go.Proofs.YtggelekooacmnaaDoorW.bg Go.Proofs.YtggelekooacmnaaDoorW.bP Go.Proofs.YtggelekooacmnaaDoorW.bX
-- flatten, read, Yb
theorem Vv.bd1 {n m : Nat} {v : S51} (hb : Bv (m + 1) v) (i : Nat) (h : i < v.f1.length) : Bv m v.f1[i] := hb.2 _ (List.getElem_mem h)
theorem flat_l0 (n : Nat) (ts : List S24) (vs : List S51) (hl : ts.length = vs.length) (h4 : ts.length ≤ 4) (B : Nat) (hB : B ≤ 10000000) (ih : ∀ (i : Nat) (h : i < ts.length) (h' : i < vs.length), Ev (at2 aM.f ts[i] vs[i]) (cel n ts[i] vs[i]) ∧ (cel n ts[i] vs[i]).length ≤ B) :
    ∀ (d i : Nat) (o : List Int), o.length ≤ i * B → i + d = vs.length → Ev (fun k => aM.l0 k o vs vs.length i 5 0 0 0 ts) (o ++ rR (cel n) (ts.drop i) (vs.drop i)) := by
  intro d
  induction d with
  | zero =>
    intro i o ho hi
    refine ⟨1, fun k hk => ?_⟩
    obtain ⟨k, rfl⟩ : ∃ j, k = j + 1 := ⟨k - 1, by omega⟩
    simp only [aM.l0]
    rw [if_neg (by omega), List.drop_eq_nil_of_le (show vs.length ≤ i by omega), List.drop_eq_nil_of_le (show ts.length ≤ i by omega)]; simp [rR]
  | succ d IH =>
    intro i o ho hi
    have hlt : i < vs.length := by omega
    have hlt' : i < ts.length := by omega
    obtain ⟨⟨K1, e1⟩, hb⟩ := ih i hlt' hlt
    have hm : (o ++ cel n ts[i] vs[i]).length ≤ (i + 1) * B := by rw [List.length_append, Nat.add_mul]; omega
    have hm2 : (i + 1) * B ≤ 4 * B := Nat.mul_le_mul_right _ (by omega)
    obtain ⟨K2, e2⟩ := IH (i + 1) (o ++ cel n ts[i] vs[i]) hm (by omega)
    refine ⟨max K1 K2 + 1, fun k hk => ?_⟩
    obtain ⟨k, rfl⟩ : ∃ j, k = j + 1 := ⟨k - 1, by omega⟩
    have e1' := e1 k (by omega)
    have e2' := e2 k (by omega)
    dsimp only [at2] at e1' e2'
    rw [List.length_append] at hm
    simp only [aM.l0]
    rw [if_pos (by omega), if_pos (by omega), if_pos (by omega), if_pos (by omega), rdT hlt', rdV hlt, e1', Option.bind_some, if_pos (by omega), jE (by omega), e2', List.append_assoc, List.drop_eq_getElem_cons hlt, List.drop_eq_getElem_cons hlt']
    rfl
theorem Aq {t : S24} {v : S51} (h5 : t.f0 ≠ 5) (h6 : t.f0 ≠ 6) : Ev (at2 aM.f t v) [v.f0] := by
  refine ⟨1, fun k hk => ?_⟩
  obtain ⟨k, rfl⟩ : ∃ j, k = j + 1 := ⟨k - 1, by omega⟩
  simp only [at2, aM.f, if_neg h5, if_neg h6]
theorem flat_l2 (n : Nat) (x : S24) (m : Int) (hx : Vt n x) (hs : x.f0 = 1 ∨ x.f0 = 2) (N : Nat) (hN : N ≤ 4) :
    ∀ (d i : Nat) (o : List Int), o.length ≤ 100 + i → i + d = N → Ev (fun k => aM.l2 k o N i 6 0 0 m [x]) (o ++ List.replicate d (zr x)) := by
  intro d
  induction d with
  | zero =>
    intro i o ho hi
    refine ⟨1, fun k hk => ?_⟩
    obtain ⟨k, rfl⟩ : ∃ j, k = j + 1 := ⟨k - 1, by omega⟩
    simp only [aM.l2]
    rw [if_neg (by omega)]; simp
  | succ d IH =>
    intro i o ho hi
    obtain ⟨K1, e1⟩ := zero_ev n hx
    have hz : (zv n x).f0 = zr x := by
      cases hx with
      | bool => simp [zv, zr]
      | int _ lo hi h1 h2 h3 => simp [zv]
      | _ => simp at hs
    obtain ⟨K3, e3⟩ := Aq (t := x) (v := zv n x) (by omega) (by omega)
    obtain ⟨K2, e2⟩ := IH (i + 1) (o ++ [zr x]) (by rw [List.length_append, List.length_singleton]; omega) (by omega)
    refine ⟨max K1 (max K2 K3) + 1, fun k hk => ?_⟩
    obtain ⟨k, rfl⟩ : ∃ j, k = j + 1 := ⟨k - 1, by omega⟩
    have e1' := e1 k (by omega)
    have e2' := e2 k (by omega)
    have e3' := e3 k (by omega)
    unfold at_ at e1'
    dsimp only [at2] at e1' e2' e3'
    simp only [aM.l2]
    rw [if_pos (by omega), if_pos (by simp), rd1, e1', Option.bind_some, e3', Option.bind_some, if_pos (by rw [List.length_singleton]; omega), jE (by omega), hz, e2', List.append_assoc]
    rfl
theorem flat_l1 (n : Nat) (x : S24) (m v0 : Int) (vs ws : List S51) (hs : x.f0 = 1 ∨ x.f0 = 2) (h4 : vs.length ≤ 4) (r : List Int → List Int)
    (fin : ∀ o : List Int, o.length ≤ 100 → Ev (fun k => aM.l2 k o (wrap64 (m - (ws.length : Int))) 0 6 0 0 m [x]) (r o)) :
    ∀ (d i : Nat) (o : List Int), o.length ≤ 1 + i → i + d = vs.length → Ev (fun k => aM.l1 k o vs vs.length i 6 0 0 m [x] v0 ws) (r (o ++ (vs.drop i).map (fun y => y.f0))) := by
  intro d
  induction d with
  | zero =>
    intro i o ho hi
    obtain ⟨K, e⟩ := fin o (by omega)
    refine ⟨K + 1, fun k hk => ?_⟩
    obtain ⟨k, rfl⟩ : ∃ j, k = j + 1 := ⟨k - 1, by omega⟩
    have e' := e k (by omega)
    dsimp only at e'
    simp only [aM.l1]
    rw [if_neg (by omega), e', List.drop_eq_nil_of_le (by omega)]; simp
  | succ d IH =>
    intro i o ho hi
    have hlt : i < vs.length := by omega
    obtain ⟨K3, e3⟩ := Aq (t := x) (v := vs[i]) (by omega) (by omega)
    obtain ⟨K2, e2⟩ := IH (i + 1) (o ++ [vs[i].f0]) (by rw [List.length_append, List.length_singleton]; omega) (by omega)
    refine ⟨max K2 K3 + 1, fun k hk => ?_⟩
    obtain ⟨k, rfl⟩ : ∃ j, k = j + 1 := ⟨k - 1, by omega⟩
    have e2' := e2 k (by omega)
    have e3' := e3 k (by omega)
    dsimp only [at2] at e2' e3'
    simp only [aM.l1]
    rw [if_pos (by omega), if_pos (by omega), if_pos (by omega), if_pos (by simp), rd1, rdV hlt, e3', Option.bind_some, if_pos (by rw [List.length_singleton]; omega), jE (by omega), e2', List.append_assoc, List.drop_eq_getElem_cons hlt]
    rfl
theorem PW (n : Nat) : ∀ {t : S24} {v : S51} {m : Nat}, n ≤ 10 → Vt n t → Bv m v → n ≤ m → chk n t v = 0 → Ev (at2 aM.f t v) (cel n t v) := by
  induction n with
  | zero => intro t v m _ h; cases h
  | succ n ih =>
    intro t v m hn h hb hm hc
    obtain ⟨m, rfl⟩ : ∃ e, m = e + 1 := ⟨m - 1, by omega⟩
    cases h with
    | bool => simp only [cel]; exact Aq (by decide) (by decide)
    | int _ lo hi h1 h2 h3 => simp only [cel]; exact Aq (by simp) (by simp)
    | nat => simp only [cel]; exact Aq (by decide) (by decide)
    | real => simp only [cel]; exact Aq (by decide) (by decide)
    | tup _ l h1 h2 h3 h4 =>
      obtain ⟨_, hl, ha⟩ := yc hc
      have hp := pow5 (show n ≤ 9 by omega)
      obtain ⟨K, e⟩ := flat_l0 n l v.f1 hl.symm h2 (5 ^ n) (by omega) (fun i hi hi' => ⟨ih (by omega) (h3 _ (List.getElem_mem hi)) (Vv.bd1 (n := n) hb i hi') (by omega) (ha i hi hi'), by
        rw [M0 n (h3 _ (List.getElem_mem hi)) (ha i hi hi')]; exact (ET n (h3 _ (List.getElem_mem hi))).1⟩) v.f1.length 0 [] (by simp) (by omega)
      rw [show cel (n + 1) ⟨5, 0, 0, 0, l⟩ v = rR (cel n) l v.f1 from by simp [cel]]
      refine ⟨K + 1, fun k hk => ?_⟩
      obtain ⟨k, rfl⟩ : ∃ j, k = j + 1 := ⟨k - 1, by omega⟩
      have e' := e k (by omega)
      simp only [at2, aM.f]
      simpa using e'
    | lst _ mm x h1 h2 h3 h4 =>
      obtain ⟨_, hl, ha⟩ := yf hc
      have hN : wrap64 (mm - (v.f1.length : Int)) = ((mm.toNat - v.f1.length : Nat) : Int) := by unfold wrap64; omega
      have fin : ∀ o : List Int, o.length ≤ 100 → Ev (fun k => aM.l2 k o (wrap64 (mm - (v.f1.length : Int))) 0 6 0 0 mm [x]) (o ++ List.replicate (mm.toNat - v.f1.length) (zr x)) := by
        intro o ho
        rw [hN]
        exact flat_l2 n x mm h3 h4 (mm.toNat - v.f1.length) (by omega) _ 0 o (by omega) (by omega)
      obtain ⟨K, e⟩ := flat_l1 n x mm v.f0 v.f1 v.f1 h4 (by omega) _ fin v.f1.length 0 [(v.f1.length : Int)] (by simp) (by omega)
      refine ⟨K + 1, fun k hk => ?_⟩
      obtain ⟨k, rfl⟩ : ∃ j, k = j + 1 := ⟨k - 1, by omega⟩
      have e' := e k (by omega)
      simp only [at2, aM.f, cel]
      simpa [rd1] using e'
theorem eq_l0 (l m : List Int) (hl : l.length = m.length) (hb : l.length ≤ 1000000000) : ∀ (d i : Nat), i + d = l.length → Ev (fun k => bL.l0 k l m l.length i) (decide (l.drop i = m.drop i)) := by
  intro d
  induction d with
  | zero =>
    intro i hi
    refine ⟨1, fun k hk => ?_⟩
    obtain ⟨k, rfl⟩ : ∃ j, k = j + 1 := ⟨k - 1, by omega⟩
    simp only [bL.l0]
    rw [if_neg (by omega), List.drop_eq_nil_of_le (show l.length ≤ i by omega), List.drop_eq_nil_of_le (show m.length ≤ i by omega)]; simp
  | succ d IH =>
    intro i hi
    have hlt : i < l.length := by omega
    have hlt' : i < m.length := by omega
    obtain ⟨K2, e2⟩ := IH (i + 1) (by omega)
    refine ⟨K2 + 1, fun k hk => ?_⟩
    obtain ⟨k, rfl⟩ : ∃ j, k = j + 1 := ⟨k - 1, by omega⟩
    have e2' := e2 k (by omega)
    dsimp only at e2'
    have r1 : rd l (i : Int) = l[i] := by simp [rd, List.getD, hlt]
    have r2 : rd m (i : Int) = m[i] := by simp [rd, List.getD, hlt']
    have hiff : (l.drop i = m.drop i) ↔ (l[i] = m[i] ∧ l.drop (i + 1) = m.drop (i + 1)) := by
      rw [List.drop_eq_getElem_cons hlt, List.drop_eq_getElem_cons hlt', List.cons.injEq]
    simp only [bL.l0]
    rw [if_pos (by omega), if_pos (by omega), if_pos (by omega), if_pos (by omega), r1, r2, jE (by omega), e2']
    by_cases c : l[i] = m[i]
    · rw [if_pos c]; congr 1; rw [decide_eq_decide, hiff]; simp [c]
    · rw [if_neg c, decide_eq_false (fun h => c (hiff.1 h).1)]
theorem equal_ev (l m : List Int) (hb : l.length ≤ 1000000000) : Ev (fun k => bL.f k l m) (decide (l = m)) := by
  unfold bL.f
  by_cases hl : l.length = m.length
  · simp only [if_pos (show (l.length : Int) = (m.length : Int) by omega)]
    simpa using eq_l0 l m hl hb l.length 0 (by omega)
  · simp only [if_neg (show ¬ (l.length : Int) = (m.length : Int) by omega)]
    rw [decide_eq_false (fun h => hl (by rw [h]))]
    exact Ev.now _
theorem same_l0 (l m : List Int) (hl : l.length = m.length) (hb : l.length ≤ 1000000000) : ∀ (d i : Nat), i + d = l.length → Ev (fun k => bG.l0 k l m i) (decide (l.drop i = m.drop i)) := by
  intro d
  induction d with
  | zero =>
    intro i hi
    refine ⟨1, fun k hk => ?_⟩
    obtain ⟨k, rfl⟩ : ∃ j, k = j + 1 := ⟨k - 1, by omega⟩
    simp only [bG.l0]
    rw [if_neg (by omega), List.drop_eq_nil_of_le (show l.length ≤ i by omega), List.drop_eq_nil_of_le (show m.length ≤ i by omega)]; simp
  | succ d IH =>
    intro i hi
    have hlt : i < l.length := by omega
    have hlt' : i < m.length := by omega
    obtain ⟨K2, e2⟩ := IH (i + 1) (by omega)
    refine ⟨K2 + 1, fun k hk => ?_⟩
    obtain ⟨k, rfl⟩ : ∃ j, k = j + 1 := ⟨k - 1, by omega⟩
    have e2' := e2 k (by omega)
    dsimp only at e2'
    have r1 : rd l (i : Int) = l[i] := by simp [rd, List.getD, hlt]
    have r2 : rd m (i : Int) = m[i] := by simp [rd, List.getD, hlt']
    have hiff : (l.drop i = m.drop i) ↔ (l[i] = m[i] ∧ l.drop (i + 1) = m.drop (i + 1)) := by
      rw [List.drop_eq_getElem_cons hlt, List.drop_eq_getElem_cons hlt', List.cons.injEq]
    simp only [bG.l0]
    rw [if_pos (by omega), if_pos (by omega), if_pos (by omega), r1, r2, jE (by omega), e2']
    by_cases c : l[i] = m[i]
    · rw [if_pos c]; congr 1; rw [decide_eq_decide, hiff]; simp [c]
    · rw [if_neg c, decide_eq_false (fun h => c (hiff.1 h).1)]
theorem sameInts_ev (l m : List Int) (hb : l.length ≤ 1000000000) : Ev (fun k => bG.f k l m) (decide (l = m)) := by
  unfold bG.f
  by_cases hl : l.length = m.length
  · simp only [if_pos (show (l.length : Int) = (m.length : Int) by omega)]
    simpa using same_l0 l m hl hb l.length 0 (by omega)
  · simp only [if_neg (show ¬ (l.length : Int) = (m.length : Int) by omega)]
    rw [decide_eq_false (fun h => hl (by rw [h]))]
    exact Ev.now _

end Go.Proofs.YtggelekooacmnaaDoor.Pure
namespace Go.Proofs.YtggelekooacmnaaDoor.Q
open Go.RowKit Go.Proofs.YtggelekooacmnaaDoorW.bg Go.Proofs.YtggelekooacmnaaDoorW.bP Go.Proofs.YtggelekooacmnaaDoorW.bX
attribute [local go_sem] ek eu fw fA dH dI eB eD   -- for this text's walks alone
set_option linter.unusedVariables false
set_option linter.unusedSimpArgs false

/-! ### fe: function 55 -/
def fe.f (k : Nat) (ai : Int) (az : Int) (aA : Int) (ay : Int) (af : List (S24)) : Option (Int) := (dn.f k ai az aA ay af).bind fun yU => (if yU = 0 then (if ai = 4 then (some 8) else (some 0)) else (some yU))
theorem fe.mono : ∀ a0 a1 a2 a3 a4 k, LeO (fe.f k a0 a1 a2 a3 a4) (fe.f (k + 1) a0 a1 a2 a3 a4) := by
 intro a0 a1 a2 a3 a4 k; unfold fe.f
 repeat' first
   | (with_reducible exact dn.mono _ _ _ _ _ _)
   | (with_reducible exact LeO.refl _)
   | (with_reducible exact LeO.none _)
   | (with_reducible refine LeO.ite ?_ ?_)
   | (with_reducible refine LeO.bind ?_ (fun _ => ?_))
   | exact dn.mono _ _ _ _ _ _
   | exact LeO.none _
   | refine LeO.ite ?_ ?_
   | refine LeO.bind ?_ (fun _ => ?_)
set_option maxHeartbeats 8000000 in
set_option maxRecDepth 100000 in
theorem fe.calls (k : Nat) (ai : Int) (az : Int) (aA : Int) (ay : Int) (bq : Option Addr) (bf : Nat) (af : List (S24)) (r : Int) (w : World) (dX : Kd.C k24 w bq af.length af) (dY : af.length ≤ bf) (h : fe.f k ai az aA ay af = some r) :
  Calls Tryd.prog 55 #[.agg #[.int .i64 ai, .int .i64 az, .int .i64 aA, .int .i64 ay, .slice bq af.length bf]] w fun e w' => e = .returned (.int .i64 r) ∧ Below w.heap.size w w' := by
 have ou := Tryd.underlying24; have bV := aa.mk dX; have dz := aa.mk dY; clear dX dY; have HB := aa.mk (Below.refl w.heap.size w); have H : ((dn.f k ai az aA ay af).bind fun yU => (if yU = 0 then (if ai = 4 then (some 8) else (some 0)) else (some yU))) = some r := h; clear h; replace H := Option.bind_eq_some_iff.mp H; obtain ⟨yU, A20, H⟩ := H; replace H : (if yU = 0 then (if ai = 4 then (some 8) else (some 0)) else (some yU)) = some r := H; have A2 := aa.mk A20; clear A20; by_cases c3 : yU = 0
 ·rw [if_pos c3] at H; have j5 : (yU == 0) = true := beq_iff_eq.mpr c3; have oM : (yU != 0) = false := bne_eq_false_iff_eq.mpr c3; clear c3; by_cases c4 : ai = 4
  ·rw [if_pos c4] at H; have kM : (ai == 4) = true := beq_iff_eq.mpr c4; have yS : (ai != 4) = false := bne_eq_false_iff_eq.mpr c4; clear c4; obtain rfl := Option.some.inj H; go_enter Tryd.func55, Tryd.ntmps55; go_wp2_with (first | ((with_reducible refine aY (N := 1) rfl ?_); refine aZ ?hg (N := 1) ?hd (cs := #[.int .i64 ai, .int .i64 az, .int .i64 aA, .int .i64 ay, .slice bq af.length bf]) (t := 24) ?hr ?_; (case hd => rfl); (case hg => rfl); (case hr => first | (go_simp; done) | (go_simp; rfl)); intro PX hg w5 aK hb; have yz := aa.mk (aK); have PY : aa (w.heap.size ≤ PX) := gw_ hg (aG bl_); have GE409 := PY; replace HB := aa.mk (au bl_ hb); clear hb aK hg; obtain ⟨Hl, Hm, Ho, Hq, Hr, Ht, Hu, Hw, Hy, Hz⟩ := bF yz.out) | ((with_reducible refine aN (f := 22) rfl ?_); refine bJ (some 5) rfl rfl Tryd.func22 (by kernel_rfl) rfl #[.agg #[.int .i64 ai, .int .i64 az, .int .i64 aA, .int .i64 ay, .slice bq af.length bf]] rfl mp_ ?_; (with_reducible refine (dn.calls k ai az aA ay _ _ af yU _ ?aQ ?aT A2.out).mono ?_); (case aQ => exact cb_ (Kd.bA bV.out HB.out)); (case aT => exact dz.out); rintro e w7 ⟨rfl, hb⟩; refine ⟨_, rfl, ?_⟩; replace yz := kb_ yz hb; replace HB := aa.mk (au bl_ hb); (try clear hb); (try clear hb2); (try clear hk); (try clear hi); obtain ⟨uq, uu, Ki, Kj, Kk, uw, uy, Kl, Km, Kn⟩ := bF yz.out))
   go_ret; exact ⟨re_, bl_⟩
  ·rw [if_neg c4] at H; have kM : (ai == 4) = false := beq_eq_false_iff_ne.mpr c4; have yS : (ai != 4) = true := bne_iff_ne.mpr c4; obtain rfl := Option.some.inj H; go_enter Tryd.func55, Tryd.ntmps55; go_wp2_with (first | ((with_reducible refine aY (N := 1) rfl ?_); refine aZ ?hg (N := 1) ?hd (cs := #[.int .i64 ai, .int .i64 az, .int .i64 aA, .int .i64 ay, .slice bq af.length bf]) (t := 24) ?hr ?_; (case hd => rfl); (case hg => rfl); (case hr => first | (go_simp; done) | (go_simp; rfl)); intro PX hg w9 aK hb; have yz := aa.mk (aK); have PY : aa (w.heap.size ≤ PX) := gw_ hg (aG bl_); have GE409 := PY; replace HB := aa.mk (au bl_ hb); clear hb aK hg; obtain ⟨lM, lN, nu, ny, nz, lQ, lS, nA, nC, nD⟩ := bF yz.out) | ((with_reducible refine aN (f := 22) rfl ?_); refine bJ (some 5) rfl rfl Tryd.func22 (by kernel_rfl) rfl #[.agg #[.int .i64 ai, .int .i64 az, .int .i64 aA, .int .i64 ay, .slice bq af.length bf]] rfl mp_ ?_; (with_reducible refine (dn.calls k ai az aA ay _ _ af yU _ ?aQ ?aT A2.out).mono ?_); (case aQ => exact cb_ (Kd.bA bV.out HB.out)); (case aT => exact dz.out); rintro e w11 ⟨rfl, hb⟩; refine ⟨_, rfl, ?_⟩; replace yz := kb_ yz hb; replace HB := aa.mk (au bl_ hb); (try clear hb); (try clear hb2); (try clear hk); (try clear hi); obtain ⟨lX, lY, u7, vk, vo, lZ, l5, vv, vw, vz⟩ := bF yz.out))
   go_ret; exact ⟨re_, bl_⟩
 ·rw [if_neg c3] at H; have j5 : (yU == 0) = false := beq_eq_false_iff_ne.mpr c3; have oM : (yU != 0) = true := bne_iff_ne.mpr c3; obtain rfl := Option.some.inj H; go_enter Tryd.func55, Tryd.ntmps55; go_wp2_with (first | ((with_reducible refine aY (N := 1) rfl ?_); refine aZ ?hg (N := 1) ?hd (cs := #[.int .i64 ai, .int .i64 az, .int .i64 aA, .int .i64 ay, .slice bq af.length bf]) (t := 24) ?hr ?_; (case hd => rfl); (case hg => rfl); (case hr => first | (go_simp; done) | (go_simp; rfl)); intro PX hg w13 aK hb; have yz := aa.mk (aK); have PY : aa (w.heap.size ≤ PX) := gw_ hg (aG bl_); have GE409 := PY; replace HB := aa.mk (au bl_ hb); clear hb aK hg; obtain ⟨kg, ko, kr, ku, kv, ky, kz, kC, kD, kE⟩ := bF yz.out) | ((with_reducible refine aN (f := 22) rfl ?_); refine bJ (some 5) rfl rfl Tryd.func22 (by kernel_rfl) rfl #[.agg #[.int .i64 ai, .int .i64 az, .int .i64 aA, .int .i64 ay, .slice bq af.length bf]] rfl mp_ ?_; (with_reducible refine (dn.calls k ai az aA ay _ _ af yU _ ?aQ ?aT A2.out).mono ?_); (case aQ => exact cb_ (Kd.bA bV.out HB.out)); (case aT => exact dz.out); rintro e w15 ⟨rfl, hb⟩; refine ⟨_, rfl, ?_⟩; replace yz := kb_ yz hb; replace HB := aa.mk (au bl_ hb); (try clear hb); (try clear hb2); (try clear hk); (try clear hi)))
  go_ret; exact ⟨re_, bl_⟩

end Go.Proofs.YtggelekooacmnaaDoor.Q
namespace Go.Proofs.YtggelekooacmnaaDoor.Q
open Go.RowKit Go.Proofs.YtggelekooacmnaaDoorW.bg Go.Proofs.YtggelekooacmnaaDoorW.bP Go.Proofs.YtggelekooacmnaaDoorW.bX
attribute [local go_sem] ek eu fw fA dH dI eB eD   -- for this text's walks alone
set_option linter.unusedVariables false
set_option linter.unusedSimpArgs false

/-! ### gG: function 29 -/
def gG.f (k : Nat) (ai : Int) (az : Int) (aA : Int) (ay : Int) (af : List (S24)) (bH : Int) (aU : List (S51)) : Option (Int) := (fe.f k ai az aA ay af).bind fun zt => (if zt = 0 then ((jd.f ai az aA ay af bH aU).bind fun t414 => (some t414)) else (some zt))
theorem gG.mono : ∀ a0 a1 a2 a3 a4 a5 a6 k, LeO (gG.f k a0 a1 a2 a3 a4 a5 a6) (gG.f (k + 1) a0 a1 a2 a3 a4 a5 a6) := by
 intro a0 a1 a2 a3 a4 a5 a6 k; unfold gG.f
 repeat' first
   | (with_reducible exact fe.mono _ _ _ _ _ _)
   | (with_reducible exact LeO.refl _)
   | (with_reducible exact LeO.none _)
   | (with_reducible refine LeO.ite ?_ ?_)
   | (with_reducible refine LeO.bind ?_ (fun _ => ?_))
   | exact fe.mono _ _ _ _ _ _
   | exact LeO.none _
   | refine LeO.ite ?_ ?_
   | refine LeO.bind ?_ (fun _ => ?_)
set_option maxHeartbeats 8000000 in
set_option maxRecDepth 100000 in
theorem gG.calls (k : Nat) (ai : Int) (az : Int) (aA : Int) (ay : Int) (bq : Option Addr) (bf : Nat) (af : List (S24)) (bH : Int) (gD : Option Addr) (fI : Nat) (aU : List (S51)) (r : Int) (w : World) (dX : Kd.C k24 w bq af.length af) (dY : af.length ≤ bf) (kT : Kd.C k51 w gD aU.length aU) (kU : aU.length ≤ fI) (h : gG.f k ai az aA ay af bH aU = some r) :
  Calls Tryd.prog 29 #[.agg #[.int .i64 ai, .int .i64 az, .int .i64 aA, .int .i64 ay, .slice bq af.length bf], .agg #[.int .i64 bH, .slice gD aU.length fI]] w fun e w' => e = .returned (.int .i64 r) ∧ Below w.heap.size w w' := by
 have ou := Tryd.underlying24; have zh := Tryd.underlying51; have bV := aa.mk dX; have dz := aa.mk dY; clear dX dY; have mq := aa.mk kT; have qd := aa.mk kU; clear kT kU; have HB := aa.mk (Below.refl w.heap.size w); have H : ((fe.f k ai az aA ay af).bind fun zt => (if zt = 0 then ((jd.f ai az aA ay af bH aU).bind fun t414 => (some t414)) else (some zt))) = some r := h; clear h; replace H := Option.bind_eq_some_iff.mp H; obtain ⟨zt, A30, H⟩ := H; replace H : (if zt = 0 then ((jd.f ai az aA ay af bH aU).bind fun t414 => (some t414)) else (some zt)) = some r := H; have A3 := aa.mk A30; clear A30; by_cases c4 : zt = 0
 ·rw [if_pos c4] at H; have kM : (zt == 0) = true := beq_iff_eq.mpr c4; have yS : (zt != 0) = false := bne_eq_false_iff_eq.mpr c4; clear c4; replace H := Option.bind_eq_some_iff.mp H; obtain ⟨t414, A50, H⟩ := H; replace H : (some t414) = some r := H; have A5 := aa.mk A50; clear A50; obtain rfl := Option.some.inj H; go_enter Tryd.func29, Tryd.ntmps29; go_wp2_with (first | ((with_reducible refine aY (N := 2) rfl ?_); refine aZ ?hg (N := 2) ?hd (cs := #[.int .i64 ai, .int .i64 az, .int .i64 aA, .int .i64 ay, .slice bq af.length bf]) (t := 24) ?hr ?_; (case hd => rfl); (case hg => rfl); (case hr => first | (go_simp; done) | (go_simp; rfl)); intro gb411 hg w6 aK hb; have qj := aa.mk (aK); have GW411 : aa (w.heap.size ≤ gb411) := gw_ hg (aG bl_); have GE411 := GW411; replace HB := aa.mk (au bl_ hb); clear hb aK hg) | ((with_reducible refine aY (N := 3) rfl ?_); refine aZ ?hg (N := 3) ?hd (cs := #[.int .i64 bH, .slice gD aU.length fI]) (t := 51) ?hr ?_; (case hd => rfl); (case hg => rfl); (case hr => first | (go_simp; done) | (go_simp; rfl)); intro gb412 hg w7 aK hb; have GL := aa.mk (aK); have GW412 : aa (w.heap.size ≤ gb412) := gw_ hg (aG bl_); have GE412 := GW412; have Kz := nl_ qj hg; have KA := ng_ qj hg; replace qj := kb_ qj hb; replace HB := aa.mk (au bl_ hb); clear hb aK hg; have hnb8 := Kz.out; have hnc8 := KA.out; obtain ⟨uj, uk, AP, AQ, AR, um, uo, AU, AV, AX⟩ := bF qj.out) | ((with_reducible refine aN (f := 55) rfl ?_); refine bJ (some 7) rfl rfl Tryd.func55 (by kernel_rfl) rfl #[.agg #[.int .i64 ai, .int .i64 az, .int .i64 aA, .int .i64 ay, .slice bq af.length bf]] rfl mp_ ?_; (with_reducible refine (fe.calls k ai az aA ay _ _ af zt _ ?aQ ?aT A3.out).mono ?_); (case aQ => exact cb_ (Kd.bA bV.out HB.out)); (case aT => exact dz.out); rintro e w10 ⟨rfl, hb⟩; refine ⟨_, rfl, ?_⟩; replace qj := kb_ qj hb; replace GL := kb_ GL hb; replace HB := aa.mk (au bl_ hb); (try clear hb); (try clear hb2); (try clear hk); (try clear hi); obtain ⟨qp, qw, wT, wU, wV, qx, qy, wW, wX, wY⟩ := bF qj.out; obtain ⟨lX, lY, lZ, l5⟩ := eQ GL.out) | ((with_reducible refine aN (f := 56) rfl ?_); refine bJ (some 13) rfl rfl Tryd.func56 (by kernel_rfl) rfl #[.agg #[.int .i64 ai, .int .i64 az, .int .i64 aA, .int .i64 ay, .slice bq af.length bf], .agg #[.int .i64 bH, .slice gD aU.length fI]] rfl mp_ ?_; (with_reducible refine (jd.calls ai az aA ay _ _ af bH _ _ aU t414 _ ?aQ ?aT ?dK ?dL A5.out).mono ?_); (case aQ => exact cb_ (Kd.bA bV.out HB.out)); (case aT => exact dz.out); (case dK => exact cb_ (Kd.bA mq.out HB.out)); (case dL => exact qd.out); rintro e w13 ⟨rfl, hb⟩; refine ⟨_, rfl, ?_⟩; replace qj := kb_ qj hb; replace GL := kb_ GL hb; replace HB := aa.mk (au bl_ hb); (try clear hb); (try clear hb2); (try clear hk); (try clear hi)))
  go_ret; exact ⟨re_, bl_⟩
 ·rw [if_neg c4] at H; have kM : (zt == 0) = false := beq_eq_false_iff_ne.mpr c4; have yS : (zt != 0) = true := bne_iff_ne.mpr c4; obtain rfl := Option.some.inj H; go_enter Tryd.func29, Tryd.ntmps29; go_wp2_with (first | ((with_reducible refine aY (N := 2) rfl ?_); refine aZ ?hg (N := 2) ?hd (cs := #[.int .i64 ai, .int .i64 az, .int .i64 aA, .int .i64 ay, .slice bq af.length bf]) (t := 24) ?hr ?_; (case hd => rfl); (case hg => rfl); (case hr => first | (go_simp; done) | (go_simp; rfl)); intro gb411 hg w14 aK hb; have qj := aa.mk (aK); have GW411 : aa (w.heap.size ≤ gb411) := gw_ hg (aG bl_); have GE411 := GW411; replace HB := aa.mk (au bl_ hb); clear hb aK hg) | ((with_reducible refine aY (N := 3) rfl ?_); refine aZ ?hg (N := 3) ?hd (cs := #[.int .i64 bH, .slice gD aU.length fI]) (t := 51) ?hr ?_; (case hd => rfl); (case hg => rfl); (case hr => first | (go_simp; done) | (go_simp; rfl)); intro gb412 hg w15 aK hb; have GL := aa.mk (aK); have GW412 : aa (w.heap.size ≤ gb412) := gw_ hg (aG bl_); have GE412 := GW412; have Kz := nl_ qj hg; have KA := ng_ qj hg; replace qj := kb_ qj hb; replace HB := aa.mk (au bl_ hb); clear hb aK hg; have hnb16 := Kz.out; have hnc16 := KA.out; obtain ⟨Ik, Il, Im, Io, Ip, Iq, Ir, Iu, Iw, Iy⟩ := bF qj.out) | ((with_reducible refine aN (f := 55) rfl ?_); refine bJ (some 7) rfl rfl Tryd.func55 (by kernel_rfl) rfl #[.agg #[.int .i64 ai, .int .i64 az, .int .i64 aA, .int .i64 ay, .slice bq af.length bf]] rfl mp_ ?_; (with_reducible refine (fe.calls k ai az aA ay _ _ af zt _ ?aQ ?aT A3.out).mono ?_); (case aQ => exact cb_ (Kd.bA bV.out HB.out)); (case aT => exact dz.out); rintro e w18 ⟨rfl, hb⟩; refine ⟨_, rfl, ?_⟩; replace qj := kb_ qj hb; replace GL := kb_ GL hb; replace HB := aa.mk (au bl_ hb); (try clear hb); (try clear hb2); (try clear hk); (try clear hi)))
  go_ret; exact ⟨re_, bl_⟩

end Go.Proofs.YtggelekooacmnaaDoor.Q
namespace Go.Proofs.YtggelekooacmnaaDoor.Q
open Go.RowKit Go.Proofs.YtggelekooacmnaaDoorW.bg Go.Proofs.YtggelekooacmnaaDoorW.bP Go.Proofs.YtggelekooacmnaaDoorW.bX
attribute [local go_sem] ek eu fw fA dH dI eB eD   -- for this text's walks alone
set_option linter.unusedVariables false
set_option linter.unusedSimpArgs false

/-! ### bI: function 77 -/
mutual
def bI.j0 : Nat → List Int → Int → Int → Int → Int → Int → List (S24) → Int → Option (Int × (List (S51)) × List Int × Bool)
 | 0, _, _, _, _, _, _, _, _ => none
 | k + 1, x1, x8, Ja, M6, M7, Ar, M8, Jb => bI.l0 k x1 x8 x8 0 Ja M6 M7 Ar M8 Jb ([] : List (S51))
def bI.l0 : Nat → List Int → Int → Int → Int → Int → Int → Int → Int → List (S24) → Int → List (S51) → Option (Int × (List (S51)) × List Int × Bool)
 | 0, _, _, _, _, _, _, _, _, _, _, _ => none
 | k + 1, x1, x8, x47, x48, Ja, M6, M7, Ar, M8, Jb, M9 => if x48 < x47 then ((iW.f Ja M6 M7 Ar M8 x48).bind fun PZ => ((bI.f k PZ.1 PZ.2.1 PZ.2.2.1 PZ.2.2.2.1 PZ.2.2.2.2 x1).bind fun D8 => (if D8.2.2.2 = true then (if M9.length < 4398046511104 then (bI.l0 k D8.2.2.1 x8 x47 (wrap64 (x48 + 1)) Ja M6 M7 Ar M8 Jb (M9 ++ [(⟨D8.1, D8.2.1⟩ : S51)])) else (none)) else (some (0, ([] : List (S51)), ([] : List Int), false))))) else (if Ja = 6 then (if (x1.length : Int) < (wrap64 (Ar - x8)) then (some (0, ([] : List (S51)), ([] : List Int), false)) else (if 0 ≤ (wrap64 (Ar - x8)) then (if (wrap64 (Ar - x8)) ≤ (x1.length : Int) then (some (Jb, M9, (x1.drop ((wrap64 (Ar - x8)) : Int).toNat), true)) else (none)) else (none))) else (some (Jb, M9, x1, true)))
def bI.f : Nat → Int → Int → Int → Int → List (S24) → List Int → Option (Int × (List (S51)) × List Int × Bool)
 | 0, _, _, _, _, _, _ => none
 | k + 1, ai, az, aA, ay, af, l1 => if (l1.length : Int) = 0 then (some (0, ([] : List (S51)), ([] : List Int), false)) else (if ai = 5 then (bI.j0 k l1 (af.length : Int) ai az aA ay af 0) else (if ai = 6 then (if 0 < (l1.length : Int) then (if (rd l1 0) < 0 then (some (0, ([] : List (S51)), ([] : List Int), false)) else (if (rd l1 0) > ay then (some (0, ([] : List (S51)), ([] : List Int), false)) else (if 1 ≤ (l1.length : Int) then (bI.j0 k (l1.drop 1) (rd l1 0) ai az aA ay af 0) else (none)))) else (none)) else (if 0 < (l1.length : Int) then (if 1 ≤ (l1.length : Int) then (some (rd l1 0, ([] : List (S51)), (l1.drop 1), true)) else (none)) else (none))))
end
theorem bI.fH : ∀ k, (∀ y0 y1 y2 y3 y4 y5, LeO (bI.f k y0 y1 y2 y3 y4 y5) (bI.f (k + 1) y0 y1 y2 y3 y4 y5)) ∧ (∀ y0 y1 y2 y3 y4 y5 y6 y7, LeO (bI.j0 k y0 y1 y2 y3 y4 y5 y6 y7) (bI.j0 (k + 1) y0 y1 y2 y3 y4 y5 y6 y7)) ∧ (∀ y0 y1 y2 y3 y4 y5 y6 y7 y8 y9 y10, LeO (bI.l0 k y0 y1 y2 y3 y4 y5 y6 y7 y8 y9 y10) (bI.l0 (k + 1) y0 y1 y2 y3 y4 y5 y6 y7 y8 y9 y10))
 | 0 => ⟨fun _ _ _ _ _ _ r h => by simp [bI.f] at h, fun _ _ _ _ _ _ _ _ r h => by simp [bI.j0] at h, fun _ _ _ _ _ _ _ _ _ _ _ r h => by simp [bI.l0] at h⟩
 | k + 1 => by
  obtain ⟨ih0, ih1, ih2⟩ := bI.fH k; refine ⟨?_, ?_, ?_⟩
  ·intro y0 y1 y2 y3 y4 y5; unfold bI.f; repeat' first
   | (with_reducible exact ih0 _ _ _ _ _ _)
   | (with_reducible exact ih1 _ _ _ _ _ _ _ _)
   | (with_reducible exact ih2 _ _ _ _ _ _ _ _ _ _ _)
   | (with_reducible exact LeO.refl _)
   | (with_reducible exact LeO.none _)
   | (with_reducible refine LeO.ite ?_ ?_)
   | (with_reducible refine LeO.bind ?_ (fun _ => ?_))
   | exact ih0 _ _ _ _ _ _
   | exact ih1 _ _ _ _ _ _ _ _
   | exact ih2 _ _ _ _ _ _ _ _ _ _ _
   | exact LeO.none _
   | refine LeO.ite ?_ ?_
   | refine LeO.bind ?_ (fun _ => ?_)
  ·intro y0 y1 y2 y3 y4 y5 y6 y7; unfold bI.j0; repeat' first
   | (with_reducible exact ih0 _ _ _ _ _ _)
   | (with_reducible exact ih1 _ _ _ _ _ _ _ _)
   | (with_reducible exact ih2 _ _ _ _ _ _ _ _ _ _ _)
   | (with_reducible exact LeO.refl _)
   | (with_reducible exact LeO.none _)
   | (with_reducible refine LeO.ite ?_ ?_)
   | (with_reducible refine LeO.bind ?_ (fun _ => ?_))
   | exact ih0 _ _ _ _ _ _
   | exact ih1 _ _ _ _ _ _ _ _
   | exact ih2 _ _ _ _ _ _ _ _ _ _ _
   | exact LeO.none _
   | refine LeO.ite ?_ ?_
   | refine LeO.bind ?_ (fun _ => ?_)
  ·intro y0 y1 y2 y3 y4 y5 y6 y7 y8 y9 y10; unfold bI.l0; repeat' first
   | (with_reducible exact ih0 _ _ _ _ _ _)
   | (with_reducible exact ih1 _ _ _ _ _ _ _ _)
   | (with_reducible exact ih2 _ _ _ _ _ _ _ _ _ _ _)
   | (with_reducible exact LeO.refl _)
   | (with_reducible exact LeO.none _)
   | (with_reducible refine LeO.ite ?_ ?_)
   | (with_reducible refine LeO.bind ?_ (fun _ => ?_))
   | exact ih0 _ _ _ _ _ _
   | exact ih1 _ _ _ _ _ _ _ _
   | exact ih2 _ _ _ _ _ _ _ _ _ _ _
   | exact LeO.none _
   | refine LeO.ite ?_ ?_
   | refine LeO.bind ?_ (fun _ => ?_)
theorem bI.mono : ∀ a0 a1 a2 a3 a4 a5 k, LeO (bI.f k a0 a1 a2 a3 a4 a5) (bI.f (k + 1) a0 a1 a2 a3 a4 a5) := by
 intro a0 a1 a2 a3 a4 a5 k; obtain ⟨ih0, ih1, ih2⟩ := bI.fH k; exact ih0 a0 a1 a2 a3 a4 a5
def bI.T6 : Bool × List (List Nat × List Nat) := (true, [([], []), ([0], [0]), ([1], [1]), ([2], [2]), ([], []), ([4], [4]), ([3, 0, 1, 2, 3], [3]), ([5, 6, 0, 1, 2, 3, 4, 5, 6], [5]), ([7, 0, 1, 2, 3, 4, 5, 6, 7], [])])
def bI.B6 : List Nat := [0, 1, 3, 7, 0, 16, 15, 127, 255]
theorem bI.tab6 : kJ .any (opsOf Tryd.f77 6) = bI.T6 := by kernel_rfl
theorem bI.Na : lJ bI.T6.2 bI.B6 = true := by kernel_rfl
set_option maxHeartbeats 8000000 in
set_option maxRecDepth 100000 in
theorem bI.calls (k : Nat) : ∀ (ai : Int) (az : Int) (aA : Int) (ay : Int) (jF : Nat → Prop) (bq : Option Addr) (bf : Nat) (af : List (S24)) (P1_ : Nat → Prop) (A1 : Option Addr) (c1 : Nat) (l1 : List Int) (r1 : Int) (r2 : List (S51)) (r3 : List Int) (r4 : Bool) (w : World) (hs0_4 : Kd.V k24 24 w w.heap.size (fun k_ => jF k_) (.slice bq af.length bf) af) (hs1 : Kd.V (Kd.int .i64) 3 w w.heap.size (fun k_ => P1_ k_) (.slice A1 l1.length c1) l1) (h : bI.f k ai az aA ay af l1 = some (r1, r2, r3, r4)),
  Calls Tryd.prog 77 #[.agg #[.int .i64 ai, .int .i64 az, .int .i64 aA, .int .i64 ay, .slice bq af.length bf], .slice A1 l1.length c1] w fun e w' => ∃ v1_ v2_ : Value, e = .returned (.tuple #[.agg #[.int .i64 r1, v1_], v2_, .bool r4]) ∧ Kd.R k51 51 w' w.heap.size (fun k_ => (w.heap.size ≤ k_)) v1_ r2 ∧ Kd.V (Kd.int .i64) 3 w' w.heap.size (fun k_ => ((jF k_ ∨ P1_ k_) ∨ w.heap.size ≤ k_) ∧ some k_ ≠ (v1_ : Value).ownBlock) v2_ r3 ∧ Below w.heap.size w w' := by
 induction k using Nat.strongRecOn with
 | _ k ih =>
 intro ai az aA ay jF bq bf af P1_ A1 c1 l1 r1 r2 r3 r4 w hs0_4 hs1 h; cases k with
 | zero => exact absurd h (by simp [bI.f])
 | succ k =>
 simp only [bI.f] at h; have ou := Tryd.underlying24; have zh := Tryd.underlying51; have jO := aa.mk (show Kd.V k24 24 w w.heap.size (fun k_ => ((jF k_ ∨ P1_ k_) ∨ w.heap.size ≤ k_)) (.slice bq af.length bf) af from Kd.dU hs0_4 (fun k_ hk => .inl (.inl hk))); have HO1 := aa.mk (show Kd.V (Kd.int .i64) 3 w w.heap.size (fun k_ => ((jF k_ ∨ P1_ k_) ∨ w.heap.size ≤ k_)) (.slice A1 l1.length c1) l1 from Kd.dU hs1 (fun k_ hk => .inl (.inr hk))); have HB := aa.mk (Below.refl w.heap.size w); have H : (if (l1.length : Int) = 0 then (some (0, ([] : List (S51)), ([] : List Int), false)) else (if ai = 5 then (bI.j0 k l1 (af.length : Int) ai az aA ay af 0) else (if ai = 6 then (if 0 < (l1.length : Int) then (if (rd l1 0) < 0 then (some (0, ([] : List (S51)), ([] : List Int), false)) else (if (rd l1 0) > ay then (some (0, ([] : List (S51)), ([] : List Int), false)) else (if 1 ≤ (l1.length : Int) then (bI.j0 k (l1.drop 1) (rd l1 0) ai az aA ay af 0) else (none)))) else (none)) else (if 0 < (l1.length : Int) then (if 1 ≤ (l1.length : Int) then (some (rd l1 0, ([] : List (S51)), (l1.drop 1), true)) else (none)) else (none))))) = some (r1, r2, r3, r4) := h; clear h; by_cases c3 : (l1.length : Int) = 0
 ·rw [if_pos c3] at H; have j5 : ((l1.length : Int) == 0) = true := beq_iff_eq.mpr c3; have oM : ((l1.length : Int) != 0) = false := bne_eq_false_iff_eq.mpr c3; clear c3; simp only [Option.some.injEq, Prod.mk.injEq] at H; obtain ⟨rfl, rfl, rfl, rfl⟩ := H; go_enter Tryd.func77, Tryd.ntmps77; go_wp2_with (first | ((with_reducible refine aY (N := 2) rfl ?_); refine aZ ?hg (N := 2) ?hd (cs := #[.int .i64 ai, .int .i64 az, .int .i64 aA, .int .i64 ay, .slice bq af.length bf]) (t := 24) ?hr ?_; (case hd => rfl); (case hg => rfl); (case hr => first | (go_simp; done) | (go_simp; rfl)); intro iM hg w4 aK hb; have gI := aa.mk (aK); have GW481 : aa (w.heap.size ≤ iM) := gw_ hg (aG bl_); have GE481 := GW481; replace jO := aa.mk (Kd.gz (Kd.gV (pV_ jO.out) iM (Nat.le_of_eq hg.symm)) hb); replace HO1 := aa.mk (Kd.gz (Kd.gV (pV_ HO1.out) iM (Nat.le_of_eq hg.symm)) hb); replace HB := aa.mk (au bl_ hb); clear hb aK hg) | ((with_reducible refine aY (N := 4) rfl ?_); refine aZ ?hg (N := 4) ?hd (cs := #[.int .i64 0, .slice none 0 0]) (t := 51) ?hr ?_; (case hd => rfl); (case hg => rfl); (case hr => first | (go_simp; done) | (go_simp; rfl)); intro dM hg w5 aK hb; have gF := aa.mk (aK); have GW482 : aa (w.heap.size ≤ dM) := gw_ hg (aG bl_); have GE482 := GW482; have kV := nl_ gI hg; have kW := ng_ gI hg; replace jO := aa.mk (Kd.gz (Kd.gV (pV_ jO.out) dM (Nat.le_of_eq hg.symm)) hb); replace HO1 := aa.mk (Kd.gz (Kd.gV (pV_ HO1.out) dM (Nat.le_of_eq hg.symm)) hb); replace gI := kb_ gI hb; replace HB := aa.mk (au bl_ hb); clear hb aK hg; have hnb6 := kW.out; have hnc6 := kV.out; obtain ⟨Dj, Dk, FZ, Dl⟩ := eQ gF.out))
  refine bodyPost_ret (pg rfl _ _ dM 51 #[.int .i64 0, .slice none 0 0] (0, 0) _ rfl (by (with_reducible repeat (first | refine aj ?_ _ | refine ak ?_ | refine ah ?_ _)); refine bn (cs := #[.int .i64 0, .slice none 0 0]) ?_ 1 _ rfl; (with_reducible repeat (first | refine aj ?_ _ | refine ak ?_ | refine ah ?_ _)); refine bn (cs := #[.int .i64 0, .slice none 0 0]) ?_ 0 _ rfl; (with_reducible repeat (first | refine aj ?_ _ | refine ak ?_ | refine ah ?_ _)); exact gF.out) Tryd.underlying51 rfl (by kernel_rfl)) rfl ?_
  exact ⟨_, _, re_, by first | exact Kd.gZ _ _ _ _ _ | exact Kd.jD _ _ _ _ _ | exact Kd.iR _ _ _ _ _ | exact Kd.jB _ _ _ _ _ | exact Kd.jC _ _ _ _ _, (by first | exact Kd.iR _ _ _ _ _ | exact Kd.dU (Kd.R_V (by first | exact Kd.gZ _ _ _ _ _ | exact Kd.jD _ _ _ _ _ | exact Kd.iR _ _ _ _ _ | exact Kd.jB _ _ _ _ _ | exact Kd.jC _ _ _ _ _)) (fun k_ hk => by first | exact ⟨(.inr (hk.1)), hk.2⟩ | exact (.inr (hk)))), bl_⟩
 ·rw [if_neg c3] at H; have j5 : ((l1.length : Int) == 0) = false := beq_eq_false_iff_ne.mpr c3; have oM : ((l1.length : Int) != 0) = true := bne_iff_ne.mpr c3; have c3b2 : ¬ (l1 = []) := fun h_ => c3 (by rw [h_]; rfl)
  have HC8 := aa.mk H; clear H; go_enter Tryd.func77, Tryd.ntmps77; go_upto_block 0 with (first | ((with_reducible refine aY (N := 2) rfl ?_); refine aZ ?hg (N := 2) ?hd (cs := #[.int .i64 ai, .int .i64 az, .int .i64 aA, .int .i64 ay, .slice bq af.length bf]) (t := 24) ?hr ?_; (case hd => rfl); (case hg => rfl); (case hr => first | (go_simp; done) | (go_simp; rfl)); intro iM hg w9 aK hb; have gI := aa.mk (aK); have GW481 : aa (w.heap.size ≤ iM) := gw_ hg (aG bl_); have GE481 := GW481; replace jO := aa.mk (Kd.gz (Kd.gV (pV_ jO.out) iM (Nat.le_of_eq hg.symm)) hb); replace HO1 := aa.mk (Kd.gz (Kd.gV (pV_ HO1.out) iM (Nat.le_of_eq hg.symm)) hb); replace HB := aa.mk (au bl_ hb); clear hb aK hg) | ((with_reducible refine aY (N := 4) rfl ?_); refine aZ ?hg (N := 4) ?hd (cs := #[.int .i64 0, .slice none 0 0]) (t := 51) ?hr ?_; (case hd => rfl); (case hg => rfl); (case hr => first | (go_simp; done) | (go_simp; rfl)); intro dM hg w10 aK hb; have gF := aa.mk (aK); have GW482 : aa (w.heap.size ≤ dM) := gw_ hg (aG bl_); have GE482 := GW482; have kV := nl_ gI hg; have kW := ng_ gI hg; replace jO := aa.mk (Kd.gz (Kd.gV (pV_ jO.out) dM (Nat.le_of_eq hg.symm)) hb); replace HO1 := aa.mk (Kd.gz (Kd.gV (pV_ HO1.out) dM (Nat.le_of_eq hg.symm)) hb); replace gI := kb_ gI hb; replace HB := aa.mk (au bl_ hb); clear hb aK hg) | ((with_reducible refine aY (N := 7) rfl ?_); refine aZ ?hg (N := 7) ?hd (cs := #[.int .i64 0, .slice none 0 0]) (t := 51) ?hr ?_; (case hd => rfl); (case hg => rfl); (case hr => first | (go_simp; done) | (go_simp; rfl)); intro gK hg w11 aK hb; have jW := aa.mk (aK); have GW483 : aa (w.heap.size ≤ gK) := gw_ hg (aG bl_); have GE483 := GW483; have pq := nl_ gI hg; have rG := ng_ gI hg; have pz := nl_ gF hg; have rH := ng_ gF hg; replace jO := aa.mk (Kd.gz (Kd.gV (pV_ jO.out) gK (Nat.le_of_eq hg.symm)) hb); replace HO1 := aa.mk (Kd.gz (Kd.gV (pV_ HO1.out) gK (Nat.le_of_eq hg.symm)) hb); replace gI := kb_ gI hb; replace gF := kb_ gF hb; replace HB := aa.mk (au bl_ hb); clear hb aK hg; have hnb12 := kV.out; have hnc12 := kW.out; have hnb13 := pq.out; have hnc13 := rG.out; obtain ⟨kg, ko, kr, ku, kv, ky, kz, kC, kD, kE⟩ := bF gI.out))
  (try simp only [Act.put, List.setIfInBounds_toArray, List.set_cons_zero, List.set_cons_succ])
  go_cut [1, 8] (fun v1 v8 wc => ∃ (kq : Nat) (x1_7 : List Int) (rT : Int) (KC : Int), v8 = .int .i64 rT ∧ aa (bI.j0 kq x1_7 rT ai az aA ay af 0 = some (r1, r2, r3, r4)) ∧ aa (kq ≤ k) ∧ aa (Kd.V (Kd.int .i64) 3 wc w.heap.size (fun k_ => ((jF k_ ∨ P1_ k_) ∨ w.heap.size ≤ k_) ∧ k_ ≠ iM ∧ k_ ≠ dM ∧ k_ ≠ gK) v1 x1_7) ∧ aa (Kd.V k24 24 wc w.heap.size (fun k_ => ((jF k_ ∨ P1_ k_) ∨ w.heap.size ≤ k_) ∧ k_ ≠ iM ∧ k_ ≠ dM ∧ k_ ≠ gK) (.slice bq af.length bf) af) ∧ aa (wc.heap[iM]? = some (.cells #[.int .i64 ai, .int .i64 az, .int .i64 aA, .int .i64 ay, (.slice bq af.length bf)] 24 (0, 0))) ∧ aa (wc.heap[dM]? = some (.cells #[.int .i64 KC, (.slice none 0 0)] 51 (0, 0))) ∧ aa (wc.heap[gK]? = some (.cells #[.int .i64 0, (.slice none 0 0)] 51 (0, 0))) ∧ aa (Below w.heap.size w wc))
  case first =>
   have H := HC8.out; clear HC8; by_cases c15 : ai = 5
   ·rw [if_pos c15] at H; have oZ : (ai == 5) = true := beq_iff_eq.mpr c15; have CX : (ai != 5) = false := bne_eq_false_iff_eq.mpr c15; clear c15; (first | rw [oZ] | (simp only [eT, eY]; rw [oZ]) | skip)
    have H' := aa.mk H; clear H; have hnb16 := kV.out; have hnc16 := kW.out; have hnb17 := pq.out; have hnc17 := rG.out; obtain ⟨lT, lU, qz, qA, qB, lV, lW, qC, qD, qE⟩ := bF gI.out; go_wp2; go_meet
    case rel => exact ⟨_, (l1), ((af.length : Int)), (0), rs_, H', ⟨by first | omega | exact Nat.le_refl _⟩, ⟨by (with_reducible repeat (first | apply Kd.iF | apply Kd.iG | apply Kd.iY)); exact Kd.dU HO1.out (fun _ hk => ⟨hk.1.1.1, ⟨hk.1.1.2, ⟨hk.1.2, hk.2⟩⟩⟩)⟩, ⟨by (with_reducible repeat (first | apply Kd.iF | apply Kd.iG | apply Kd.iY)); exact Kd.dU jO.out (fun _ hk => ⟨hk.1.1.1, ⟨hk.1.1.2, ⟨hk.1.2, hk.2⟩⟩⟩)⟩, ⟨bk_⟩, ⟨bk_⟩, ⟨bk_⟩, ⟨bl_⟩⟩
   ·rw [if_neg c15] at H; have oZ : (ai == 5) = false := beq_eq_false_iff_ne.mpr c15; have CX : (ai != 5) = true := bne_iff_ne.mpr c15; (first | rw [oZ] | (simp only [eT, eY]; rw [oZ]) | skip)
    by_cases c19 : ai = 6
    ·rw [if_pos c19] at H; have AZ : (ai == 6) = true := beq_iff_eq.mpr c19; have D6 : (ai != 6) = false := bne_eq_false_iff_eq.mpr c19; clear c19; by_cases c20 : 0 < (l1.length : Int)
     ·rw [if_pos c20] at H; have xU : decide (0 < (l1.length : Int)) = true := decide_eq_true c20; have MF : decide (0 < l1.length) = true := decide_eq_true (by omega); clear c20; by_cases c21 : (rd l1 0) < 0
      ·rw [if_pos c21] at H; have AL : decide ((rd l1 0) < 0) = true := decide_eq_true c21; clear c21; simp only [Option.some.injEq, Prod.mk.injEq] at H; obtain ⟨rfl, rfl, rfl, rfl⟩ := H; have CG : 0 ≤ (0 : Int) := (by omega); have CJ : 0 < (l1.length : Int) := dt_; obtain ⟨Nb, e484, vC⟩ := Kd.mi (Kd.mo HO1.out).2.2 0 CG CJ; cases e484; have qi484 : (0 < l1.length) = True := eq_true (by omega); (try rw [show ((0 : Int)).toNat = 0 from rfl] at vC)
       (try rw [Addr.add_zero'] at vC)
       replace CG := eq_true CG; replace CJ := eq_true CJ; have hnb22 := kW.out; have hnc22 := kV.out; have hnb23 := pz.out; have hnc23 := rH.out; obtain ⟨zH, zI, zJ, zK⟩ := eQ gF.out; go_wp2; refine bodyPost_ret (pg rfl _ _ dM 51 #[.int .i64 0, .slice none 0 0] (0, 0) _ rfl (by (with_reducible repeat (first | refine aj ?_ _ | refine ak ?_ | refine ah ?_ _)); refine bn (cs := #[.int .i64 0, .slice none 0 0]) ?_ 1 _ rfl; (with_reducible repeat (first | refine aj ?_ _ | refine ak ?_ | refine ah ?_ _)); refine bn (cs := #[.int .i64 0, .slice none 0 0]) ?_ 0 _ rfl; (with_reducible repeat (first | refine aj ?_ _ | refine ak ?_ | refine ah ?_ _)); exact gF.out) Tryd.underlying51 rfl (by kernel_rfl)) rfl ?_
       exact ⟨_, _, re_, by first | exact Kd.gZ _ _ _ _ _ | exact Kd.jD _ _ _ _ _ | exact Kd.iR _ _ _ _ _ | exact Kd.jB _ _ _ _ _ | exact Kd.jC _ _ _ _ _, (by first | exact Kd.iR _ _ _ _ _ | exact Kd.dU (Kd.R_V (by first | exact Kd.gZ _ _ _ _ _ | exact Kd.jD _ _ _ _ _ | exact Kd.iR _ _ _ _ _ | exact Kd.jB _ _ _ _ _ | exact Kd.jC _ _ _ _ _)) (fun k_ hk => by first | exact ⟨(.inr (hk.1)), hk.2⟩ | exact (.inr (hk)))), bl_⟩
      ·rw [if_neg c21] at H; have AL : decide ((rd l1 0) < 0) = false := decide_eq_false c21; clear c21; by_cases c25 : (rd l1 0) > ay
       ·rw [if_pos c25] at H; have Jw : decide (ay < (rd l1 0)) = true := decide_eq_true c25; clear c25; simp only [Option.some.injEq, Prod.mk.injEq] at H; obtain ⟨rfl, rfl, rfl, rfl⟩ := H; have CG : 0 ≤ (0 : Int) := (by omega); have CJ : 0 < (l1.length : Int) := dt_; obtain ⟨Nb, e484, vC⟩ := Kd.mi (Kd.mo HO1.out).2.2 0 CG CJ; cases e484; have qi484 : (0 < l1.length) = True := eq_true (by omega); (try rw [show ((0 : Int)).toNat = 0 from rfl] at vC)
        (try rw [Addr.add_zero'] at vC)
        replace CG := eq_true CG; replace CJ := eq_true CJ; have hnb26 := kV.out; have hnc26 := kW.out; have Js := pq.out; have Jt := rG.out; obtain ⟨l6, l7, mJ, mK, mM, l8, l9, mO, mP, mQ⟩ := bF gI.out; have hnb29 := pz.out; have hnc29 := rH.out; obtain ⟨xz, xA, xB, xC⟩ := eQ gF.out; go_wp2; refine bodyPost_ret (pg rfl _ _ dM 51 #[.int .i64 0, .slice none 0 0] (0, 0) _ rfl (by (with_reducible repeat (first | refine aj ?_ _ | refine ak ?_ | refine ah ?_ _)); refine bn (cs := #[.int .i64 0, .slice none 0 0]) ?_ 1 _ rfl; (with_reducible repeat (first | refine aj ?_ _ | refine ak ?_ | refine ah ?_ _)); refine bn (cs := #[.int .i64 0, .slice none 0 0]) ?_ 0 _ rfl; (with_reducible repeat (first | refine aj ?_ _ | refine ak ?_ | refine ah ?_ _)); exact gF.out) Tryd.underlying51 rfl (by kernel_rfl)) rfl ?_
        exact ⟨_, _, re_, by first | exact Kd.gZ _ _ _ _ _ | exact Kd.jD _ _ _ _ _ | exact Kd.iR _ _ _ _ _ | exact Kd.jB _ _ _ _ _ | exact Kd.jC _ _ _ _ _, (by first | exact Kd.iR _ _ _ _ _ | exact Kd.dU (Kd.R_V (by first | exact Kd.gZ _ _ _ _ _ | exact Kd.jD _ _ _ _ _ | exact Kd.iR _ _ _ _ _ | exact Kd.jB _ _ _ _ _ | exact Kd.jC _ _ _ _ _)) (fun k_ hk => by first | exact ⟨(.inr (hk.1)), hk.2⟩ | exact (.inr (hk)))), bl_⟩
       ·rw [if_neg c25] at H; have Jw : decide (ay < (rd l1 0)) = false := decide_eq_false c25; clear c25; by_cases c31 : 1 ≤ (l1.length : Int)
        ·rw [if_pos c31] at H; have D7 := eq_true c31; have JC : decide (1 ≤ (l1.length : Int)) = true := decide_eq_true c31; clear c31; obtain ⟨y485, P5⟩ : ∃ y_ : List Int, y_ = (l1.drop 1) := ⟨_, rfl⟩; replace H : (bI.j0 k y485 (rd l1 0) ai az aA ay af 0) = some (r1, r2, r3, r4) := by first | (rw [P5]; with_reducible exact H) | (have H2_ := (Option.bind_some _ _).symm.trans H; rw [P5]; with_reducible exact H2_) | (have H2_ := (Option.bind_some _ _).symm.trans H; with_reducible exact H2_) | with_reducible exact H | (rw [P5]; exact H) | exact H
         have Ny485 := aa.mk P5; clear P5; have H' := aa.mk H; clear H; have CG : 0 ≤ (0 : Int) := (by omega); have CJ : 0 < (l1.length : Int) := dt_; obtain ⟨Nb, e484, vC⟩ := Kd.mi (Kd.mo HO1.out).2.2 0 CG CJ; cases e484; have qi484 : (0 < l1.length) = True := eq_true (by omega); (try rw [show ((0 : Int)).toNat = 0 from rfl] at vC)
         (try rw [Addr.add_zero'] at vC)
         replace CG := eq_true CG; replace CJ := eq_true CJ; have hnb32 := kV.out; have hnc32 := kW.out; have hnb33 := pq.out; have hnc33 := rG.out; obtain ⟨Er, Es, Et, Eu, Ew, Ex, Ey, Ez, EA, EB⟩ := bF gI.out; have q35 : (1 : Int) ≤ ((l1.length : Int) : Int) := dt_; obtain ⟨i035, hi035, _, hsz35, _⟩ := info_parts info3; have Nc : l1.length ≤ c1 := (Kd.mo HO1.out).2.1; have hC35 : Kd.F (Kd.int .i64) _ _ (some Nb) l1.length l1 := (Kd.V_at (base := w.heap.size) HO1.out).2.2; have hcut35 := NM (P := Tryd.prog) 29 3 .i64 Tryd.underlying29 hi035 1 hsz35 (some Nb) l1.length c1 1 (by omega) q35; have hr35 := Kd.F_cut (m := (1 : Int).toNat) (c := c1) hC35 (by omega) Nc; obtain ⟨A35, hA35⟩ : ∃ A9_, A9_ = (if c1 = (1 : Int).toNat then (some Nb) else ((some Nb) : Option Addr).map (·.add ((1 : Int).toNat * 1))) := ⟨_, rfl⟩; obtain ⟨c35, hc35⟩ : ∃ c9_, c9_ = c1 - (1 : Int).toNat := ⟨_, rfl⟩; have hy35 : y485.length = l1.length - (1 : Int).toNat := (by rw [Ny485.out, List.length_drop] <;> omega); rw [show (l1).drop (1 : Int).toNat = y485 from Ny485.out.symm] at hr35; replace hr35 : Kd.F (Kd.int .i64) _ _ A35 y485.length y485 := (by rw [hA35]; exact hr35); rw [← hy35, ← hA35, ← hc35] at hcut35; have HO489 := aa.mk (show Kd.V (Kd.int .i64) 3 _ w.heap.size _ (.slice A35 y485.length c35) y485 from Kd.yJ (by rw [hy35, hc35]; exact Nat.sub_le_sub_right Nc _) hr35); have HC489 := aa.mk (show y485.length ≤ c35 from by rw [hy35, hc35]; exact Nat.sub_le_sub_right Nc _); clear hr35 hC35 Nc hi035 hsz35 hc35; have KY35 := aa.mk hy35; have KA35 := aa.mk hA35; clear hy35 hA35; replace q35 := eq_true q35; go_wp2; go_meet
         case rel => exact ⟨_, (y485), (rd l1 0), (0), rs_, H', ⟨by first | omega | exact Nat.le_refl _⟩, ⟨by (with_reducible repeat (first | apply Kd.iF | apply Kd.iG | apply Kd.iY)); exact Kd.dU HO489.out (fun _ hk => ⟨hk.1.1.1, ⟨hk.1.1.2, ⟨hk.1.2, hk.2⟩⟩⟩)⟩, ⟨by (with_reducible repeat (first | apply Kd.iF | apply Kd.iG | apply Kd.iY)); exact Kd.dU jO.out (fun _ hk => ⟨hk.1.1.1, ⟨hk.1.1.2, ⟨hk.1.2, hk.2⟩⟩⟩)⟩, ⟨bk_⟩, ⟨bk_⟩, ⟨bk_⟩, ⟨bl_⟩⟩
        ·rw [if_neg c31] at H; exact absurd H (by simp)
     ·rw [if_neg c20] at H; exact absurd H (by simp)
    ·rw [if_neg c19] at H; have AZ : (ai == 6) = false := beq_eq_false_iff_ne.mpr c19; have D6 : (ai != 6) = true := bne_iff_ne.mpr c19; by_cases c36 : 0 < (l1.length : Int)
     ·rw [if_pos c36] at H; have Ba : decide (0 < (l1.length : Int)) = true := decide_eq_true c36; have M5 : decide (0 < l1.length) = true := decide_eq_true (by omega); clear c36; by_cases c37 : 1 ≤ (l1.length : Int)
      ·rw [if_pos c37] at H; have OG := eq_true c37; have c37b1 : decide (1 ≤ (l1.length : Int)) = true := decide_eq_true c37; clear c37; obtain ⟨y491, P6⟩ : ∃ y_ : List Int, y_ = (l1.drop 1) := ⟨_, rfl⟩; replace H : (some (rd l1 0, ([] : List (S51)), y491, true)) = some (r1, r2, r3, r4) := by first | (rw [P6]; with_reducible exact H) | (have H2_ := (Option.bind_some _ _).symm.trans H; rw [P6]; with_reducible exact H2_) | (have H2_ := (Option.bind_some _ _).symm.trans H; with_reducible exact H2_) | with_reducible exact H | (rw [P6]; exact H) | exact H
       have Ny491 := aa.mk P6; clear P6; simp only [Option.some.injEq, Prod.mk.injEq] at H; obtain ⟨rfl, rfl, rfl, rfl⟩ := H; try go_wp2
       replace jO := aa.mk (Kd.iY jO.out); replace HO1 := aa.mk (Kd.iY HO1.out); replace gI := aa.mk (ak gI.out); replace gF := aa.mk (ak gF.out); replace jW := aa.mk (ak jW.out); replace HB := aa.mk (bU HB.out); have p490 : 0 ≤ (0 : Int) := (by omega); have q490 : 0 < (l1.length : Int) := dt_; obtain ⟨P7, e490, Fw⟩ := Kd.mi (Kd.mo HO1.out).2.2 0 p490 q490; cases e490; have qi490 : (0 < l1.length) = True := eq_true (by omega); (try rw [show ((0 : Int)).toNat = 0 from rfl] at Fw)
       (try rw [Addr.add_zero'] at Fw)
       replace p490 := eq_true p490; replace q490 := eq_true q490; have q39 : (1 : Int) ≤ ((l1.length : Int) : Int) := dt_; obtain ⟨i039, hi039, _, hsz39, _⟩ := info_parts info3; have Nf : l1.length ≤ c1 := (Kd.mo HO1.out).2.1; have hC39 : Kd.F (Kd.int .i64) _ _ (some P7) l1.length l1 := (Kd.V_at (base := w.heap.size) HO1.out).2.2; have hcut39 := NM (P := Tryd.prog) 29 3 .i64 Tryd.underlying29 hi039 1 hsz39 (some P7) l1.length c1 1 (by omega) q39; have hr39 := Kd.F_cut (m := (1 : Int).toNat) (c := c1) hC39 (by omega) Nf; obtain ⟨A39, hA39⟩ : ∃ A9_, A9_ = (if c1 = (1 : Int).toNat then (some P7) else ((some P7) : Option Addr).map (·.add ((1 : Int).toNat * 1))) := ⟨_, rfl⟩; obtain ⟨c39, hc39⟩ : ∃ c9_, c9_ = c1 - (1 : Int).toNat := ⟨_, rfl⟩; have hy39 : y491.length = l1.length - (1 : Int).toNat := (by rw [Ny491.out, List.length_drop] <;> omega); rw [show (l1).drop (1 : Int).toNat = y491 from Ny491.out.symm] at hr39; replace hr39 : Kd.F (Kd.int .i64) _ _ A39 y491.length y491 := (by rw [hA39]; exact hr39); rw [← hy39, ← hA39, ← hc39] at hcut39; have HO495 := aa.mk (show Kd.V (Kd.int .i64) 3 _ w.heap.size _ (.slice A39 y491.length c39) y491 from Kd.yJ (by rw [hy39, hc39]; exact Nat.sub_le_sub_right Nf _) hr39); have HC495 := aa.mk (show y491.length ≤ c39 from by rw [hy39, hc39]; exact Nat.sub_le_sub_right Nf _); clear hr39 hC39 Nf hi039 hsz39 hc39; have KY39 := aa.mk hy39; have KA39 := aa.mk hA39; clear hy39 hA39; replace q39 := eq_true q39; refine r9 (n := 9) (S := fun w' => w'.cell? P7 = some (.int .i64 (rd l1 0))) (ds := []) #[false, false, false, false, false, false, false, false, false] (by kernel_rfl) rfl rfl (Fw) (fun hHeld => ?_); refine lK bI.tab6 bI.Na (fun HT_ HW_ => ?_)
       generalize w11.drew = w38 at jO HO1 gI gF jW HB HO495 Fw hHeld ⊢
       refine pu_ HT_ 0 20 (bm 9 1) ?_
       refine pu_ HT_ 1 21 (bm 9 3) ?_
       refine pu_ HT_ 4 24 (bm 9 19) ?_
       refine pu_ HT_ 5 25 (bm 9 51) ?_
       refine Oh (i := 2) (N := some 22) (v := ?_) (a' := ?_) #[true, true, true, false, true, true, false, false, false] rfl rfl (Tw HT_.out HW_.out (by kernel_rfl)) (fun _ _ _ h => h) (Or.inl ⟨by rfl, ?_⟩) hHeld ?_ ?_
       rotate_left
       ·intro w' s0; go_simp; with_reducible rfl
       rotate_left
       ·simp only [Act.put, List.setIfInBounds_toArray, List.set_cons_zero, List.set_cons_succ, eT, eY]; rfl
       refine pu_ HT_ 3 23 (bm 9 63) ?_
       refine oL (i := 6) (N := none) #[true, true, true, true, true, true, true, false, false] rfl rfl (iy HT_.out (by kernel_rfl)) (by decide) (fun K hK => ?_)
       have hs40 : w38.cell? ⟨dM, 0, none⟩ = some (.int .i64 0) := (aC gF.out 0).trans rfl; have hfs40 := dW gF.out 0; have hns40_0 := kV.out; have hns40_2 := rH.out; have hms40_0 := kW.out; have hms40_2 := pz.out; have hs41 : w38.cell? ⟨dM, 1, none⟩ = some (.slice none 0 0) := (aC gF.out 1).trans rfl; have hfs41 := dW gF.out 1; have hns41_0 := kV.out; have hns41_2 := rH.out; have hms41_0 := kW.out; have hms41_2 := pz.out; refine CO (w1 := ?_) (by rfl) rfl ?_ ?_
       rotate_left
       ·go_simp; rfl
       refine hK.out _ _ (((cell_far (p := ⟨dM, _, none⟩) (by first | exact Kd.wO (Kd.Di HO1.out (fun _ hk => hk.1.2)) | (rw [add_block]; exact Kd.wO (Kd.Di HO1.out (fun _ hk => hk.1.2))) | (show (Addr.add _ _).block ≠ _; rw [add_block]; exact Kd.wO (Kd.Di HO1.out (fun _ hk => hk.1.2))) | (dsimp only; exact Kd.wO (Kd.Di HO1.out (fun _ hk => hk.1.2)))) _).trans (((cell_far (p := ⟨dM, _, none⟩) (by first | exact Kd.wO (Kd.Di HO1.out (fun _ hk => hk.1.2)) | (rw [add_block]; exact Kd.wO (Kd.Di HO1.out (fun _ hk => hk.1.2))) | (show (Addr.add _ _).block ≠ _; rw [add_block]; exact Kd.wO (Kd.Di HO1.out (fun _ hk => hk.1.2))) | (dsimp only; exact Kd.wO (Kd.Di HO1.out (fun _ hk => hk.1.2)))) _).trans (hHeld))))) (fun hHeld => ?_)
       clear hK K; refine pu_ HT_ 7 5 (bm 9 255) ?_
       refine pu_ HT_ 8 6 #[true, true, true, true, true, true, true, true, true] ?_
       refine wP (pF HT_.out (by kernel_rfl)) ?_
       try go_wp2
       refine bodyPost_ret (pg rfl _ _ dM 51 #[.int .i64 (rd l1 0), .slice none 0 0] (0, 0) _ rfl (by (with_reducible repeat (first | refine aj ?_ _ | refine ak ?_ | refine ah ?_ _)); refine bn (cs := #[.int .i64 (rd l1 0), .slice none 0 0]) ?_ 1 _ rfl; (with_reducible repeat (first | refine aj ?_ _ | refine ak ?_ | refine ah ?_ _)); refine bn (cs := #[.int .i64 0, .slice none 0 0]) ?_ 0 _ rfl; (with_reducible repeat (first | refine aj ?_ _ | refine ak ?_ | refine ah ?_ _)); exact gF.out) Tryd.underlying51 rfl (by kernel_rfl)) rfl ?_
       exact ⟨_, _, re_, by first | exact Kd.gZ _ _ _ _ _ | exact Kd.jD _ _ _ _ _ | exact Kd.iR _ _ _ _ _ | exact Kd.jB _ _ _ _ _ | exact Kd.jC _ _ _ _ _, by (with_reducible repeat (first | apply Kd.iF | apply Kd.iG | apply Kd.iY)); exact Kd.dU (Kd.jq (p := ⟨dM, 1, none⟩) (Kd.jq (p := ⟨dM, 0, none⟩) (Kd.dU HO495.out (fun k_ hk => (⟨hk, by first | exact hk.1.2 | exact hk.1 | exact hk.2 | exact hk.1.1 | exact hk.1.2⟩ : _ ∧ k_ ≠ dM))) (fun _ hk => hk.2) (.int .i64 (rd l1 0))) (fun _ hk => hk.2) (.slice none 0 0)) (fun _ hk => ⟨hk.1.1.1.1, (by simp [Value.ownBlock])⟩), bl_⟩
      ·rw [if_neg c37] at H; exact absurd H (by simp)
     ·rw [if_neg c36] at H; exact absurd H (by simp)
  case rest =>
   clear HC8; (try clear c1); (try clear c2); (try clear p2); (try clear c3); (try clear j5); (try clear oM); (try clear c3b2); (try clear q3); (try clear p4); (try clear q4); (try clear hx4); (try clear qi4); (try clear c6); (try clear c7); (try clear c12); (try clear c13); (try clear c15); (try clear oZ); (try clear CX); (try clear c16); (try clear c17); (try clear c19); (try clear AZ); (try clear D6); (try clear c20); (try clear xU); (try clear MF); (try clear c21); (try clear AL); (try clear c22); (try clear c23); (try clear c25); (try clear Jw); (try clear c26); (try clear c27); (try clear c29); (try clear c31); (try clear D7); (try clear JC); (try clear c32); (try clear c33); (try clear c35); (try clear q35); (try clear c36); (try clear Ba); (try clear M5); (try clear c37); (try clear OG); (try clear c37b1); (try clear c39); (try clear q39); (try clear kg ko kr ku kv ky kz kC kD kE); (try clear lT lU qz qA qB lV lW qC qD qE); (try clear zH zI zJ zK); (try clear l6 l7 mJ mK mM l8 l9 mO mP mQ); (try clear xz xA xB xC); (try clear Er Es Et Eu Ew Ex Ey Ez EA EB); (try clear Dj Dk FZ Dl); (try clear vC); (try clear Fw); (try clear CG); (try clear p490); (try clear q35); (try clear q39); (try clear CJ); (try clear q490); obtain ⟨kq, x1_7, rT, KC, rfl, HA, HJ7, nT, iD, gI, gF, jW, HB⟩ := hcut; cases kq with
   | zero => exact absurd HA.out (by simp [bI.j0])
   | succ kj7 =>
    have H := HA.out; clear HA; simp only [bI.j0] at H; have H' := aa.mk H; clear H; go_wp2; go_loopg [1, 48] kj7 (fun kq v1 v48 w' => ∃ (oQ : List Int) (tZ : Int) (jT : Int) (iE : List (S51)) (gM : Value), v48 = .int .i64 tZ ∧ aa (bI.l0 kq oQ rT rT tZ ai az aA ay af 0 iE = some (r1, r2, r3, r4)) ∧ aa (kq ≤ kj7) ∧ aa (Kd.V (Kd.int .i64) 3 w' w.heap.size (fun k_ => ((jF k_ ∨ P1_ k_) ∨ w.heap.size ≤ k_) ∧ some k_ ≠ (gM : Value).ownBlock ∧ k_ ≠ iM ∧ k_ ≠ dM ∧ k_ ≠ gK) v1 oQ) ∧ aa (Kd.V k24 24 w' w.heap.size (fun k_ => ((jF k_ ∨ P1_ k_) ∨ w.heap.size ≤ k_) ∧ some k_ ≠ (gM : Value).ownBlock ∧ k_ ≠ iM ∧ k_ ≠ dM ∧ k_ ≠ gK) (.slice bq af.length bf) af) ∧ aa (Kd.R k51 51 w' w.heap.size (fun k_ => (w.heap.size ≤ k_) ∧ k_ ≠ dM ∧ k_ ≠ gK) gM iE) ∧ aa (w'.heap[iM]? = some (.cells #[.int .i64 ai, .int .i64 az, .int .i64 aA, .int .i64 ay, (.slice bq af.length bf)] 24 (0, 0))) ∧ aa (w'.heap[dM]? = some (.cells #[.int .i64 jT, (.slice none 0 0)] 51 (0, 0))) ∧ aa (w'.heap[gK]? = some (.cells #[.int .i64 0, gM] 51 (0, 0))) ∧ aa (Below w.heap.size w w'))
    case atStart => exact ⟨(x1_7), (0), (KC), (([] : List (S51))), (.slice none 0 0), rs_, H', ⟨Nat.le_refl _⟩, ⟨by (with_reducible repeat (first | apply Kd.iF | apply Kd.iG | apply Kd.iY)); exact Kd.dU nT.out (fun _ hk => ⟨hk.1, ⟨(by simp [Value.ownBlock]), ⟨hk.2.1, ⟨hk.2.2.1, hk.2.2.2⟩⟩⟩⟩)⟩, ⟨by (with_reducible repeat (first | apply Kd.iF | apply Kd.iG | apply Kd.iY)); exact Kd.dU iD.out (fun _ hk => ⟨hk.1, ⟨(by simp [Value.ownBlock]), ⟨hk.2.1, ⟨hk.2.2.1, hk.2.2.2⟩⟩⟩⟩)⟩, ⟨by first | exact Kd.gZ _ _ _ _ _ | exact Kd.jD _ _ _ _ _ | exact Kd.iR _ _ _ _ _ | exact Kd.jB _ _ _ _ _ | exact Kd.jC _ _ _ _ _⟩, ⟨bk_⟩, ⟨bk_⟩, ⟨bk_⟩, ⟨bl_⟩⟩
    case round =>
     clear H'; (try clear c1); (try clear c2); (try clear p2); (try clear c3); (try clear j5); (try clear oM); (try clear c3b2); (try clear q3); (try clear p4); (try clear q4); (try clear hx4); (try clear qi4); (try clear c6); (try clear c7); (try clear c12); (try clear c13); (try clear c15); (try clear oZ); (try clear CX); (try clear c16); (try clear c17); (try clear c19); (try clear AZ); (try clear D6); (try clear c20); (try clear xU); (try clear MF); (try clear c21); (try clear AL); (try clear c22); (try clear c23); (try clear c25); (try clear Jw); (try clear c26); (try clear c27); (try clear c29); (try clear c31); (try clear D7); (try clear JC); (try clear c32); (try clear c33); (try clear c35); (try clear q35); (try clear c36); (try clear Ba); (try clear M5); (try clear c37); (try clear OG); (try clear c37b1); (try clear c39); (try clear q39); (try clear kg ko kr ku kv ky kz kC kD kE); (try clear lT lU qz qA qB lV lW qC qD qE); (try clear zH zI zJ zK); (try clear l6 l7 mJ mK mM l8 l9 mO mP mQ); (try clear xz xA xB xC); (try clear Er Es Et Eu Ew Ex Ey Ez EA EB); (try clear Dj Dk FZ Dl); (try clear vC); (try clear Fw); (try clear p2); (try clear p4); (try clear CG); (try clear p490); (try clear q3); (try clear q35); (try clear q39); (try clear q4); (try clear CJ); (try clear q490); obtain ⟨oQ, tZ, jT, iE, gM, rfl, HA, HK2, nT, iD, fO, gI, gF, jW, HB⟩ := hrel; cases gk with
     | zero => exact absurd HA.out (by simp [bI.l0])
     | succ k2 =>
      have H := HA.out; clear HA; simp only [bI.l0] at H; by_cases c42 : tZ < rT
      ·rw [if_pos c42] at H; have c42b0 : decide (tZ < rT) = true := decide_eq_true c42; clear c42; replace H := Option.bind_eq_some_iff.mp H; obtain ⟨⟨t496, t497, t498, t499, t500⟩, A430, H⟩ := H; replace H : ((bI.f k2 t496 t497 t498 t499 t500 oQ).bind fun D8 => (if D8.2.2.2 = true then (if iE.length < 4398046511104 then (bI.l0 k2 D8.2.2.1 rT rT (wrap64 (tZ + 1)) ai az aA ay af 0 (iE ++ [(⟨D8.1, D8.2.1⟩ : S51)])) else (none)) else (some (0, ([] : List (S51)), ([] : List Int), false)))) = some (r1, r2, r3, r4) := H; have A43 := aa.mk A430; clear A430; replace H := Option.bind_eq_some_iff.mp H; obtain ⟨⟨uf, mr, t507, t510⟩, A440, H⟩ := H; replace H : (if t510 = true then (if iE.length < 4398046511104 then (bI.l0 k2 t507 rT rT (wrap64 (tZ + 1)) ai az aA ay af 0 (iE ++ [(⟨uf, mr⟩ : S51)])) else (none)) else (some (0, ([] : List (S51)), ([] : List Int), false))) = some (r1, r2, r3, r4) := H; have A44 := aa.mk A440; clear A440; by_cases c45 : t510 = true
       ·subst c45; have H1 : (if iE.length < 4398046511104 then (bI.l0 k2 t507 rT rT (wrap64 (tZ + 1)) ai az aA ay af 0 (iE ++ [(⟨uf, mr⟩ : S51)])) else (none)) = some (r1, r2, r3, r4) := by rw [if_pos rfl] at H; exact H
        clear H; have H := H1; clear H1; by_cases c46 : iE.length < 4398046511104
        ·rw [if_pos c46] at H; have LMc46 := aa.mk c46; clear c46; obtain ⟨y512, P8⟩ : ∃ y_ : List (S51), y_ = (iE ++ [(⟨uf, mr⟩ : S51)]) := ⟨_, rfl⟩; replace H : (bI.l0 k2 t507 rT rT (wrap64 (tZ + 1)) ai az aA ay af 0 y512) = some (r1, r2, r3, r4) := by first | (rw [P8]; with_reducible exact H) | (have H2_ := (Option.bind_some _ _).symm.trans H; rw [P8]; with_reducible exact H2_) | (have H2_ := (Option.bind_some _ _).symm.trans H; with_reducible exact H2_) | with_reducible exact H | (rw [P8]; exact H) | exact H
         have Ny512 := aa.mk P8; clear P8; have H' := aa.mk H; clear H; have hnb47 := kV.out; have hnc47 := kW.out; have hnb48 := pq.out; have hnc48 := rG.out; obtain ⟨MO, MP, MQ, MR, MS, MU, MV, MW, MX, MZ⟩ := bF gI.out; go_wp2_with (first | ((with_reducible refine aN (f := 81) rfl ?_); refine bJ (some 54) rfl rfl Tryd.func81 (by kernel_rfl) rfl #[.agg #[.int .i64 ai, .int .i64 az, .int .i64 aA, .int .i64 ay, .slice bq af.length bf], .int .i64 tZ] rfl mp_ ?_; (with_reducible refine (iW.calls ai az aA ay (fun k_ => (((jF k_ ∨ P1_ k_) ∨ w.heap.size ≤ k_) ∧ (some k_ ≠ (gM : Value).ownBlock ∧ (k_ ≠ iM ∧ (k_ ≠ dM ∧ k_ ≠ gK))))) _ _ af tZ t496 t497 t498 t499 t500 _ ?aQ A43.out).mono ?_); (case aQ => exact iD.out); rintro e w50 ⟨v501, rfl, ho0, hb⟩; refine ⟨_, rfl, ?_⟩; have rJ := aa.mk (Kd.uC (Kd.dU (ok' := fun k_ => ((jF k_ ∨ P1_ k_) ∨ w.heap.size ≤ k_) ∧ some k_ ≠ (gM : Value).ownBlock ∧ k_ ≠ iM ∧ k_ ≠ dM ∧ k_ ≠ gK) ho0 (fun k_ hk_ => ⟨Or.elim hk_ (fun hs_ => hs_.1) (fun hn_ => (.inr (Nat.le_trans (aG bl_) hn_))), Or.elim hk_ (fun hs_ => hs_.2.1) (fun hn_ => (Kd.fresh' (Kd.lC (pR_ fO.out)) k_ hn_)), Or.elim hk_ (fun hs_ => hs_.2.2.1) (fun hn_ => (Kd.fP (g := iM) (o := .cells #[.int .i64 ai, .int .i64 az, .int .i64 aA, .int .i64 ay, .slice bq af.length bf] 24 (0, 0)) bk_ k_ hn_)), Or.elim hk_ (fun hs_ => hs_.2.2.2.1) (fun hn_ => (Kd.fP (g := dM) (o := .cells #[.int .i64 jT, .slice none 0 0] 51 (0, 0)) bk_ k_ hn_)), Or.elim hk_ (fun hs_ => hs_.2.2.2.2) (fun hn_ => (Kd.fP (g := gK) (o := .cells #[.int .i64 0, gM] 51 (0, 0)) bk_ k_ hn_))⟩)) (aG bl_)); replace nT := aa.mk (Kd.gz (pV_ nT.out) hb); replace iD := aa.mk (Kd.gz (pV_ iD.out) hb); replace fO := aa.mk (Kd.cB (pR_ fO.out) hb); replace gI := kb_ gI hb; replace gF := kb_ gF hb; replace jW := kb_ jW hb; replace HB := aa.mk (au bl_ hb); (try clear hb); (try clear hb2); (try clear hk); (try clear hi); (try clear ho0); obtain ⟨Ao51, co51, eo51⟩ := Kd.si rJ.out; subst eo51; obtain ⟨Ao52, co52, eo52⟩ := Kd.si nT.out; subst eo52) | ((with_reducible refine aN (f := 77) rfl ?_); refine bJ (some 56) rfl rfl Tryd.func77 (by kernel_rfl) rfl #[.agg #[.int .i64 t496, .int .i64 t497, .int .i64 t498, .int .i64 t499, .slice Ao51 t500.length co51], .slice Ao52 oQ.length co52] rfl mp_ ?_; (with_reducible refine (ih k2 (by have := HJ7.out; have := HK2.out; omega) t496 t497 t498 t499 (fun k_ => (((jF k_ ∨ P1_ k_) ∨ w.heap.size ≤ k_) ∧ (some k_ ≠ (gM : Value).ownBlock ∧ (k_ ≠ iM ∧ (k_ ≠ dM ∧ k_ ≠ gK))))) _ _ t500 (fun k_ => (((jF k_ ∨ P1_ k_) ∨ w.heap.size ≤ k_) ∧ (some k_ ≠ (gM : Value).ownBlock ∧ (k_ ≠ iM ∧ (k_ ≠ dM ∧ k_ ≠ gK))))) _ _ oQ uf mr t507 true _ ?aQ ?aT A44.out).mono ?_); (case aQ => exact rJ.out); (case aT => exact nT.out); rintro e w53 ⟨v505, v508, rfl, ho0, ho1, hb⟩; refine ⟨_, rfl, ?_⟩; have Bf := aa.mk (Kd.dJ (Kd.oU (Kd.oU (Kd.lG (Kd.R_newM (M := fun k_ => (w.heap.size ≤ k_)) (Kd.bQ (ok' := fun k_ => True) ho0 (fun _ hk_ => trivial)) (aG bl_) (fun k_ h_ => h_)) (Kd.lC (pR_ fO.out))) (g := dM) (o := .cells #[.int .i64 jT, .slice none 0 0] 51 (0, 0)) bk_) (g := gK) (o := .cells #[.int .i64 0, gM] 51 (0, 0)) bk_) (aG bl_)); have Db := aa.mk (Kd.uC (Kd.dU (ok' := fun k_ => ((jF k_ ∨ P1_ k_) ∨ w.heap.size ≤ k_) ∧ some k_ ≠ (v505 : Value).ownBlock ∧ some k_ ≠ (gM : Value).ownBlock ∧ k_ ≠ iM ∧ k_ ≠ dM ∧ k_ ≠ gK) ho1 (fun k_ hk_ => ⟨Or.elim hk_.1 (fun hs_ => Or.elim hs_ (fun hs_ => hs_.1) (fun hs_ => hs_.1)) (fun hn_ => (.inr (Nat.le_trans (aG bl_) hn_))), hk_.2, Or.elim hk_.1 (fun hs_ => Or.elim hs_ (fun hs_ => hs_.2.1) (fun hs_ => hs_.2.1)) (fun hn_ => (Kd.fresh' (Kd.lC (pR_ fO.out)) k_ hn_)), Or.elim hk_.1 (fun hs_ => Or.elim hs_ (fun hs_ => hs_.2.2.1) (fun hs_ => hs_.2.2.1)) (fun hn_ => (Kd.fP (g := iM) (o := .cells #[.int .i64 ai, .int .i64 az, .int .i64 aA, .int .i64 ay, .slice bq af.length bf] 24 (0, 0)) bk_ k_ hn_)), Or.elim hk_.1 (fun hs_ => Or.elim hs_ (fun hs_ => hs_.2.2.2.1) (fun hs_ => hs_.2.2.2.1)) (fun hn_ => (Kd.fP (g := dM) (o := .cells #[.int .i64 jT, .slice none 0 0] 51 (0, 0)) bk_ k_ hn_)), Or.elim hk_.1 (fun hs_ => Or.elim hs_ (fun hs_ => hs_.2.2.2.2) (fun hs_ => hs_.2.2.2.2)) (fun hn_ => (Kd.fP (g := gK) (o := .cells #[.int .i64 0, gM] 51 (0, 0)) bk_ k_ hn_))⟩)) (aG bl_)); replace nT := aa.mk (Kd.vM (pV_ nT.out) (Kd.iI ho0) hb); replace iD := aa.mk (Kd.vM (pV_ iD.out) (Kd.iI ho0) hb); replace fO := aa.mk (Kd.jU (pR_ fO.out) (Kd.iI ho0) hb); replace rJ := aa.mk (Kd.vM (pV_ rJ.out) (Kd.iI ho0) hb); replace gI := kb_ gI hb; replace gF := kb_ gF hb; replace jW := kb_ jW hb; replace HB := aa.mk (au bl_ hb); (try clear hb); (try clear hb2); (try clear hk); (try clear hi); (try clear ho0); (try clear ho1)) | ((with_reducible refine aY (N := 10) rfl ?_); refine aZ ?hg (N := 10) ?hd (cs := #[.int .i64 0, .slice none 0 0]) (t := 51) ?hr ?_; (case hd => rfl); (case hg => rfl); (case hr => first | (go_simp; done) | (go_simp; rfl)); intro gu hg w54 aK hb; have JJ := aa.mk (aK); have GW511 : aa (w.heap.size ≤ gu) := gw_ hg (aG bl_); have GE511 := GW511; have Dm := nl_ gI hg; have KD := ng_ gI hg; have wG := nl_ gF hg; have KE := ng_ gF hg; have Dn := nl_ jW hg; have KF := ng_ jW hg; replace nT := aa.mk (Kd.gz (Kd.gV (pV_ nT.out) gu (Nat.le_of_eq hg.symm)) hb); replace iD := aa.mk (Kd.gz (Kd.gV (pV_ iD.out) gu (Nat.le_of_eq hg.symm)) hb); replace fO := aa.mk (Kd.cB (Kd.jV (pR_ fO.out) gu (Nat.le_of_eq hg.symm)) hb); replace rJ := aa.mk (Kd.gz (Kd.gV (pV_ rJ.out) gu (Nat.le_of_eq hg.symm)) hb); replace Bf := aa.mk (Kd.cB (Kd.jV (pR_ Bf.out) gu (Nat.le_of_eq hg.symm)) hb); replace Db := aa.mk (Kd.gz (Kd.gV (pV_ Db.out) gu (Nat.le_of_eq hg.symm)) hb); replace gI := kb_ gI hb; replace gF := kb_ gF hb; replace jW := kb_ jW hb; replace HB := aa.mk (au bl_ hb); clear hb aK hg; have hnb55 := KD.out; have hnc55 := Dm.out; have hnb56 := KE.out; have hnc56 := wG.out; have hnb57 := KF.out; have hnc57 := Dn.out; obtain ⟨hcz58_0, hcz58_1, hfz58_0, hfz58_1⟩ := eQ JJ.out; obtain ⟨rU, rV, eo59⟩ := Kd.dG Bf.out; subst eo59) | ((with_reducible refine Xx (t := 51) (p := 10) rfl ?_); refine Uh (t := 51) (p := 10) (v := ?vo_w60) (w1 := ((w54.setCell ⟨gu, 0, none⟩ (.int .i64 uf)).setCell ⟨gu, 1, none⟩ (.slice rU mr.length rV))) ?hg ?ho ?hn ?hr ?_; (case ho => rfl); (case hg => rfl); (case hn => rfl); (case hr => first | (go_simp; done) | (go_simp; rfl)); intro w60 hw; replace nT : aa (Kd.V (Kd.int .i64) 3 w60 w.heap.size (fun k_ => ((jF k_ ∨ P1_ k_) ∨ w.heap.size ≤ k_) ∧ some k_ ≠ (gM : Value).ownBlock ∧ some k_ ≠ (.slice rU mr.length rV : Value).ownBlock ∧ k_ ≠ iM ∧ k_ ≠ dM ∧ k_ ≠ gK ∧ k_ ≠ gu) (.slice Ao52 oQ.length co52) oQ) := ⟨(by rw [hw]; exact (by (with_reducible repeat (first | apply Kd.iF | apply Kd.iG | apply Kd.iY)); exact Kd.dU (Kd.jq (p := ⟨gu, 1, none⟩) (Kd.jq (p := ⟨gu, 0, none⟩) (Kd.dU nT.out (fun k_ hk => (⟨hk, by first | exact hk.2 | exact hk.1 | exact hk.2 | exact hk.1.1 | exact hk.1.2⟩ : _ ∧ k_ ≠ gu))) (fun _ hk => hk.2) (.int .i64 uf)) (fun _ hk => hk.2) (.slice rU mr.length rV)) (fun _ hk => ⟨hk.1.1.1.1, ⟨hk.1.1.1.2.1, ⟨hk.1.1.2, ⟨hk.1.1.1.2.2.1, ⟨hk.1.1.1.2.2.2.1, ⟨hk.1.1.1.2.2.2.2, hk.1.2⟩⟩⟩⟩⟩⟩)))⟩; replace iD : aa (Kd.V k24 24 w60 w.heap.size (fun k_ => ((jF k_ ∨ P1_ k_) ∨ w.heap.size ≤ k_) ∧ some k_ ≠ (gM : Value).ownBlock ∧ some k_ ≠ (.slice rU mr.length rV : Value).ownBlock ∧ k_ ≠ iM ∧ k_ ≠ dM ∧ k_ ≠ gK ∧ k_ ≠ gu) (.slice bq af.length bf) af) := ⟨(by rw [hw]; exact (by (with_reducible repeat (first | apply Kd.iF | apply Kd.iG | apply Kd.iY)); exact Kd.dU (Kd.jq (p := ⟨gu, 1, none⟩) (Kd.jq (p := ⟨gu, 0, none⟩) (Kd.dU iD.out (fun k_ hk => (⟨hk, by first | exact hk.2 | exact hk.1 | exact hk.2 | exact hk.1.1 | exact hk.1.2⟩ : _ ∧ k_ ≠ gu))) (fun _ hk => hk.2) (.int .i64 uf)) (fun _ hk => hk.2) (.slice rU mr.length rV)) (fun _ hk => ⟨hk.1.1.1.1, ⟨hk.1.1.1.2.1, ⟨hk.1.1.2, ⟨hk.1.1.1.2.2.1, ⟨hk.1.1.1.2.2.2.1, ⟨hk.1.1.1.2.2.2.2, hk.1.2⟩⟩⟩⟩⟩⟩)))⟩; replace fO : aa (Kd.R k51 51 w60 w.heap.size (fun k_ => (w.heap.size ≤ k_) ∧ some k_ ≠ (.slice rU mr.length rV : Value).ownBlock ∧ k_ ≠ dM ∧ k_ ≠ gK ∧ k_ ≠ gu) gM iE) := ⟨(by rw [hw]; exact (by (with_reducible repeat (first | apply Kd.dN | apply Kd.dO | apply Kd.dP)); exact Kd.bQ (Kd.dD (p := ⟨gu, 1, none⟩) (Kd.dD (p := ⟨gu, 0, none⟩) (Kd.bQ fO.out (fun k_ hk => (⟨hk, by first | exact hk.2 | exact hk.1 | exact hk.2 | exact hk.1.1 | exact hk.1.2⟩ : _ ∧ k_ ≠ gu))) (fun _ hk => hk.2) (.int .i64 uf)) (fun _ hk => hk.2) (.slice rU mr.length rV)) (fun _ hk => ⟨hk.1.1.1.1, ⟨hk.1.1.2, ⟨hk.1.1.1.2.1, ⟨hk.1.1.1.2.2, hk.1.2⟩⟩⟩⟩)))⟩; replace rJ : aa (Kd.V k24 24 w60 w.heap.size (fun k_ => ((jF k_ ∨ P1_ k_) ∨ w.heap.size ≤ k_) ∧ some k_ ≠ (gM : Value).ownBlock ∧ some k_ ≠ (.slice rU mr.length rV : Value).ownBlock ∧ k_ ≠ iM ∧ k_ ≠ dM ∧ k_ ≠ gK ∧ k_ ≠ gu) (.slice Ao51 t500.length co51) t500) := ⟨(by rw [hw]; exact (by (with_reducible repeat (first | apply Kd.iF | apply Kd.iG | apply Kd.iY)); exact Kd.dU (Kd.jq (p := ⟨gu, 1, none⟩) (Kd.jq (p := ⟨gu, 0, none⟩) (Kd.dU rJ.out (fun k_ hk => (⟨hk, by first | exact hk.2 | exact hk.1 | exact hk.2 | exact hk.1.1 | exact hk.1.2⟩ : _ ∧ k_ ≠ gu))) (fun _ hk => hk.2) (.int .i64 uf)) (fun _ hk => hk.2) (.slice rU mr.length rV)) (fun _ hk => ⟨hk.1.1.1.1, ⟨hk.1.1.1.2.1, ⟨hk.1.1.2, ⟨hk.1.1.1.2.2.1, ⟨hk.1.1.1.2.2.2.1, ⟨hk.1.1.1.2.2.2.2, hk.1.2⟩⟩⟩⟩⟩⟩)))⟩; replace Bf : aa (Kd.R k51 51 w60 w.heap.size (fun k_ => (w.heap.size ≤ k_) ∧ some k_ ≠ (gM : Value).ownBlock ∧ k_ ≠ dM ∧ k_ ≠ gK ∧ k_ ≠ gu) (.slice rU mr.length rV) mr) := ⟨(by rw [hw]; exact (by (with_reducible repeat (first | apply Kd.dN | apply Kd.dO | apply Kd.dP)); exact Kd.bQ (Kd.dD (p := ⟨gu, 1, none⟩) (Kd.dD (p := ⟨gu, 0, none⟩) (Kd.bQ Bf.out (fun k_ hk => (⟨hk, by first | exact hk.2 | exact hk.1 | exact hk.2 | exact hk.1.1 | exact hk.1.2⟩ : _ ∧ k_ ≠ gu))) (fun _ hk => hk.2) (.int .i64 uf)) (fun _ hk => hk.2) (.slice rU mr.length rV)) (fun _ hk => ⟨hk.1.1.1.1.1.1, ⟨hk.1.1.1.1.2, ⟨hk.1.1.1.2, ⟨hk.1.1.2, hk.1.2⟩⟩⟩⟩)))⟩; replace Db : aa (Kd.V (Kd.int .i64) 3 w60 w.heap.size (fun k_ => ((jF k_ ∨ P1_ k_) ∨ w.heap.size ≤ k_) ∧ some k_ ≠ (gM : Value).ownBlock ∧ some k_ ≠ (.slice rU mr.length rV : Value).ownBlock ∧ k_ ≠ iM ∧ k_ ≠ dM ∧ k_ ≠ gK ∧ k_ ≠ gu) v508 t507) := ⟨(by rw [hw]; exact (by (with_reducible repeat (first | apply Kd.iF | apply Kd.iG | apply Kd.iY)); exact Kd.dU (Kd.jq (p := ⟨gu, 1, none⟩) (Kd.jq (p := ⟨gu, 0, none⟩) (Kd.dU Db.out (fun k_ hk => (⟨hk, by first | exact hk.2 | exact hk.1 | exact hk.2 | exact hk.1.1 | exact hk.1.2⟩ : _ ∧ k_ ≠ gu))) (fun _ hk => hk.2) (.int .i64 uf)) (fun _ hk => hk.2) (.slice rU mr.length rV)) (fun _ hk => ⟨hk.1.1.1, ⟨hk.1.1.2.2.1, ⟨hk.1.1.2.1, ⟨hk.1.1.2.2.2.1, ⟨hk.1.1.2.2.2.2.1, ⟨hk.1.1.2.2.2.2.2, hk.1.2⟩⟩⟩⟩⟩⟩)))⟩; replace gI : aa (w60.heap[iM]? = some (.cells #[.int .i64 ai, .int .i64 az, .int .i64 aA, .int .i64 ay, .slice bq af.length bf] 24 (0, 0))) := ⟨(by rw [hw]; exact (by (with_reducible repeat (first | refine aj ?_ _ | refine ak ?_ | refine ah ?_ _)); refine bM ?_ Dm.out _; (with_reducible repeat (first | refine aj ?_ _ | refine ak ?_ | refine ah ?_ _)); refine bM ?_ Dm.out _; (with_reducible repeat (first | refine aj ?_ _ | refine ak ?_ | refine ah ?_ _)); exact gI.out))⟩; replace gF : aa (w60.heap[dM]? = some (.cells #[.int .i64 jT, .slice none 0 0] 51 (0, 0))) := ⟨(by rw [hw]; exact (by (with_reducible repeat (first | refine aj ?_ _ | refine ak ?_ | refine ah ?_ _)); refine bM ?_ wG.out _; (with_reducible repeat (first | refine aj ?_ _ | refine ak ?_ | refine ah ?_ _)); refine bM ?_ wG.out _; (with_reducible repeat (first | refine aj ?_ _ | refine ak ?_ | refine ah ?_ _)); exact gF.out))⟩; replace jW : aa (w60.heap[gK]? = some (.cells #[.int .i64 0, gM] 51 (0, 0))) := ⟨(by rw [hw]; exact (by (with_reducible repeat (first | refine aj ?_ _ | refine ak ?_ | refine ah ?_ _)); refine bM ?_ Dn.out _; (with_reducible repeat (first | refine aj ?_ _ | refine ak ?_ | refine ah ?_ _)); refine bM ?_ Dn.out _; (with_reducible repeat (first | refine aj ?_ _ | refine ak ?_ | refine ah ?_ _)); exact jW.out))⟩; replace JJ : aa (w60.heap[gu]? = some (.cells #[.int .i64 uf, .slice rU mr.length rV] 51 (0, 0))) := ⟨(by rw [hw]; exact (by (with_reducible repeat (first | refine aj ?_ _ | refine ak ?_ | refine ah ?_ _)); refine bn (cs := #[.int .i64 uf, .slice none 0 0]) ?_ 1 _ rfl; (with_reducible repeat (first | refine aj ?_ _ | refine ak ?_ | refine ah ?_ _)); refine bn (cs := #[.int .i64 0, .slice none 0 0]) ?_ 0 _ rfl; (with_reducible repeat (first | refine aj ?_ _ | refine ak ?_ | refine ah ?_ _)); exact JJ.out))⟩; replace HB : aa (Below w.heap.size w w60) := ⟨(by rw [hw]; exact bl_)⟩; clear hw; have hnb61 := rH.out; have hnc61 := pz.out; obtain ⟨BC, BD, BF, BG⟩ := eQ jW.out; obtain ⟨hcz63_0, hcz63_1, hfz63_0, hfz63_1⟩ := eQ JJ.out) | ((with_reducible refine vL (b := .append) (xs := #[.tmp 64, .tmp 66]) rfl ?_); at_builtin; refine Kd.Tk k51 (w0 := w) w.heap.size rfl (.tmp 64) (.tmp 66) 49 51 (.agg #[(.int .i64 0), (.slice none 0 0)]) 32 rfl Tryd.underlying49 G5 rfl (by decide) (by omega) gM iE (⟨uf, mr⟩ : S51) [.int .i64 uf, .slice rU mr.length rV] (fun k_ => (w.heap.size ≤ k_) ∧ k_ ≠ dM ∧ k_ ≠ gK ∧ k_ ≠ gu) (fun k_ => ((fun k_ => (w.heap.size ≤ k_) ∧ k_ ≠ dM ∧ k_ ≠ gK ∧ k_ ≠ gu)) k_ ∧ some k_ ≠ (gM : Value).ownBlock) rfl rfl ?aP (fun _ hk => hk) ?aF ?aO ?aB ?aS ?aL ?_; (case aP => exact zA _ _ _ (⟨uf, mr⟩ : S51) (Kd.bQ (Bf.out) (fun k_ hk => ⟨⟨hk.1, ⟨hk.2.2.1, ⟨hk.2.2.2.1, hk.2.2.2.2⟩⟩⟩, hk.2.1⟩))); (case aB => exact bl_); (case aF => exact (fun k_ hk => ⟨(Nat.le_trans (aG bl_) hk), Kd.fP (g := dM) (o := .cells #[.int .i64 jT, .slice none 0 0] 51 (0, 0)) bk_ k_ hk, Kd.fP (g := gK) (o := .cells #[.int .i64 0, gM] 51 (0, 0)) bk_ k_ hk, Kd.fP (g := gu) (o := .cells #[.int .i64 uf, .slice rU mr.length rV] 51 (0, 0)) bk_ k_ hk⟩)); (case aO => exact (by (with_reducible repeat (first | apply Kd.dN | apply Kd.dO | apply Kd.dP)); exact Kd.bQ fO.out (fun _ hk => ⟨hk.1, ⟨hk.2.2.1, ⟨hk.2.2.2.1, hk.2.2.2.2⟩⟩⟩))); (case aS => exact (aG bl_)); (case aL => have := LMc46.out; omega); intro v513 w64 ho hb hg hat; rw [← Ny512.out] at ho; have HO514 := aa.mk (ho); replace nT := aa.mk (Kd.Jl (ok := (fun k_ => ((jF k_ ∨ P1_ k_) ∨ w.heap.size ≤ k_) ∧ some k_ ≠ (.slice rU mr.length rV : Value).ownBlock ∧ k_ ≠ iM ∧ k_ ≠ dM ∧ k_ ≠ gK ∧ k_ ≠ gu)) (by (with_reducible repeat (first | apply Kd.iF | apply Kd.iG | apply Kd.iY)); exact Kd.dU nT.out (fun _ hk => ⟨⟨hk.1, ⟨hk.2.2.1, ⟨hk.2.2.2.1, ⟨hk.2.2.2.2.1, ⟨hk.2.2.2.2.2.1, hk.2.2.2.2.2.2⟩⟩⟩⟩⟩, hk.2.1⟩)) hg hat); replace iD := aa.mk (Kd.Jl (ok := (fun k_ => ((jF k_ ∨ P1_ k_) ∨ w.heap.size ≤ k_) ∧ some k_ ≠ (.slice rU mr.length rV : Value).ownBlock ∧ k_ ≠ iM ∧ k_ ≠ dM ∧ k_ ≠ gK ∧ k_ ≠ gu)) (by (with_reducible repeat (first | apply Kd.iF | apply Kd.iG | apply Kd.iY)); exact Kd.dU iD.out (fun _ hk => ⟨⟨hk.1, ⟨hk.2.2.1, ⟨hk.2.2.2.1, ⟨hk.2.2.2.2.1, ⟨hk.2.2.2.2.2.1, hk.2.2.2.2.2.2⟩⟩⟩⟩⟩, hk.2.1⟩)) hg hat); replace gI := aa.mk (fG (g := iM) (o := .cells #[.int .i64 ai, .int .i64 az, .int .i64 aA, .int .i64 ay, .slice bq af.length bf] 24 (0, 0)) bk_ hg (Kd.rZ fO.out gI.out (by decide))); replace gF := aa.mk (fG (g := dM) (o := .cells #[.int .i64 jT, .slice none 0 0] 51 (0, 0)) bk_ hg (Kd.vH fO.out (fun _ hk => hk.2.2.1))); replace jW := aa.mk (fG (g := gK) (o := .cells #[.int .i64 0, gM] 51 (0, 0)) bk_ hg (Kd.vH fO.out (fun _ hk => hk.2.2.2.1))); replace rJ := aa.mk (Kd.Jl (ok := (fun k_ => ((jF k_ ∨ P1_ k_) ∨ w.heap.size ≤ k_) ∧ some k_ ≠ (.slice rU mr.length rV : Value).ownBlock ∧ k_ ≠ iM ∧ k_ ≠ dM ∧ k_ ≠ gK ∧ k_ ≠ gu)) (by (with_reducible repeat (first | apply Kd.iF | apply Kd.iG | apply Kd.iY)); exact Kd.dU rJ.out (fun _ hk => ⟨⟨hk.1, ⟨hk.2.2.1, ⟨hk.2.2.2.1, ⟨hk.2.2.2.2.1, ⟨hk.2.2.2.2.2.1, hk.2.2.2.2.2.2⟩⟩⟩⟩⟩, hk.2.1⟩)) hg hat); replace Db := aa.mk (Kd.Jl (ok := (fun k_ => ((jF k_ ∨ P1_ k_) ∨ w.heap.size ≤ k_) ∧ some k_ ≠ (.slice rU mr.length rV : Value).ownBlock ∧ k_ ≠ iM ∧ k_ ≠ dM ∧ k_ ≠ gK ∧ k_ ≠ gu)) (by (with_reducible repeat (first | apply Kd.iF | apply Kd.iG | apply Kd.iY)); exact Kd.dU Db.out (fun _ hk => ⟨⟨hk.1, ⟨hk.2.2.1, ⟨hk.2.2.2.1, ⟨hk.2.2.2.2.1, ⟨hk.2.2.2.2.2.1, hk.2.2.2.2.2.2⟩⟩⟩⟩⟩, hk.2.1⟩)) hg hat); replace JJ := aa.mk (fG (g := gu) (o := .cells #[.int .i64 uf, .slice rU mr.length rV] 51 (0, 0)) bk_ hg (Kd.vH fO.out (fun _ hk => hk.2.2.2.2))); replace HB := aa.mk (hb); clear fO Bf; clear ho hb hg hat; obtain ⟨Ao65, co65, eo65⟩ := Kd.dG HO514.out; subst eo65; obtain ⟨Ig, Ih, Ii, Ij⟩ := eQ jW.out))
         go_roundg k2
         case measure => have := HJ7.out; have := HK2.out; omega
         case rel => exact ⟨(t507), (wrap64 (tZ + 1)), (jT), (y512), (.slice Ao65 y512.length co65), rs_, H', ⟨by have := HJ7.out; have := HK2.out; omega⟩, ⟨by (with_reducible repeat (first | apply Kd.iF | apply Kd.iG | apply Kd.iY)); exact Kd.dU (Kd.jq (p := ⟨gK, 1, none⟩) (Kd.dU Db.out (fun k_ hk => (⟨hk, by first | exact hk.1.2.2.2.2.1 | exact hk.1 | exact hk.2 | exact hk.1.1 | exact hk.1.2⟩ : _ ∧ k_ ≠ gK))) (fun _ hk => hk.2) (.slice Ao65 y512.length co65)) (fun _ hk => ⟨hk.1.1.1, ⟨hk.1.2, ⟨hk.1.1.2.2.1, ⟨hk.1.1.2.2.2.1, hk.1.1.2.2.2.2.1⟩⟩⟩⟩)⟩, ⟨by (with_reducible repeat (first | apply Kd.iF | apply Kd.iG | apply Kd.iY)); exact Kd.dU (Kd.jq (p := ⟨gK, 1, none⟩) (Kd.dU iD.out (fun k_ hk => (⟨hk, by first | exact hk.1.2.2.2.2.1 | exact hk.1 | exact hk.2 | exact hk.1.1 | exact hk.1.2⟩ : _ ∧ k_ ≠ gK))) (fun _ hk => hk.2) (.slice Ao65 y512.length co65)) (fun _ hk => ⟨hk.1.1.1, ⟨hk.1.2, ⟨hk.1.1.2.2.1, ⟨hk.1.1.2.2.2.1, hk.1.1.2.2.2.2.1⟩⟩⟩⟩)⟩, ⟨by (with_reducible repeat (first | apply Kd.dN | apply Kd.dO | apply Kd.dP)); exact Kd.bQ (Kd.dD (p := ⟨gK, 1, none⟩) (Kd.bQ HO514.out (fun k_ hk => (⟨hk, by first | exact hk.2.2.1 | exact hk.1 | exact hk.2 | exact hk.1.1 | exact hk.1.2⟩ : _ ∧ k_ ≠ gK))) (fun _ hk => hk.2) (.slice Ao65 y512.length co65)) (fun _ hk => ⟨hk.1.1, ⟨hk.1.2.1, hk.1.2.2.1⟩⟩)⟩, ⟨by (with_reducible repeat (first | refine aj ?_ _ | refine ak ?_ | refine ah ?_ _)); refine bM ?_ pq.out _; (with_reducible repeat (first | refine aj ?_ _ | refine ak ?_ | refine ah ?_ _)); exact gI.out⟩, ⟨by (with_reducible repeat (first | refine aj ?_ _ | refine ak ?_ | refine ah ?_ _)); refine bM ?_ pz.out _; (with_reducible repeat (first | refine aj ?_ _ | refine ak ?_ | refine ah ?_ _)); exact gF.out⟩, ⟨by (with_reducible repeat (first | refine aj ?_ _ | refine ak ?_ | refine ah ?_ _)); refine bn (cs := #[.int .i64 0, gM]) ?_ 1 _ rfl; (with_reducible repeat (first | refine aj ?_ _ | refine ak ?_ | refine ah ?_ _)); exact jW.out⟩, ⟨bl_⟩⟩
        ·rw [if_neg c46] at H; exact absurd H (by simp)
       ·replace c45 := Bool.eq_false_iff.mpr c45; subst c45; have H1 : (some (0, ([] : List (S51)), ([] : List Int), false)) = some (r1, r2, r3, r4) := by rw [if_neg (show ¬ (false = true) by decide)] at H; exact H
        clear H; have H := H1; clear H1; simp only [Option.some.injEq, Prod.mk.injEq] at H; obtain ⟨rfl, rfl, rfl, rfl⟩ := H; have hnb67 := kV.out; have hnc67 := kW.out; have hnb68 := pq.out; have hnc68 := rG.out; obtain ⟨Q6, Q7, U0, U1, U2, Q8, Q9, U3, U4, U5⟩ := bF gI.out; go_wp2_with (first | ((with_reducible refine aN (f := 81) rfl ?_); refine bJ (some 54) rfl rfl Tryd.func81 (by kernel_rfl) rfl #[.agg #[.int .i64 ai, .int .i64 az, .int .i64 aA, .int .i64 ay, .slice bq af.length bf], .int .i64 tZ] rfl mp_ ?_; (with_reducible refine (iW.calls ai az aA ay (fun k_ => (((jF k_ ∨ P1_ k_) ∨ w.heap.size ≤ k_) ∧ (some k_ ≠ (gM : Value).ownBlock ∧ (k_ ≠ iM ∧ (k_ ≠ dM ∧ k_ ≠ gK))))) _ _ af tZ t496 t497 t498 t499 t500 _ ?aQ A43.out).mono ?_); (case aQ => exact iD.out); rintro e w70 ⟨v501, rfl, ho0, hb⟩; refine ⟨_, rfl, ?_⟩; have rJ := aa.mk (Kd.uC (Kd.dU (ok' := fun k_ => ((jF k_ ∨ P1_ k_) ∨ w.heap.size ≤ k_) ∧ some k_ ≠ (gM : Value).ownBlock ∧ k_ ≠ iM ∧ k_ ≠ dM ∧ k_ ≠ gK) ho0 (fun k_ hk_ => ⟨Or.elim hk_ (fun hs_ => hs_.1) (fun hn_ => (.inr (Nat.le_trans (aG bl_) hn_))), Or.elim hk_ (fun hs_ => hs_.2.1) (fun hn_ => (Kd.fresh' (Kd.lC (pR_ fO.out)) k_ hn_)), Or.elim hk_ (fun hs_ => hs_.2.2.1) (fun hn_ => (Kd.fP (g := iM) (o := .cells #[.int .i64 ai, .int .i64 az, .int .i64 aA, .int .i64 ay, .slice bq af.length bf] 24 (0, 0)) bk_ k_ hn_)), Or.elim hk_ (fun hs_ => hs_.2.2.2.1) (fun hn_ => (Kd.fP (g := dM) (o := .cells #[.int .i64 jT, .slice none 0 0] 51 (0, 0)) bk_ k_ hn_)), Or.elim hk_ (fun hs_ => hs_.2.2.2.2) (fun hn_ => (Kd.fP (g := gK) (o := .cells #[.int .i64 0, gM] 51 (0, 0)) bk_ k_ hn_))⟩)) (aG bl_)); replace nT := aa.mk (Kd.gz (pV_ nT.out) hb); replace iD := aa.mk (Kd.gz (pV_ iD.out) hb); replace fO := aa.mk (Kd.cB (pR_ fO.out) hb); replace gI := kb_ gI hb; replace gF := kb_ gF hb; replace jW := kb_ jW hb; replace HB := aa.mk (au bl_ hb); (try clear hb); (try clear hb2); (try clear hk); (try clear hi); (try clear ho0); obtain ⟨Ao71, co71, eo71⟩ := Kd.si rJ.out; subst eo71; obtain ⟨Ao72, co72, eo72⟩ := Kd.si nT.out; subst eo72) | ((with_reducible refine aN (f := 77) rfl ?_); refine bJ (some 56) rfl rfl Tryd.func77 (by kernel_rfl) rfl #[.agg #[.int .i64 t496, .int .i64 t497, .int .i64 t498, .int .i64 t499, .slice Ao71 t500.length co71], .slice Ao72 oQ.length co72] rfl mp_ ?_; (with_reducible refine (ih k2 (by have := HJ7.out; have := HK2.out; omega) t496 t497 t498 t499 (fun k_ => (((jF k_ ∨ P1_ k_) ∨ w.heap.size ≤ k_) ∧ (some k_ ≠ (gM : Value).ownBlock ∧ (k_ ≠ iM ∧ (k_ ≠ dM ∧ k_ ≠ gK))))) _ _ t500 (fun k_ => (((jF k_ ∨ P1_ k_) ∨ w.heap.size ≤ k_) ∧ (some k_ ≠ (gM : Value).ownBlock ∧ (k_ ≠ iM ∧ (k_ ≠ dM ∧ k_ ≠ gK))))) _ _ oQ uf mr t507 false _ ?aQ ?aT A44.out).mono ?_); (case aQ => exact rJ.out); (case aT => exact nT.out); rintro e w73 ⟨v505, v508, rfl, ho0, ho1, hb⟩; refine ⟨_, rfl, ?_⟩; have Bf := aa.mk (Kd.dJ (Kd.oU (Kd.oU (Kd.lG (Kd.R_newM (M := fun k_ => (w.heap.size ≤ k_)) (Kd.bQ (ok' := fun k_ => True) ho0 (fun _ hk_ => trivial)) (aG bl_) (fun k_ h_ => h_)) (Kd.lC (pR_ fO.out))) (g := dM) (o := .cells #[.int .i64 jT, .slice none 0 0] 51 (0, 0)) bk_) (g := gK) (o := .cells #[.int .i64 0, gM] 51 (0, 0)) bk_) (aG bl_)); have Db := aa.mk (Kd.uC (Kd.dU (ok' := fun k_ => ((jF k_ ∨ P1_ k_) ∨ w.heap.size ≤ k_) ∧ some k_ ≠ (v505 : Value).ownBlock ∧ some k_ ≠ (gM : Value).ownBlock ∧ k_ ≠ iM ∧ k_ ≠ dM ∧ k_ ≠ gK) ho1 (fun k_ hk_ => ⟨Or.elim hk_.1 (fun hs_ => Or.elim hs_ (fun hs_ => hs_.1) (fun hs_ => hs_.1)) (fun hn_ => (.inr (Nat.le_trans (aG bl_) hn_))), hk_.2, Or.elim hk_.1 (fun hs_ => Or.elim hs_ (fun hs_ => hs_.2.1) (fun hs_ => hs_.2.1)) (fun hn_ => (Kd.fresh' (Kd.lC (pR_ fO.out)) k_ hn_)), Or.elim hk_.1 (fun hs_ => Or.elim hs_ (fun hs_ => hs_.2.2.1) (fun hs_ => hs_.2.2.1)) (fun hn_ => (Kd.fP (g := iM) (o := .cells #[.int .i64 ai, .int .i64 az, .int .i64 aA, .int .i64 ay, .slice bq af.length bf] 24 (0, 0)) bk_ k_ hn_)), Or.elim hk_.1 (fun hs_ => Or.elim hs_ (fun hs_ => hs_.2.2.2.1) (fun hs_ => hs_.2.2.2.1)) (fun hn_ => (Kd.fP (g := dM) (o := .cells #[.int .i64 jT, .slice none 0 0] 51 (0, 0)) bk_ k_ hn_)), Or.elim hk_.1 (fun hs_ => Or.elim hs_ (fun hs_ => hs_.2.2.2.2) (fun hs_ => hs_.2.2.2.2)) (fun hn_ => (Kd.fP (g := gK) (o := .cells #[.int .i64 0, gM] 51 (0, 0)) bk_ k_ hn_))⟩)) (aG bl_)); replace nT := aa.mk (Kd.vM (pV_ nT.out) (Kd.iI ho0) hb); replace iD := aa.mk (Kd.vM (pV_ iD.out) (Kd.iI ho0) hb); replace fO := aa.mk (Kd.jU (pR_ fO.out) (Kd.iI ho0) hb); replace rJ := aa.mk (Kd.vM (pV_ rJ.out) (Kd.iI ho0) hb); replace gI := kb_ gI hb; replace gF := kb_ gF hb; replace jW := kb_ jW hb; replace HB := aa.mk (au bl_ hb); (try clear hb); (try clear hb2); (try clear hk); (try clear hi); (try clear ho0); (try clear ho1)) | ((with_reducible refine aY (N := 10) rfl ?_); refine aZ ?hg (N := 10) ?hd (cs := #[.int .i64 0, .slice none 0 0]) (t := 51) ?hr ?_; (case hd => rfl); (case hg => rfl); (case hr => first | (go_simp; done) | (go_simp; rfl)); intro gu hg w74 aK hb; have JJ := aa.mk (aK); have GW511 : aa (w.heap.size ≤ gu) := gw_ hg (aG bl_); have GE511 := GW511; have Dm := nl_ gI hg; have KD := ng_ gI hg; have wG := nl_ gF hg; have KE := ng_ gF hg; have Dn := nl_ jW hg; have KF := ng_ jW hg; replace nT := aa.mk (Kd.gz (Kd.gV (pV_ nT.out) gu (Nat.le_of_eq hg.symm)) hb); replace iD := aa.mk (Kd.gz (Kd.gV (pV_ iD.out) gu (Nat.le_of_eq hg.symm)) hb); replace fO := aa.mk (Kd.cB (Kd.jV (pR_ fO.out) gu (Nat.le_of_eq hg.symm)) hb); replace rJ := aa.mk (Kd.gz (Kd.gV (pV_ rJ.out) gu (Nat.le_of_eq hg.symm)) hb); replace Bf := aa.mk (Kd.cB (Kd.jV (pR_ Bf.out) gu (Nat.le_of_eq hg.symm)) hb); replace Db := aa.mk (Kd.gz (Kd.gV (pV_ Db.out) gu (Nat.le_of_eq hg.symm)) hb); replace gI := kb_ gI hb; replace gF := kb_ gF hb; replace jW := kb_ jW hb; replace HB := aa.mk (au bl_ hb); clear hb aK hg; have hnb75 := KD.out; have hnc75 := Dm.out; have hnb76 := KE.out; have hnc76 := wG.out; have hnb77 := KF.out; have hnc77 := Dn.out; obtain ⟨Vs, Vu, Vw, Vx⟩ := eQ JJ.out; obtain ⟨Ao79, co79, eo79⟩ := Kd.dG Bf.out; subst eo79; have hnb80 := pz.out; have hnc80 := rH.out; obtain ⟨hcz81_0, hcz81_1, hfz81_0, hfz81_1⟩ := eQ gF.out))
        refine bodyPost_ret (pg rfl _ _ dM 51 #[.int .i64 0, .slice none 0 0] (0, 0) _ rfl (by (with_reducible repeat (first | refine aj ?_ _ | refine ak ?_ | refine ah ?_ _)); refine bn (cs := #[.int .i64 0, .slice none 0 0]) ?_ 1 _ rfl; (with_reducible repeat (first | refine aj ?_ _ | refine ak ?_ | refine ah ?_ _)); refine bn (cs := #[.int .i64 jT, .slice none 0 0]) ?_ 0 _ rfl; (with_reducible repeat (first | refine aj ?_ _ | refine ak ?_ | refine ah ?_ _)); refine bM ?_ wG.out _; (with_reducible repeat (first | refine aj ?_ _ | refine ak ?_ | refine ah ?_ _)); refine bM ?_ wG.out _; (with_reducible repeat (first | refine aj ?_ _ | refine ak ?_ | refine ah ?_ _)); exact gF.out) Tryd.underlying51 rfl (by kernel_rfl)) rfl ?_
        exact ⟨_, _, re_, by first | exact Kd.gZ _ _ _ _ _ | exact Kd.jD _ _ _ _ _ | exact Kd.iR _ _ _ _ _ | exact Kd.jB _ _ _ _ _ | exact Kd.jC _ _ _ _ _, (by first | exact Kd.iR _ _ _ _ _ | exact Kd.dU (Kd.R_V (by first | exact Kd.gZ _ _ _ _ _ | exact Kd.jD _ _ _ _ _ | exact Kd.iR _ _ _ _ _ | exact Kd.jB _ _ _ _ _ | exact Kd.jC _ _ _ _ _)) (fun k_ hk => by first | exact ⟨(.inr (hk.1)), hk.2⟩ | exact (.inr (hk)))), bl_⟩
      ·rw [if_neg c42] at H; have c42b0 : decide (tZ < rT) = false := decide_eq_false c42; clear c42; by_cases c82 : ai = 6
       ·rw [if_pos c82] at H; have c82b0 : (ai == 6) = true := beq_iff_eq.mpr c82; have c82b1 : (ai != 6) = false := bne_eq_false_iff_eq.mpr c82; clear c82; by_cases c83 : (oQ.length : Int) < (wrap64 (ay - rT))
        ·rw [if_pos c83] at H; have c83b0 : decide ((oQ.length : Int) < (wrap64 (ay - rT))) = true := decide_eq_true c83; clear c83; simp only [Option.some.injEq, Prod.mk.injEq] at H; obtain ⟨rfl, rfl, rfl, rfl⟩ := H; have hnb84 := kV.out; have hnc84 := kW.out; have hnb85 := pq.out; have hnc85 := rG.out; obtain ⟨hcz86_0, hcz86_1, hcz86_2, hcz86_3, hcz86_4, hfz86_0, hfz86_1, hfz86_2, hfz86_3, hfz86_4⟩ := bF gI.out; obtain ⟨Ao87, co87, eo87⟩ := Kd.si nT.out; subst eo87; have hnb88 := pz.out; have hnc88 := rH.out; obtain ⟨hcz89_0, hcz89_1, hfz89_0, hfz89_1⟩ := eQ gF.out; go_wp2; refine bodyPost_ret (pg rfl _ _ dM 51 #[.int .i64 0, .slice none 0 0] (0, 0) _ rfl (by (with_reducible repeat (first | refine aj ?_ _ | refine ak ?_ | refine ah ?_ _)); refine bn (cs := #[.int .i64 0, .slice none 0 0]) ?_ 1 _ rfl; (with_reducible repeat (first | refine aj ?_ _ | refine ak ?_ | refine ah ?_ _)); refine bn (cs := #[.int .i64 jT, .slice none 0 0]) ?_ 0 _ rfl; (with_reducible repeat (first | refine aj ?_ _ | refine ak ?_ | refine ah ?_ _)); exact gF.out) Tryd.underlying51 rfl (by kernel_rfl)) rfl ?_
         exact ⟨_, _, re_, by first | exact Kd.gZ _ _ _ _ _ | exact Kd.jD _ _ _ _ _ | exact Kd.iR _ _ _ _ _ | exact Kd.jB _ _ _ _ _ | exact Kd.jC _ _ _ _ _, (by first | exact Kd.iR _ _ _ _ _ | exact Kd.dU (Kd.R_V (by first | exact Kd.gZ _ _ _ _ _ | exact Kd.jD _ _ _ _ _ | exact Kd.iR _ _ _ _ _ | exact Kd.jB _ _ _ _ _ | exact Kd.jC _ _ _ _ _)) (fun k_ hk => by first | exact ⟨(.inr (hk.1)), hk.2⟩ | exact (.inr (hk)))), bl_⟩
        ·rw [if_neg c83] at H; have c83b0 : decide ((oQ.length : Int) < (wrap64 (ay - rT))) = false := decide_eq_false c83; clear c83; obtain ⟨vD, P9⟩ : ∃ j_ : Int, (wrap64 (ay - rT)) = j_ := ⟨_, rfl⟩; replace H : (if 0 ≤ (vD) then (if (vD) ≤ (oQ.length : Int) then (some (0, iE, (oQ.drop ((vD) : Int).toNat), true)) else (none)) else (none)) = some (r1, r2, r3, r4) := by first | (rw [P9] at H; exact H) | (simp only [P9] at H ⊢; exact H)
         (try rw [P9] at c83b0)
         have hji90w : (IntKind.i64.wrap (ay - rT)) = vD := (eT _).trans P9; by_cases c91 : 0 ≤ (vD)
         ·rw [if_pos c91] at H; have c91b0 := eq_true c91; have c91b1 : decide (0 ≤ (vD)) = true := decide_eq_true c91; clear c91; by_cases c92 : (vD) ≤ (oQ.length : Int)
          ·rw [if_pos c92] at H; have c92b0 := eq_true c92; have c92b1 : decide ((vD) ≤ (oQ.length : Int)) = true := decide_eq_true c92; clear c92; obtain ⟨y515, Qa⟩ : ∃ y_ : List Int, y_ = (oQ.drop ((vD) : Int).toNat) := ⟨_, rfl⟩; replace H : (some (0, iE, y515, true)) = some (r1, r2, r3, r4) := by first | (rw [Qa]; with_reducible exact H) | (have H2_ := (Option.bind_some _ _).symm.trans H; rw [Qa]; with_reducible exact H2_) | (have H2_ := (Option.bind_some _ _).symm.trans H; with_reducible exact H2_) | with_reducible exact H | (rw [Qa]; exact H) | exact H
           have Ny515 := aa.mk Qa; clear Qa; simp only [Option.some.injEq, Prod.mk.injEq] at H; obtain ⟨rfl, rfl, rfl, rfl⟩ := H; have hnb93 := kV.out; have hnc93 := kW.out; have hnb94 := pq.out; have hnc94 := rG.out; obtain ⟨hcz95_0, hcz95_1, hcz95_2, hcz95_3, hcz95_4, hfz95_0, hfz95_1, hfz95_2, hfz95_3, hfz95_4⟩ := bF gI.out; obtain ⟨Ao96, co96, eo96⟩ := Kd.si nT.out; subst eo96; have q97 : ((vD) : Int) ≤ ((oQ.length : Int) : Int) := dt_; obtain ⟨i097, hi097, _, hsz97, _⟩ := info_parts info3; have Ng : oQ.length ≤ co96 := (Kd.mo nT.out).2.1; have hC97 : Kd.F (Kd.int .i64) _ _ Ao96 oQ.length oQ := (Kd.V_at (base := w.heap.size) nT.out).2.2; have q097 : (0 : Int) ≤ ((vD) : Int) := dt_; have hcut97 := NM (P := Tryd.prog) 29 3 .i64 Tryd.underlying29 hi097 1 hsz97 Ao96 oQ.length co96 (vD) q097 q97; have hr97 := Kd.F_cut (m := ((vD) : Int).toNat) (c := co96) hC97 (by omega) Ng; obtain ⟨A97, hA97⟩ : ∃ A9_, A9_ = (if co96 = ((vD) : Int).toNat then Ao96 else (Ao96 : Option Addr).map (·.add (((vD) : Int).toNat * 1))) := ⟨_, rfl⟩; obtain ⟨c97, hc97⟩ : ∃ c9_, c9_ = co96 - ((vD) : Int).toNat := ⟨_, rfl⟩; have hy97 : y515.length = oQ.length - ((vD) : Int).toNat := (by rw [Ny515.out, List.length_drop] <;> omega); rw [show (oQ).drop ((vD) : Int).toNat = y515 from Ny515.out.symm] at hr97; replace hr97 : Kd.F (Kd.int .i64) _ _ A97 y515.length y515 := (by rw [hA97]; exact hr97); rw [← hy97, ← hA97, ← hc97] at hcut97; have HO519 := aa.mk (show Kd.V (Kd.int .i64) 3 _ w.heap.size _ (.slice A97 y515.length c97) y515 from Kd.yJ (by rw [hy97, hc97]; exact Nat.sub_le_sub_right Ng _) hr97); have HC519 := aa.mk (show y515.length ≤ c97 from by rw [hy97, hc97]; exact Nat.sub_le_sub_right Ng _); clear hr97 hC97 Ng hi097 hsz97 hc97; have KY97 := aa.mk hy97; have KA97 := aa.mk hA97; clear hy97 hA97; replace q97 := eq_true q97; have hnb98 := rH.out; have hnc98 := pz.out; obtain ⟨hcz99_0, hcz99_1, hfz99_0, hfz99_1⟩ := eQ jW.out; obtain ⟨hcz100_0, hcz100_1, hfz100_0, hfz100_1⟩ := eQ gF.out; obtain ⟨Ao101, co101, eo101⟩ := Kd.dG fO.out; subst eo101; go_wp2; refine bodyPost_ret (pg rfl _ _ dM 51 #[.int .i64 0, .slice Ao101 iE.length co101] (0, 0) _ rfl (by (with_reducible repeat (first | refine aj ?_ _ | refine ak ?_ | refine ah ?_ _)); refine bn (cs := #[.int .i64 0, .slice none 0 0]) ?_ 1 _ rfl; (with_reducible repeat (first | refine aj ?_ _ | refine ak ?_ | refine ah ?_ _)); refine bn (cs := #[.int .i64 jT, .slice none 0 0]) ?_ 0 _ rfl; (with_reducible repeat (first | refine aj ?_ _ | refine ak ?_ | refine ah ?_ _)); exact gF.out) Tryd.underlying51 rfl (by kernel_rfl)) rfl ?_
           exact ⟨_, _, by first | rfl | (simp [fT, fU] <;> rfl) | (simp only [← P9]; first | rfl | (simp [fT, fU] <;> rfl)) | (simp [*, fT, fU] <;> rfl), by (with_reducible repeat (first | apply Kd.dN | apply Kd.dO | apply Kd.dP)); exact Kd.bQ (Kd.dD (p := ⟨dM, 1, none⟩) (Kd.dD (p := ⟨dM, 0, none⟩) (Kd.bQ fO.out (fun k_ hk => (⟨hk, by first | exact hk.2.1 | exact hk.1 | exact hk.2 | exact hk.1.1 | exact hk.1.2⟩ : _ ∧ k_ ≠ dM))) (fun _ hk => hk.2) (.int .i64 0)) (fun _ hk => hk.2) (.slice Ao101 iE.length co101)) (fun _ hk => hk.1.1), by (with_reducible repeat (first | apply Kd.iF | apply Kd.iG | apply Kd.iY)); exact Kd.dU (Kd.jq (p := ⟨dM, 1, none⟩) (Kd.jq (p := ⟨dM, 0, none⟩) (Kd.dU HO519.out (fun k_ hk => (⟨hk, by first | exact hk.2.2.2.1 | exact hk.1 | exact hk.2 | exact hk.1.1 | exact hk.1.2⟩ : _ ∧ k_ ≠ dM))) (fun _ hk => hk.2) (.int .i64 0)) (fun _ hk => hk.2) (.slice Ao101 iE.length co101)) (fun _ hk => ⟨hk.1.1, hk.1.2.1⟩), bl_⟩
          ·rw [if_neg c92] at H; exact absurd H (by simp)
         ·rw [if_neg c91] at H; exact absurd H (by simp)
       ·rw [if_neg c82] at H; have c82b0 : (ai == 6) = false := beq_eq_false_iff_ne.mpr c82; have c82b1 : (ai != 6) = true := bne_iff_ne.mpr c82; simp only [Option.some.injEq, Prod.mk.injEq] at H; obtain ⟨rfl, rfl, rfl, rfl⟩ := H; have hnb102 := kV.out; have hnc102 := kW.out; have hnb103 := pq.out; have hnc103 := rG.out; obtain ⟨hcz104_0, hcz104_1, hcz104_2, hcz104_3, hcz104_4, hfz104_0, hfz104_1, hfz104_2, hfz104_3, hfz104_4⟩ := bF gI.out; have hnb105 := rH.out; have hnc105 := pz.out; obtain ⟨hcz106_0, hcz106_1, hfz106_0, hfz106_1⟩ := eQ jW.out; obtain ⟨hcz107_0, hcz107_1, hfz107_0, hfz107_1⟩ := eQ gF.out; obtain ⟨Ao108, co108, eo108⟩ := Kd.dG fO.out; subst eo108; go_wp2; refine bodyPost_ret (pg rfl _ _ dM 51 #[.int .i64 0, .slice Ao108 iE.length co108] (0, 0) _ rfl (by (with_reducible repeat (first | refine aj ?_ _ | refine ak ?_ | refine ah ?_ _)); refine bn (cs := #[.int .i64 0, .slice none 0 0]) ?_ 1 _ rfl; (with_reducible repeat (first | refine aj ?_ _ | refine ak ?_ | refine ah ?_ _)); refine bn (cs := #[.int .i64 jT, .slice none 0 0]) ?_ 0 _ rfl; (with_reducible repeat (first | refine aj ?_ _ | refine ak ?_ | refine ah ?_ _)); exact gF.out) Tryd.underlying51 rfl (by kernel_rfl)) rfl ?_
        exact ⟨_, _, re_, by (with_reducible repeat (first | apply Kd.dN | apply Kd.dO | apply Kd.dP)); exact Kd.bQ (Kd.dD (p := ⟨dM, 1, none⟩) (Kd.dD (p := ⟨dM, 0, none⟩) (Kd.bQ fO.out (fun k_ hk => (⟨hk, by first | exact hk.2.1 | exact hk.1 | exact hk.2 | exact hk.1.1 | exact hk.1.2⟩ : _ ∧ k_ ≠ dM))) (fun _ hk => hk.2) (.int .i64 0)) (fun _ hk => hk.2) (.slice Ao108 iE.length co108)) (fun _ hk => hk.1.1), by (with_reducible repeat (first | apply Kd.iF | apply Kd.iG | apply Kd.iY)); exact Kd.dU (Kd.jq (p := ⟨dM, 1, none⟩) (Kd.jq (p := ⟨dM, 0, none⟩) (Kd.dU nT.out (fun k_ hk => (⟨hk, by first | exact hk.2.2.2.1 | exact hk.1 | exact hk.2 | exact hk.1.1 | exact hk.1.2⟩ : _ ∧ k_ ≠ dM))) (fun _ hk => hk.2) (.int .i64 0)) (fun _ hk => hk.2) (.slice Ao108 iE.length co108)) (fun _ hk => ⟨hk.1.1, hk.1.2.1⟩), bl_⟩

end Go.Proofs.YtggelekooacmnaaDoor.Q
