/- Lemmas for: l9 -/
import Derived.Test.YtggelekooacmnaaDoorVt2
import Derived.Test.YtggelekooacmnaaDoorVt3
namespace Go.Proofs.YtggelekooacmnaaDoor.Q
open Go.RowKit Go.Proofs.YtggelekooacmnaaDoorW.aJ Go.Proofs.YtggelekooacmnaaDoorW.bu Go.Proofs.YtggelekooacmnaaDoorW.bB
attribute [local go_sem] cZ dh dO dP bX bY dm dn   -- for this text's walks alone
set_option linter.unusedVariables false
set_option linter.unusedSimpArgs false

/-! ### aA: function 15 -/
mutual
def aA.j0 : Nat → Int → Int → List Int → Int → Int → Option (Int × Int × Int × Int × (List (S24)) × Int × Int)
 | 0, _, _, _, _, _ => none
 | k + 1, x1, x5, x1000, oo, oq => if x5 = 0 then (some (1, 0, 0, 0, ([] : List (S24)), oo, oq)) else (if x5 = 1 then (aA.j1 k x1 x5 (x5 == 1) x1000 oo oq) else (aA.j1 k x1 x5 (x5 == 2) x1000 oo oq))
def aA.j1 : Nat → Int → Int → Bool → List Int → Int → Int → Option (Int × Int × Int × Int × (List (S24)) × Int × Int)
 | 0, _, _, _, _, _, _ => none
 | k + 1, x1, x15, x19, x1000, oo, oq => if x19 = true then ((dC.f x1000 oo oq (-2) 3).bind fun bt229 => ((bG.f x1000 bt229.2.1 bt229.2.2 4).bind fun bt232 => (some (2, bt229.1, wrap64 (bt229.1 + bt232.1), 0, ([] : List (S24)), bt232.2.1, bt232.2.2)))) else (if x15 = 3 then (aA.j2 k x1 (x15 == 3) x1000 oo oq) else (aA.j2 k x1 (x15 == 4) x1000 oo oq))
def aA.j2 : Nat → Int → Bool → List Int → Int → Int → Option (Int × Int × Int × Int × (List (S24)) × Int × Int)
 | 0, _, _, _, _, _ => none
 | k + 1, x1, x30, x1000, oo, oq => if x30 = true then ((dC.f x1000 oo oq 2 3).bind fun bt236 => (aA.l0 k x1 bt236.1 x1000 bt236.2.1 bt236.2.2 5 0 0 0 ([] : List (S24)))) else ((dC.f x1000 oo oq 1 2).bind fun bt251 => ((aA.f k x1000 bt251.2.1 bt251.2.2 1).bind fun Ie => (some (6, 0, 0, bt251.1, (([(⟨Ie.1, Ie.2.1, Ie.2.2.1, Ie.2.2.2.1, Ie.2.2.2.2.1⟩ : S24)] : List (S24))), Ie.2.2.2.2.2.1, Ie.2.2.2.2.2.2))))
def aA.l0 : Nat → Int → Int → List Int → Int → Int → Int → Int → Int → Int → List (S24) → Option (Int × Int × Int × Int × (List (S24)) × Int × Int)
 | 0, _, _, _, _, _, _, _, _, _, _ => none
 | k + 1, x1, x8, x1000, oo, oq, XR, XT, XU, XV, QE => if x8 > 0 then ((aA.f k x1000 oo oq (wrap64 (x1 - 1))).bind fun Ig => (if QE.length < 2513169434916 then (aA.l0 k x1 (wrap64 (x8 - 1)) x1000 Ig.2.2.2.2.2.1 Ig.2.2.2.2.2.2 XR XT XU XV (QE ++ [(⟨Ig.1, Ig.2.1, Ig.2.2.1, Ig.2.2.2.1, Ig.2.2.2.2.1⟩ : S24)])) else (none))) else (some (XR, XT, XU, XV, QE, oo, oq))
def aA.f : Nat → List Int → Int → Int → Int → Option (Int × Int × Int × Int × (List (S24)) × Int × Int)
 | 0, _, _, _, _ => none
 | k + 1, bV, fC, gp, a1 => (bG.f bV fC gp 6).bind fun Oq => (if a1 ≤ 1 then ((bG.f bV Oq.2.1 Oq.2.2 3).bind fun bt226 => (aA.j0 k a1 bt226.1 bV bt226.2.1 bt226.2.2)) else (aA.j0 k a1 Oq.1 bV Oq.2.1 Oq.2.2))
end
def aA.T17 : Bool × List (List Nat × List Nat) := (true, [([], []), ([0], [0]), ([], []), ([], []), ([3], [3]), ([2, 4], [2, 4]), ([5], [5]), ([1, 6, 5], [1, 6]), ([0, 1, 2, 3, 4, 5, 6, 7], []), ([8, 7, 7, 0, 1, 2, 3, 4, 5, 6, 7], [7, 8])])
def aA.B17 : List Nat := [0, 1, 0, 0, 8, 28, 60, 127, 255, 511]
theorem aA.KX : jX .any (opsOf Tryd.f15 17) = aA.T17 := by kernel_rfl
theorem aA.Gd : jK aA.T17.2 aA.B17 = true := by kernel_rfl
set_option maxHeartbeats 8000000 in
set_option maxRecDepth 100000 in
theorem aA.calls (k : Nat) : ∀ (g : Nat) (bV : List Int) (fC gp a1 r1 r2 r3 r4 : Int) (r5 : List (S24)) (r6 r7 : Int) (w0 w : World) (hI : bC w0 w g bV fC gp) (hB : Below w0.heap.size w0 w) (h : aA.f k bV fC gp a1 = some (r1, r2, r3, r4, r5, r6, r7)),
  Calls Tryd.prog 15 #[.pointer (some ⟨g, 0, none⟩), .int .i64 a1] w fun e w' => ∃ v4_ : Value, e = .returned (.agg #[.int .i64 r1, .int .i64 r2, .int .i64 r3, .int .i64 r4, v4_]) ∧ Kd.N k24 24 w' w.heap.size (fun k_ => (w.heap.size ≤ k_)) v4_ r5 ∧ bC w0 w' g bV r6 r7 ∧ Below w0.heap.size w0 w' ∧ aH w w' g none := by
 induction k using Nat.strongRecOn with
 | _ k ih =>
 intro g bV fC gp a1 r1 r2 r3 r4 r5 r6 r7 w0 w hI hB h; cases k with
 | zero => exact absurd h (by simp [aA.f])
 | succ k =>
 simp only [aA.f] at h; have HI0 := aa.mk hI; have HK := aa.mk (aH.refl w g none); have HL := aa.mk hB.size; clear hI; have HW0 := aa.mk hB.size; have HB := aa.mk hB; clear hB; have H := h; unfold aA.f at H; clear h; replace H := Option.bind_eq_some_iff.mp H; obtain ⟨⟨t223, t224, t225⟩, A30, H⟩ := H; (try dsimp only at H); have A3 := aa.mk A30; clear A30; have HC4 := aa.mk H; clear H; go_enter Tryd.func15, Tryd.ntmps15; go_upto_if 12 with (first | ((with_reducible refine aM (N := 4) rfl ?_); refine oU ?hg (N := 4) ?hd (cs := (t5_ 0 0 0 0 none 0 0)) (t := 24) ?hr ?_; (case hd => rfl); (case hg => rfl); (case hr => (go_simp; done)); intro iA hg w5 nN hb; have mK := aa.mk (nN); have GW222 := aa.mk ((by rw [hg]; exact (dM (w := w) (g := g) (row := none) kp_) : w.heap.size ≤ iA)); have GE222 := aa.mk ((Nat.le_trans HW0.out (by rw [hg]; exact (dM (w := w) (g := g) (row := none) kp_) : w.heap.size ≤ iA) : w0.heap.size ≤ iA)); have NB0_222 := aa.mk ((by rw [hg]; exact Nat.ne_of_lt (bC.lt (show bC w0 _ g bV fC gp from si_)) : g ≠ iA)); have yf := aa.mk ((by rw [hg]; exact Nat.ne_of_gt (bC.lt (show bC w0 _ g bV fC gp from si_)) : iA ≠ g)); replace HI0 := aa.mk (bC.below si_ hb); replace HK := aa.mk (aH.trans (kp_ (w := w)) (aH.of_below hb g none) (.inl rfl)); replace HB := aa.mk (ax bl_ hb); clear hb nN hg) | ((with_reducible refine ay (f := 20) rfl ?_); refine gl_ (some 10) Tryd.func20 #[.pointer (some ⟨g, 0, none⟩), .int .i64 6] ?_; (with_reducible refine (bG.calls g bV fC gp 6 t223 t224 t225 w0 _ ?au ?av A3.out).mono ?_); (case au => exact si_); (case av => exact bl_); rintro e w6 ⟨rfl, hi, hb, hk⟩; refine ⟨_, rfl, ?_⟩; replace mK := aa.mk (aH.blk hk (g' := iA) (o := .cells (t5_ 0 0 0 0 none 0 0) 24 (0, 0)) bk_ yf.out (by simp)); replace HK := aa.mk (aH.trans (kp_ (w := w)) hk (.inl rfl)); replace HB := aa.mk (hb); replace HI0 := aa.mk (hi)))
 go_cut [5] (fun v5 wc => ∃ (kq : Nat) (Du : Int) (qR : Int) (qU : Int), v5 = .int .i64 Du ∧ aa (aA.j0 kq a1 Du bV qR qU = some (r1, r2, r3, r4, r5, r6, r7)) ∧ aa (kq ≤ k) ∧ aa (wc.heap[iA]? = some (.cells #[.int .i64 0, .int .i64 0, .int .i64 0, .int .i64 0, (.slice none 0 0)] 24 (0, 0))) ∧ aa (bC w0 wc g bV qR qU) ∧ aa (aH w wc g none) ∧ aa (Below w0.heap.size w0 wc))
 case first =>
  have H := HC4.out; clear HC4; by_cases c7 : a1 ≤ 1
  ·rw [if_pos c7] at H; have tO := decide_eq_true c7; clear c7; (rw [tO]); replace H := Option.bind_eq_some_iff.mp H; obtain ⟨⟨t226, t227, t228⟩, A80, H⟩ := H; (try dsimp only at H); have A8 := aa.mk A80; clear A80; have H' := aa.mk H; clear H; go_wp2_with (((with_reducible refine ay (f := 20) rfl ?_); refine gl_ (some 14) Tryd.func20 #[.pointer (some ⟨g, 0, none⟩), .int .i64 3] ?_; (with_reducible refine (bG.calls g bV t224 t225 3 t226 t227 t228 w0 _ ?au ?av A8.out).mono ?_); (case au => exact si_); (case av => exact bl_); rintro e w9 ⟨rfl, hi, hb, hk⟩; refine ⟨_, rfl, ?_⟩; replace mK := aa.mk (aH.blk hk (g' := iA) (o := .cells (t5_ 0 0 0 0 none 0 0) 24 (0, 0)) bk_ yf.out (by simp)); replace HK := aa.mk (aH.trans (kp_ (w := w)) hk (.inl rfl)); replace HB := aa.mk (hb); replace HI0 := aa.mk (hi)))
   go_meet
   case rel => exact ⟨_, (t226), (t227), (t228), rs_, H', ⟨by omega⟩, ⟨bk_⟩, ⟨si_⟩, ⟨by repeat ((with_reducible exact HK.out))⟩, ⟨bl_⟩⟩
  ·rw [if_neg c7] at H; have tO := decide_eq_false c7; clear c7; (rw [tO]); have H' := aa.mk H; clear H; go_wp2; go_meet
   case rel => exact ⟨_, (t223), (t224), (t225), rs_, H', ⟨by omega⟩, ⟨bk_⟩, ⟨si_⟩, ⟨by repeat ((with_reducible exact HK.out))⟩, ⟨bl_⟩⟩
 case rest =>
  clear HC4; obtain ⟨kq, Du, qR, qU, rfl, HA, HJ3, mK, HI0, HK, HB⟩ := hcut; cases kq with
  | zero => exact absurd HA.out (by simp [aA.j0])
  | succ kj3 =>
   have H := HA.out; clear HA; simp only [aA.j0] at H; by_cases c10 : Du = 0
   ·rw [if_pos c10] at H; obtain ⟨pR, c10b1⟩ := bq_ c10; clear c10; simp only [Option.some.injEq, Prod.mk.injEq] at H; obtain ⟨rfl, rfl, rfl, rfl, rfl, rfl, rfl⟩ := H; obtain ⟨pq, rZ, Ci, Cj, zm, PZ, P5, hfz12_2, hfz12_3, hfz12_4⟩ := bE mK.out; go_wp2; refine bodyPost_ret (results_cell_row rfl _ _ iA 24 (t5_ 1 0 0 0 none 0 0) (0, 0) _ rfl b5_ Tryd.underlying24 rfl (by kernel_rfl)) rfl ?_
    exact ⟨_, re_, by exact Kd.N_nil _ _ _ _ _, si_, bl_, by repeat (with_reducible first | exact HK.out | refine iD ?_ GW222.out _)⟩
   ·rw [if_neg c10] at H; obtain ⟨pR, c10b1⟩ := bn_ c10; have HC13 := aa.mk H; clear H; go_upto_if 19 with (fail)
    go_cut [19] (fun v19 wc => ∃ (kq : Nat) (Ot : Bool), v19 = .bool Ot ∧ aa (aA.j1 kq a1 Du Ot bV qR qU = some (r1, r2, r3, r4, r5, r6, r7)) ∧ aa (kq ≤ kj3) ∧ aa (wc.heap[iA]? = some (.cells #[.int .i64 0, .int .i64 0, .int .i64 0, .int .i64 0, (.slice none 0 0)] 24 (0, 0))) ∧ aa (bC w0 wc g bV qR qU) ∧ aa (aH w wc g none) ∧ aa (Below w0.heap.size w0 wc))
    case first =>
     have H := HC13.out; clear HC13; by_cases c14 : Du = 1
     ·rw [if_pos c14] at H; obtain ⟨vQ, JD⟩ := bq_ c14; clear c14; (rw [vQ]); have H' := aa.mk H; clear H; go_wp2; go_meet
      case rel => exact ⟨_, ((Du == 1)), rs_, H', ⟨by have := HJ3.out; omega⟩, ⟨bk_⟩, ⟨si_⟩, ⟨by repeat ((with_reducible exact HK.out))⟩, ⟨bl_⟩⟩
     ·rw [if_neg c14] at H; obtain ⟨vQ, JD⟩ := bn_ c14; (rw [vQ]); have H' := aa.mk H; clear H; go_wp2; go_meet
      case rel => exact ⟨_, ((Du == 2)), rs_, H', ⟨by have := HJ3.out; omega⟩, ⟨bk_⟩, ⟨si_⟩, ⟨by repeat ((with_reducible exact HK.out))⟩, ⟨bl_⟩⟩
    case rest =>
     clear HC13; obtain ⟨kq, Ot, rfl, HA, HJ12, mK, HI0, HK, HB⟩ := hcut; cases kq with
     | zero => exact absurd HA.out (by simp [aA.j1])
     | succ kj12 =>
      have H := HA.out; clear HA; simp only [aA.j1] at H; by_cases c15 : Ot = true
      ·subst c15; rw [if_pos rfl] at H; replace H := Option.bind_eq_some_iff.mp H; obtain ⟨⟨t229, t230, t231⟩, A160, H⟩ := H; (try dsimp only at H); have A16 := aa.mk A160; clear A160; replace H := Option.bind_eq_some_iff.mp H; obtain ⟨⟨t232, t233, t234⟩, A170, H⟩ := H; (try dsimp only at H); have A17 := aa.mk A170; clear A170; simp only [Option.some.injEq, Prod.mk.injEq] at H; obtain ⟨rfl, rfl, rfl, rfl, rfl, rfl, rfl⟩ := H; go_wp2_with (first | ((with_reducible refine ay (f := 17) rfl ?_); refine gl_ (some 23) Tryd.func17 #[.pointer (some ⟨g, 0, none⟩), .int .i64 (-2), .int .i64 3] ?_; (with_reducible refine (dC.calls g bV qR qU (-2) 3 t229 t230 t231 w0 _ ?au ?av A16.out).mono ?_); (case au => exact si_); (case av => exact bl_); rintro e w18 ⟨rfl, hi, hb, hk⟩; refine ⟨_, rfl, ?_⟩; replace mK := aa.mk (aH.blk hk (g' := iA) (o := .cells (t5_ 0 0 0 0 none 0 0) 24 (0, 0)) bk_ yf.out (by simp)); replace HK := aa.mk (aH.trans (kp_ (w := w)) hk (.inl rfl)); replace HB := aa.mk (hb); replace HI0 := aa.mk (hi)) | ((with_reducible refine ay (f := 20) rfl ?_); refine gl_ (some 27) Tryd.func20 #[.pointer (some ⟨g, 0, none⟩), .int .i64 4] ?_; (with_reducible refine (bG.calls g bV t230 t231 4 t232 t233 t234 w0 _ ?au ?av A17.out).mono ?_); (case au => exact si_); (case av => exact bl_); rintro e w19 ⟨rfl, hi, hb, hk⟩; refine ⟨_, rfl, ?_⟩; replace mK := aa.mk (aH.blk hk (g' := iA) (o := .cells (t5_ 0 0 0 0 none 0 0) 24 (0, 0)) bk_ yf.out (by simp)); replace HK := aa.mk (aH.trans (kp_ (w := w)) hk (.inl rfl)); replace HB := aa.mk (hb); replace HI0 := aa.mk (hi); obtain ⟨ES, ET, JZ, PR, PL, hfz21_0, hfz21_1, hfz21_2, hfz21_3, hfz21_4⟩ := bE mK.out))
       refine bodyPost_ret (results_cell_row rfl _ _ iA 24 (t5_ 2 t229 (wrap64 (t229 + t232)) 0 none 0 0) (0, 0) _ rfl b5_ Tryd.underlying24 rfl (by kernel_rfl)) rfl ?_
       exact ⟨_, re_, by exact Kd.N_nil _ _ _ _ _, si_, bl_, by repeat (with_reducible first | exact HK.out | refine iD ?_ GW222.out _)⟩
      ·replace c15 := Bool.eq_false_iff.mpr c15; subst c15; rw [if_neg (show ¬ (false = true) by decide)] at H; have HC22 := aa.mk H; clear H; go_upto_if 30 with (fail)
       go_cut [30] (fun v30 wc => ∃ (kq : Nat) (Ou : Bool), v30 = .bool Ou ∧ aa (aA.j2 kq a1 Ou bV qR qU = some (r1, r2, r3, r4, r5, r6, r7)) ∧ aa (kq ≤ kj12) ∧ aa (wc.heap[iA]? = some (.cells #[.int .i64 0, .int .i64 0, .int .i64 0, .int .i64 0, (.slice none 0 0)] 24 (0, 0))) ∧ aa (bC w0 wc g bV qR qU) ∧ aa (aH w wc g none) ∧ aa (Below w0.heap.size w0 wc))
       case first =>
        have H := HC22.out; clear HC22; by_cases c23 : Du = 3
        ·rw [if_pos c23] at H; obtain ⟨Bq, MV⟩ := bq_ c23; clear c23; (rw [Bq]); have H' := aa.mk H; clear H; go_wp2; go_meet
         case rel => exact ⟨_, ((Du == 3)), rs_, H', ⟨by have := HJ3.out; have := HJ12.out; omega⟩, ⟨bk_⟩, ⟨si_⟩, ⟨by repeat ((with_reducible exact HK.out))⟩, ⟨bl_⟩⟩
        ·rw [if_neg c23] at H; obtain ⟨Bq, MV⟩ := bn_ c23; (rw [Bq]); have H' := aa.mk H; clear H; go_wp2; go_meet
         case rel => exact ⟨_, ((Du == 4)), rs_, H', ⟨by have := HJ3.out; have := HJ12.out; omega⟩, ⟨bk_⟩, ⟨si_⟩, ⟨by repeat ((with_reducible exact HK.out))⟩, ⟨bl_⟩⟩
       case rest =>
        clear HC22; obtain ⟨kq, Ou, rfl, HA, HJ21, mK, HI0, HK, HB⟩ := hcut; cases kq with
        | zero => exact absurd HA.out (by simp [aA.j2])
        | succ kj21 =>
         have H := HA.out; clear HA; simp only [aA.j2] at H; by_cases c24 : Ou = true
         ·subst c24; rw [if_pos rfl] at H; replace H := Option.bind_eq_some_iff.mp H; obtain ⟨⟨t236, t237, t238⟩, A250, H⟩ := H; (try dsimp only at H); have A25 := aa.mk A250; clear A250; have H' := aa.mk H; clear H; go_wp2_with (first | ((with_reducible refine aM (N := 7) rfl ?_); refine oU ?hg (N := 7) ?hd (cs := (t5_ 0 0 0 0 none 0 0)) (t := 24) ?hr ?_; (case hd => rfl); (case hg => rfl); (case hr => (go_simp; done)); intro mX hg w26 nN hb; have lv := aa.mk (nN); have GW235 := aa.mk ((by rw [hg]; exact (dM (w := w) (g := g) (row := none) kp_) : w.heap.size ≤ mX)); have GE235 := aa.mk ((Nat.le_trans HW0.out (by rw [hg]; exact (dM (w := w) (g := g) (row := none) kp_) : w.heap.size ≤ mX) : w0.heap.size ≤ mX)); have YK := nl_ mK hg; have NB0_235 := aa.mk ((by rw [hg]; exact Nat.ne_of_lt (bC.lt (show bC w0 _ g bV qR qU from si_)) : g ≠ mX)); have XW := aa.mk ((by rw [hg]; exact Nat.ne_of_gt (bC.lt (show bC w0 _ g bV qR qU from si_)) : mX ≠ g)); replace mK := kb_ mK hb; replace HI0 := aa.mk (bC.below si_ hb); replace HK := aa.mk (aH.trans (kp_ (w := w)) (aH.of_below hb g none) (.inl rfl)); replace HB := aa.mk (ax bl_ hb); clear hb nN hg; obtain ⟨Qm, EU, hcz29_2, hcz29_3, hcz29_4, hfz29_0, hfz29_1, hfz29_2, hfz29_3, hfz29_4⟩ := bE lv.out) | ((with_reducible refine ay (f := 17) rfl ?_); refine gl_ (some 35) Tryd.func17 #[.pointer (some ⟨g, 0, none⟩), .int .i64 2, .int .i64 3] ?_; (with_reducible refine (dC.calls g bV qR qU 2 3 t236 t237 t238 w0 _ ?au ?av A25.out).mono ?_); (case au => exact si_); (case av => exact bl_); rintro e w30 ⟨rfl, hi, hb, hk⟩; refine ⟨_, rfl, ?_⟩; replace mK := aa.mk (aH.blk hk (g' := iA) (o := .cells (t5_ 0 0 0 0 none 0 0) 24 (0, 0)) b5_ yf.out (by simp)); replace lv := aa.mk (aH.blk hk (g' := mX) (o := .cells (t5_ 5 0 0 0 none 0 0) 24 (0, 0)) b5_ XW.out (by simp)); replace HK := aa.mk (aH.trans (kp_ (w := w)) hk (.inl rfl)); replace HB := aa.mk (hb); replace HI0 := aa.mk (hi)))
          go_loopg [8] kj21 (fun kq v8 w' => ∃ (x8_4 : Int) (Lj : Int) (Ll : Int) (tu : List (S24)) (pF : Value), v8 = .int .i64 x8_4 ∧ aa (aA.l0 kq a1 x8_4 bV Lj Ll 5 0 0 0 tu = some (r1, r2, r3, r4, r5, r6, r7)) ∧ aa (kq ≤ kj21) ∧ aa (Kd.N k24 24 w' w.heap.size (fun k_ => (w.heap.size ≤ k_) ∧ k_ ≠ iA ∧ k_ ≠ mX ∧ k_ ≠ g) pF tu) ∧ aa (w'.heap[iA]? = some (.cells #[.int .i64 0, .int .i64 0, .int .i64 0, .int .i64 0, (.slice none 0 0)] 24 (0, 0))) ∧ aa (w'.heap[mX]? = some (.cells #[.int .i64 5, .int .i64 0, .int .i64 0, .int .i64 0, pF] 24 (0, 0))) ∧ aa (bC w0 w' g bV Lj Ll) ∧ aa (aH w w' g none) ∧ aa (Below w0.heap.size w0 w'))
          case atStart => exact ⟨(t236), (t237), (t238), (([] : List (S24))), (.slice none 0 0), rs_, H', ⟨Nat.le_refl _⟩, ⟨by exact Kd.N_nil _ _ _ _ _⟩, ⟨bk_⟩, ⟨bk_⟩, ⟨si_⟩, ⟨by repeat ((with_reducible exact HK.out))⟩, ⟨bl_⟩⟩
          case round =>
           clear H'; obtain ⟨x8_4, Lj, Ll, tu, pF, rfl, HA, HK4, mM, mK, lv, HI0, HK, HB⟩ := hrel; cases gk with
           | zero => exact absurd HA.out (by simp [aA.l0])
           | succ k4 =>
            have H := HA.out; clear HA; simp only [aA.l0] at H; by_cases c31 : x8_4 > 0
            ·rw [if_pos c31] at H; have c31b0 : decide (0 < x8_4) = true := decide_eq_true c31; clear c31; replace H := Option.bind_eq_some_iff.mp H; obtain ⟨⟨t239, t240, t241, t242, t243, t246, t247⟩, A320, H⟩ := H; (try dsimp only at H); have A32 := aa.mk A320; clear A320; by_cases c33 : tu.length < 2513169434916
             ·rw [if_pos c33] at H; have LMc33 := aa.mk c33; clear c33; generalize hy248 : (tu ++ [(⟨t239, t240, t241, t242, t243⟩ : S24)]) = y248 at H; replace hy248 := hy248.symm; have Ny248 := aa.mk hy248; clear hy248; have H' := aa.mk H; clear H; try go_wp2
              replace mM := aa.mk (Kd.Iy mM.out); replace mK := aa.mk (dz mK.out); replace lv := aa.mk (dz lv.out); replace HI0 := aa.mk (bC.drew HI0.out); replace HK := aa.mk (uU HK.out); replace HB := aa.mk (eX HB.out); refine kL (n := 10) (S := fun w' => w'.cell? ⟨mX, 0, none⟩ = some (.int .i64 5) ∧ w'.cell? ⟨mX, 1, none⟩ = some (.int .i64 0) ∧ w'.cell? ⟨mX, 2, none⟩ = some (.int .i64 0) ∧ w'.cell? ⟨mX, 3, none⟩ = some (.int .i64 0) ∧ w'.cell? ⟨mX, 4, none⟩ = some (pF)) (ds := [9]) #[false, false, false, false, false, false, false, false, false, false] (by kernel_rfl) rfl rfl ⟨ci_ lv, ci_ lv, ci_ lv, ci_ lv, ci_ lv⟩ (fun hHeld => ?_); refine iG aA.KX aA.Gd (fun HT_ HW_ => ?_)
              generalize wr.drew = w34 at mM mK lv HI0 HK HB hHeld ⊢
              refine pu_ HT_ 0 40 (bm 10 1) ?_
              refine pu_ HT_ 2 42 (bm 10 5) ?_
              refine pu_ HT_ 3 43 (bm 10 13) ?_
              refine pu_ HT_ 4 44 (bm 10 29) ?_
              refine ta_ HT_ HW_ 1 41 (bm 10 31) hHeld ?_
              refine jW (i := 5) (N := some 45) #[true, true, true, true, true, true, false, false, false, false] rfl rfl (fB HT_.out (by kernel_rfl)) (by decide) (fun K hK => ?_)
              refine mf Tryd.func15 (by kernel_rfl) rfl #[.pointer (some ⟨g, 0, none⟩), .int .i64 (wrap64 (a1 - 1))] (by rfl) rfl rfl mp_ ?_
              with_reducible refine (ih k4 (by have := HJ3.out; have := HJ12.out; have := HJ21.out; have := HK4.out; omega) g bV Lj Ll (wrap64 (a1 - 1)) t239 t240 t241 t242 t243 t246 t247 w0 _ ?au ?av A32.out).mono ?_
              (case au => exact si_)
              (case av => exact bl_)
              rintro e w35 ⟨v244, rfl, ho0, hi, hb, hk⟩
              refine ⟨_, rfl, ?_⟩
              have HO245 := aa.mk (Kd.rT (Kd.dG (ok' := fun k_ => (w.heap.size ≤ k_) ∧ some k_ ≠ (pF : Value).ownBlock ∧ k_ ≠ iA ∧ k_ ≠ mX ∧ k_ ≠ g) ho0 (fun k_ hk_ => ⟨(Nat.le_trans (dM (w := w) (g := g) (row := none) kp_) hk_), (Kd.fresh' (Kd.N_lt (pN_ mM.out)) k_ hk_), (Kd.fo (g := iA) (o := .cells (t5_ 0 0 0 0 none 0 0) 24 (0, 0)) bk_ k_ hk_), (Kd.fo (g := mX) (o := .cells #[.int .i64 5, .int .i64 0, .int .i64 0, .int .i64 0, pF] 24 (0, 0)) bk_ k_ hk_), (bC.fresh si_ k_ hk_)⟩)) (dM (w := w) (g := g) (row := none) kp_)); replace mM := aa.mk (Kd.dG (Kd.RH (Kd.RG (Kd.dG (ok := fun k_ => (((w.heap.size ≤ k_)) ∧ (k_ ≠ iA ∧ (k_ ≠ mX ∧ k_ ≠ g)))) (pN_ mM.out) (fun k_ hk_ => (⟨hk_, hk_.2.2.2⟩ : _ ∧ k_ ≠ g))) hk) (by exact Kd.RF ho0)) (fun _ h_ => h_.1)); replace mK := aa.mk (aH.blk hk (g' := iA) (o := .cells (t5_ 0 0 0 0 none 0 0) 24 (0, 0)) bk_ yf.out (by simp)); replace lv := aa.mk (aH.blk hk (g' := mX) (o := .cells #[.int .i64 5, .int .i64 0, .int .i64 0, .int .i64 0, pF] 24 (0, 0)) bk_ XW.out (by simp)); replace HK := aa.mk (aH.trans (kp_ (w := w)) hk (.inl rfl)); replace HB := aa.mk (hb); replace HI0 := aa.mk (hi); obtain ⟨Ao37, co37, eo37⟩ := Kd.oC HO245.out; (subst eo37); refine hK.out _ _ ⟨ci_ lv, ci_ lv, ci_ lv, ci_ lv, ci_ lv⟩ (fun hHeld => ?_)
              clear hK K; refine jd (a' := ?_) ?_ ?_
              rotate_left
              ·show Act.put _ (some 45) _ = _
               simp only [Act.put, List.setIfInBounds_toArray, List.set_cons_zero, List.set_cons_succ, gM, iE]; rfl
              refine jW (i := 6) (N := some 46) #[true, true, true, true, true, true, true, false, false, false] rfl rfl (fB HT_.out (by kernel_rfl)) (by decide) (fun K hK => ?_)
              refine wK (w1 := ?_) (v := ?_) (by rfl) rfl ?_ ?_
              rotate_left 2
              ·go_simp; constructor
               ·rfl
               ·rfl
              refine hK.out _ _ ⟨(bH (eU lv.out _) 0).trans rfl, (bH (eU lv.out _) 1).trans rfl, (bH (eU lv.out _) 2).trans rfl, (bH (eU lv.out _) 3).trans rfl, (bH (eU lv.out _) 4).trans rfl⟩ (fun hHeld => ?_)
              clear hK K; refine jd (a' := ?_) ?_ ?_
              rotate_left
              ·show Act.put _ (some 46) _ = _
               simp only [Act.put, List.setIfInBounds_toArray, List.set_cons_zero, List.set_cons_succ, gM, iE]; rfl
              refine jW (i := 7) (N := some 47) #[true, true, true, true, true, true, true, true, false, false] rfl rfl (fB HT_.out (by kernel_rfl)) (by decide) (fun K hK => ?_)
              refine Kd.Im k24 w.heap.size (by rfl) (.tmp 41) (.tmp 46) 22 24 (.agg #[(.int .i64 0), (.int .i64 0), (.int .i64 0), (.int .i64 0), (.slice none 0 0)]) 56 rfl Tryd.underlying22 info24 rfl (by decide) (by omega) pF tu (⟨t239, t240, t241, t242, t243⟩ : S24) [.int .i64 t239, .int .i64 t240, .int .i64 t241, .int .i64 t242, .slice Ao37 t243.length co37] (fun k_ => (w.heap.size ≤ k_) ∧ k_ ≠ iA ∧ k_ ≠ mX ∧ k_ ≠ g) (fun k_ => ((fun k_ => (w.heap.size ≤ k_) ∧ k_ ≠ iA ∧ k_ ≠ mX ∧ k_ ≠ g)) k_ ∧ some k_ ≠ (pF : Value).ownBlock) rfl rfl ?aP (fun _ hk => hk) ?aF ?aO (Below.refl _ _) ?aS ?aL ?_
              (case aP => exact (Js _ _ (⟨t239, t240, t241, t242, t243⟩ : S24) (Kd.tL (Kd.dG (ok' := (fun k_ => ((fun k_ => (w.heap.size ≤ k_) ∧ k_ ≠ iA ∧ k_ ≠ mX ∧ k_ ≠ g)) k_ ∧ some k_ ≠ (pF : Value).ownBlock)) (HO245.out) (fun k_ hk => ⟨⟨hk.1, ⟨hk.2.2.1, ⟨hk.2.2.2.1, hk.2.2.2.2⟩⟩⟩, hk.2.1⟩))).2.1 (Kd.N_F (Kd.dG (ok' := (fun k_ => ((fun k_ => (w.heap.size ≤ k_) ∧ k_ ≠ iA ∧ k_ ≠ mX ∧ k_ ≠ g)) k_ ∧ some k_ ≠ (pF : Value).ownBlock)) (HO245.out) (fun k_ hk => ⟨⟨hk.1, ⟨hk.2.2.1, ⟨hk.2.2.2.1, hk.2.2.2.2⟩⟩⟩, hk.2.1⟩)))))
              (case aF => exact (fun k_ hk => ⟨(Nat.le_trans (dM (w := w) (g := g) (row := none) kp_) hk), Kd.fo (g := iA) (o := .cells (t5_ 0 0 0 0 none 0 0) 24 (0, 0)) bk_ k_ hk, Kd.fo (g := mX) (o := .cells #[.int .i64 5, .int .i64 0, .int .i64 0, .int .i64 0, pF] 24 (0, 0)) bk_ k_ hk, bC.fresh si_ k_ hk⟩))
              (case aO => exact (by exact Kd.dG mM.out (fun _ hk => ⟨hk.1.1, ⟨hk.1.2.1, ⟨hk.1.2.2.1, hk.1.2.2.2⟩⟩⟩)))
              (case aS => exact (dM (w := w) (g := g) (row := none) kp_))
              (case aL => have := LMc33.out; omega)
              intro v249 w36 ho hb hg hat; rw [← Ny248.out] at ho; have HO250 := aa.mk (ho); replace mK := aa.mk (eF (g := iA) (o := .cells (t5_ 0 0 0 0 none 0 0) 24 (0, 0)) bk_ hg (Kd.qW mM.out (fun _ hk => hk.1.2.1))); replace lv := aa.mk (eF (g := mX) (o := .cells #[.int .i64 5, .int .i64 0, .int .i64 0, .int .i64 0, pF] 24 (0, 0)) bk_ hg (Kd.qW mM.out (fun _ hk => hk.1.2.2.1))); replace HI0 := aa.mk (bC.grown si_ hg (bC.OE HI0.out mM.out (by decide))); replace HB := aa.mk (rR bl_ HL.out hb); replace HK := aa.mk (aH.trans (kp_ (w := w)) (aH.tC hg g) (Kd.TZ mM.out)); clear mM HO245; clear ho hb hg hat; obtain ⟨Ao38, co38, eo38⟩ := Kd.oC HO250.out; (subst eo38); refine hK.out _ _ ⟨ci_ lv, ci_ lv, ci_ lv, ci_ lv, ci_ lv⟩ (fun hHeld => ?_)
              clear hK K; refine jd (a' := ?_) ?_ ?_
              rotate_left
              ·show Act.put _ (some 47) _ = _
               simp only [Act.put, List.setIfInBounds_toArray, List.set_cons_zero, List.set_cons_succ, gM, iE]; rfl
              refine pu_ HT_ 8 48 (bm 10 511) ?_
              refine tJ (i := 9) (N := none) #[true, true, true, true, true, true, true, true, true, true] rfl rfl (fB HT_.out (by kernel_rfl)) (by decide) (fun K hK => ?_)
              have hfs39 := fF lv.out 4; refine qB (w1 := ?_) (by rfl) rfl ?_ ?_
              rotate_left
              ·go_simp; rfl
              refine hK.out _ _ ?_
              clear hK K; refine mH (jT HT_.out (by kernel_rfl)) ?_
              try go_wp2
              go_roundg k4
              case measure => have := HJ3.out; have := HJ12.out; have := HJ21.out; have := HK4.out; omega
              case rel => exact ⟨(wrap64 (x8_4 - 1)), (t246), (t247), (y248), (.slice Ao38 y248.length co38), rs_, H', ⟨by have := HJ3.out; have := HJ12.out; have := HJ21.out; have := HK4.out; omega⟩, ⟨by exact Kd.dG (Kd.fq (p := ⟨mX, 4, none⟩) (Kd.dG HO250.out (fun k_ hk => (⟨hk, by exact hk.2.2.1⟩ : _ ∧ k_ ≠ mX))) (fun _ hk => hk.2) (.slice Ao38 y248.length co38)) (fun _ hk => ⟨hk.1.1, ⟨hk.1.2.1, ⟨hk.1.2.2.1, hk.1.2.2.2⟩⟩⟩)⟩, ⟨by refine bP ?_ YK.out _; exact mK.out⟩, ⟨by refine eP (cs := #[.int .i64 5, .int .i64 0, .int .i64 0, .int .i64 0, pF]) ?_ 4 _ rfl; exact lv.out⟩, ⟨si_⟩, ⟨by repeat (with_reducible first | exact HK.out | refine iD ?_ GW235.out _)⟩, ⟨bl_⟩⟩
             ·rw [if_neg c33] at H; exact absurd H (by simp)
            ·rw [if_neg c31] at H; have c31b0 : decide (0 < x8_4) = false := decide_eq_false c31; clear c31; simp only [Option.some.injEq, Prod.mk.injEq] at H; obtain ⟨rfl, rfl, rfl, rfl, rfl, rfl, rfl⟩ := H; obtain ⟨VX, VY, hcz42_2, hcz42_3, hcz42_4, _, _, _, _, _⟩ := bE lv.out; obtain ⟨hcz44_0, hcz44_1, hcz44_2, hcz44_3, hcz44_4, hfz44_0, hfz44_1, hfz44_2, hfz44_3, hfz44_4⟩ := bE mK.out; obtain ⟨Ao45, co45, eo45⟩ := Kd.oC mM.out; subst eo45; go_wp2; refine bodyPost_ret (results_cell_row rfl _ _ iA 24 (t5_ 5 0 0 0 Ao45 tu.length co45) (0, 0) _ rfl b5_ Tryd.underlying24 rfl (by kernel_rfl)) rfl ?_
             exact ⟨_, re_, by exact Kd.dG (Kd.fq (p := ⟨iA, 4, none⟩) (Kd.fq (p := ⟨iA, 3, none⟩) (Kd.fq (p := ⟨iA, 2, none⟩) (Kd.fq (p := ⟨iA, 1, none⟩) (Kd.fq (p := ⟨iA, 0, none⟩) (Kd.dG mM.out (fun k_ hk => (⟨hk, by exact hk.2.1⟩ : _ ∧ k_ ≠ iA))) (fun _ hk => hk.2) (.int .i64 5)) (fun _ hk => hk.2) (.int .i64 0)) (fun _ hk => hk.2) (.int .i64 0)) (fun _ hk => hk.2) (.int .i64 0)) (fun _ hk => hk.2) (.slice Ao45 tu.length co45)) (fun _ hk => hk.1.1), si_, bl_, by repeat (with_reducible first | exact HK.out | refine iD ?_ GW222.out _)⟩
         ·replace c24 := Bool.eq_false_iff.mpr c24; subst c24; rw [if_neg (show ¬ (false = true) by decide)] at H; replace H := Option.bind_eq_some_iff.mp H; obtain ⟨⟨t251, t252, t253⟩, A460, H⟩ := H; (try dsimp only at H); have A46 := aa.mk A460; clear A460; replace H := Option.bind_eq_some_iff.mp H; obtain ⟨⟨t254, t255, t256, t257, t258, t261, t262⟩, A470, H⟩ := H; (try dsimp only at H); have A47 := aa.mk A470; clear A470; generalize hy263 : (([(⟨t254, t255, t256, t257, t258⟩ : S24)] : List (S24))) = y263 at H; replace hy263 := hy263.symm; have Ny263 := aa.mk hy263; clear hy263; simp only [Option.some.injEq, Prod.mk.injEq] at H; obtain ⟨rfl, rfl, rfl, rfl, rfl, rfl, rfl⟩ := H; go_wp2_with (first | ((with_reducible refine ay (f := 17) rfl ?_); refine gl_ (some 51) Tryd.func17 #[.pointer (some ⟨g, 0, none⟩), .int .i64 1, .int .i64 2] ?_; (with_reducible refine (dC.calls g bV qR qU 1 2 t251 t252 t253 w0 _ ?au ?av A46.out).mono ?_); (case au => exact si_); (case av => exact bl_); rintro e w48 ⟨rfl, hi, hb, hk⟩; refine ⟨_, rfl, ?_⟩; replace mK := aa.mk (aH.blk hk (g' := iA) (o := .cells (t5_ 0 0 0 0 none 0 0) 24 (0, 0)) bk_ yf.out (by simp)); replace HK := aa.mk (aH.trans (kp_ (w := w)) hk (.inl rfl)); replace HB := aa.mk (hb); replace HI0 := aa.mk (hi)) | ((with_reducible refine ay (f := 15) rfl ?_); refine gl_ (some 53) Tryd.func15 #[.pointer (some ⟨g, 0, none⟩), .int .i64 1] ?_; (with_reducible refine (ih kj21 (by have := HJ3.out; have := HJ12.out; have := HJ21.out; omega) g bV t252 t253 1 t254 t255 t256 t257 t258 t261 t262 w0 _ ?au ?av A47.out).mono ?_); (case au => exact si_); (case av => exact bl_); rintro e w49 ⟨v259, rfl, ho0, hi, hb, hk⟩; refine ⟨_, rfl, ?_⟩; have HO260 := aa.mk (Kd.rT (Kd.dG (ok' := fun k_ => (w.heap.size ≤ k_) ∧ k_ ≠ iA ∧ k_ ≠ g) ho0 (fun k_ hk_ => ⟨(Nat.le_trans (dM (w := w) (g := g) (row := none) kp_) hk_), (Kd.fo (g := iA) (o := .cells (t5_ 0 0 0 0 none 0 0) 24 (0, 0)) bk_ k_ hk_), (bC.fresh si_ k_ hk_)⟩)) (dM (w := w) (g := g) (row := none) kp_)); replace mK := aa.mk (aH.blk hk (g' := iA) (o := .cells (t5_ 0 0 0 0 none 0 0) 24 (0, 0)) bk_ yf.out (by simp)); replace HK := aa.mk (aH.trans (kp_ (w := w)) hk (.inl rfl)); replace HB := aa.mk (hb); replace HI0 := aa.mk (hi); obtain ⟨Ao50, co50, eo50⟩ := Kd.oC HO260.out; subst eo50) | ((with_reducible refine aM (N := 54) rfl ?_); refine Kd.N_lit k24 _ 24 ?hg (N' := 54) ?hd (xs := ([(⟨t254, t255, t256, t257, t258⟩ : S24)] : List (S24))) (inner := [.int .i64 t254, .int .i64 t255, .int .i64 t256, .int .i64 t257, .slice Ao50 t258.length co50]) (ok := (fun k_ => (w.heap.size ≤ k_) ∧ k_ ≠ iA ∧ k_ ≠ g)) (okp := (fun k_ => (w.heap.size ≤ k_) ∧ k_ ≠ iA ∧ k_ ≠ g)) ?hr ?hp (fun _ hk => hk) ((show ∀ k_, w49.heap.size ≤ k_ → (fun k_ => (w.heap.size ≤ k_) ∧ k_ ≠ iA ∧ k_ ≠ g) k_ from fun k_ hk => ⟨(Nat.le_trans (dM (w := w) (g := g) (row := none) kp_) hk), Kd.fo (g := iA) (o := .cells (t5_ 0 0 0 0 none 0 0) 24 (0, 0)) bk_ k_ hk, bC.fresh si_ k_ hk⟩) _ (Nat.le_refl _)) (Below.refl _ _) (Nat.le_refl _) (by simp) ?_; (case hd => rfl); (case hg => rfl); (case hr => (go_simp; done)); (case hp => exact (dB.c5 (show Kd.FK k24 _ _ (⟨t254, t255, t256, t257, t258⟩ : S24) [.int .i64 t254, .int .i64 t255, .int .i64 t256, .int .i64 t257, .slice Ao50 t258.length co50] from (Js _ _ (⟨t254, t255, t256, t257, t258⟩ : S24) (Kd.tL (Kd.dG (ok' := (fun k_ => (w.heap.size ≤ k_) ∧ k_ ≠ iA ∧ k_ ≠ g)) (HO260.out) (fun k_ hk => ⟨hk.1, ⟨hk.2.1, hk.2.2⟩⟩))).2.1 (Kd.N_F (Kd.dG (ok' := (fun k_ => (w.heap.size ≤ k_) ∧ k_ ≠ iA ∧ k_ ≠ g)) (HO260.out) (fun k_ hk => ⟨hk.1, ⟨hk.2.1, hk.2.2⟩⟩))))) (dB.none _ _))); intro v264 w51 ho52 hb hg_ iy; clear hg_ iy; (rw [← Ny263.out] at ho52); have HO265 := aa.mk (Kd.rT ho52 (dM (w := w) (g := g) (row := none) kp_)); replace mK := kb_ mK hb; replace HI0 := aa.mk (bC.below si_ hb); replace HK := aa.mk (aH.trans (kp_ (w := w)) (aH.of_below hb g none) (.inl rfl)); replace HB := aa.mk (ax bl_ hb); clear HO260; clear hb ho52; obtain ⟨Ao53, co53, eo53⟩ := Kd.oC HO265.out; subst eo53; obtain ⟨hcz55_0, hcz55_1, hcz55_2, hcz55_3, hcz55_4, hfz55_0, hfz55_1, hfz55_2, hfz55_3, hfz55_4⟩ := bE mK.out))
          refine bodyPost_ret (results_cell_row rfl _ _ iA 24 (t5_ 6 0 0 t251 Ao53 y263.length co53) (0, 0) _ rfl b5_ Tryd.underlying24 rfl (by kernel_rfl)) rfl ?_
          exact ⟨_, re_, by exact Kd.dG (Kd.fq (p := ⟨iA, 4, none⟩) (Kd.fq (p := ⟨iA, 3, none⟩) (Kd.fq (p := ⟨iA, 2, none⟩) (Kd.fq (p := ⟨iA, 1, none⟩) (Kd.fq (p := ⟨iA, 0, none⟩) (Kd.dG HO265.out (fun k_ hk => (⟨hk, by exact hk.2.1⟩ : _ ∧ k_ ≠ iA))) (fun _ hk => hk.2) (.int .i64 6)) (fun _ hk => hk.2) (.int .i64 0)) (fun _ hk => hk.2) (.int .i64 0)) (fun _ hk => hk.2) (.int .i64 t251)) (fun _ hk => hk.2) (.slice Ao53 y263.length co53)) (fun _ hk => hk.1.1), si_, bl_, by repeat (with_reducible first | exact HK.out | refine iD ?_ GW222.out _)⟩

end Go.Proofs.YtggelekooacmnaaDoor.Q
set_option linter.unusedVariables false
set_option linter.unusedSimpArgs false
namespace Go.Proofs.YtggelekooacmnaaDoor.Pure
open Go.RowKit Go.Proofs.YtggelekooacmnaaDoor.Q Go.Proofs.YtggelekooacmnaaDoorW.aJ Go.Proofs.YtggelekooacmnaaDoorW.bu Go.Proofs.YtggelekooacmnaaDoorW.bB
-- the reader of numbers, and the types that are built
/-- a reader's state -/
structure Rs (l : List Int) (at0 : Int) : Prop where
  len : l.length ≤ 1000
  lo : 0 ≤ at0
  hi : at0 ≤ l.length
theorem raw_ok {l : List Int} {p s : Int} (h : Rs l p) : ∃ x p', kv.f l p s = some (x, p', s) ∧ Rs l p' := by
  obtain ⟨h1, h2, h3⟩ := h
  unfold kv.f
  by_cases c : p ≥ (l.length : Int)
  · exact ⟨0, p, by rw [if_pos c], ⟨h1, h2, h3⟩⟩
  · have e : wrap64 (p + 1) = p + 1 := by unfold wrap64; omega
    have e2 : wrap64 (p + 1 - 1) = p := by unfold wrap64; omega
    rw [if_neg c, e, e2, if_pos h2, if_pos (by omega)]
    exact ⟨_, _, rfl, ⟨h1, by omega, by omega⟩⟩
theorem tmod_bd (x a : Int) (ha : 0 < a) : -a < Int.tmod x a ∧ Int.tmod x a < a := by
  have h1 := Int.tmod_lt_of_pos x ha
  have h2 := Int.tmod_lt_of_pos (-x) ha
  rw [Int.neg_tmod] at h2
  omega
theorem uO {l : List Int} {p s a : Int} (h : Rs l p) (ha : a ≤ 1000000) : ∃ x p', bG.f l p s a = some (x, p', s) ∧ Rs l p' ∧ 0 ≤ x ∧ (1 ≤ a → x < a) ∧ (a < 1 → x = 0) := by
  unfold bG.f
  by_cases c : a < 1
  · exact ⟨0, p, by rw [if_pos c], h, by omega, by omega, fun _ => rfl⟩
  · obtain ⟨x, p', e, h'⟩ := raw_ok (s := s) h
    have hb := tmod_bd x a (by omega)
    rw [if_neg c, e, Option.bind_some, if_neg (by omega)]
    dsimp only
    by_cases c2 : Int.tmod x a < 0
    · have ew : wrap64 (Int.tmod x a + a) = Int.tmod x a + a := by unfold wrap64; omega
      rw [if_pos c2, ew]
      exact ⟨_, _, rfl, h', by omega, by omega, by omega⟩
    · rw [if_neg c2]
      exact ⟨_, _, rfl, h', by omega, by omega, by omega⟩
theorem zZ {l : List Int} {p s lo hi : Int} (h : Rs l p) (h1 : -100000 ≤ lo) (h2 : lo ≤ hi) (h3 : hi ≤ 100000) : ∃ x p', dC.f l p s lo hi = some (x, p', s) ∧ Rs l p' ∧ lo ≤ x ∧ x ≤ hi := by
  unfold dC.f
  have e : wrap64 (wrap64 (hi - lo) + 1) = hi - lo + 1 := by unfold wrap64; omega
  obtain ⟨x, p', e1, h', hx0, hx1, _⟩ := uO (s := s) (a := hi - lo + 1) h (by omega)
  have hx := hx1 (by omega)
  have ew : wrap64 (lo + x) = lo + x := by unfold wrap64; omega
  rw [e, e1, Option.bind_some]
  dsimp only
  rw [ew]
  exact ⟨_, _, rfl, h', by omega, by omega⟩
theorem New_ok (l : List Int) : lV.f l = some (l.take 1000, 0, 0) ∧ Rs (l.take 1000) 0 := by
  unfold lV.f
  refine ⟨?_, ⟨by rw [List.length_take]; omega, by omega, by omega⟩⟩
  by_cases c : (l.length : Int) > 1000
  · rw [if_pos c, if_pos (by omega)]
  · rw [if_neg c, List.take_of_length_le (by omega)]
/-- the types that are built, at most d deep -/
inductive Gt : Nat → S24 → Prop
  | bool (d : Nat) : Gt (d + 1) ⟨1, 0, 0, 0, []⟩
  | int (d : Nat) (lo hi : Int) (h1 : -2 ≤ lo) (h2 : lo ≤ hi) (h3 : hi ≤ lo + 3) (h4 : lo ≤ 3) : Gt (d + 1) ⟨2, lo, hi, 0, []⟩
  | tup (d : Nat) (l : List S24) (h1 : 2 ≤ l.length) (h2 : l.length ≤ 3) (h3 : ∀ x ∈ l, Gt d x) : Gt (d + 1) ⟨5, 0, 0, 0, l⟩
  | lst (d : Nat) (m : Int) (x : S24) (h1 : 1 ≤ m) (h2 : m ≤ 2) (h3 : Gt 1 x) (h4 : x.f0 = 1 ∨ x.f0 = 2) (h5 : 1 ≤ d) : Gt (d + 1) ⟨6, 0, 0, m, [x]⟩
theorem Gt.kind {d : Nat} {t : S24} (h : Gt d t) : t.f0 ≠ 3 ∧ t.f0 ≠ 4 ∧ 1 ≤ t.f0 ∧ t.f0 ≤ 6 := by cases h <;> simp
theorem Gt.vt {d : Nat} : ∀ {t : S24}, Gt d t → Vt d t := by
  induction d with
  | zero => intro t h; cases h
  | succ d ih =>
    intro t h
    cases h with
    | bool => exact .bool _
    | int _ lo hi h1 h2 h3 h4 => exact .int _ _ _ (by omega) h2 (by omega)
    | tup _ l h1 h2 h3 => exact .tup _ _ h1 (by omega) (fun x hx => ih (h3 x hx)) (fun x hx => ⟨(h3 x hx).kind.1, (h3 x hx).kind.2.1⟩)
    | lst _ m x h1 h2 h3 h4 h5 =>
      refine .lst _ _ _ h1 (by omega) (Vt.mono h5 ?_) h4
      cases h3 with
      | bool => exact .bool _
      | int _ lo hi h1 h2 h3 h4 => exact .int _ _ _ (by omega) h2 (by omega)
      | tup _ l h1 h2 h3 => simp at h4
      | lst _ m x h1 h2 h3 h4 h5 => omega
theorem Type_l0 (d : Nat) (hd : d ≤ 100) (l : List Int) (s : Int) (ih : ∀ p, Rs l p → ∃ t p', Ev (fun k => aA.f k l p s d) (t.f0, t.f1, t.f2, t.f3, t.f4, p', s) ∧ Gt d t ∧ Rs l p') :
    ∀ (c : Nat) (p : Int) (o : List S24), c ≤ 3 → o.length + c ≤ 3 → Rs l p → (∀ x ∈ o, Gt d x) → ∃ o' p', Ev (fun k => aA.l0 k (d + 1 : Nat) c l p s 5 0 0 0 o) (5, 0, 0, 0, o', p', s) ∧ o'.length = o.length + c ∧ (∀ x ∈ o', Gt d x) ∧ Rs l p' := by
  intro c
  induction c with
  | zero =>
    intro p o hc ho hr hg
    refine ⟨o, p, ⟨1, fun k hk => ?_⟩, by omega, hg, hr⟩
    obtain ⟨k, rfl⟩ : ∃ j, k = j + 1 := ⟨k - 1, by omega⟩
    simp only [aA.l0]
    rw [if_neg (by omega)]
  | succ c IH =>
    intro p o hc ho hr hg
    obtain ⟨t, p1, ⟨K1, e1⟩, g1, hr1⟩ := ih p hr
    obtain ⟨o', p', ⟨K2, e2⟩, hl, hg', hr'⟩ := IH p1 (o ++ [t]) (by omega) (by rw [List.length_append, List.length_singleton]; omega) hr1 (by
      intro x hx
      rcases List.mem_append.1 hx with hx | hx
      · exact hg x hx
      · rw [List.mem_singleton] at hx; rw [hx]; exact g1)
    refine ⟨o', p', ⟨max K1 K2 + 1, fun k hk => ?_⟩, by rw [hl, List.length_append, List.length_singleton]; omega, hg', hr'⟩
    obtain ⟨k, rfl⟩ : ∃ j, k = j + 1 := ⟨k - 1, by omega⟩
    have e1' := e1 k (by omega)
    have e2' := e2 k (by omega)
    dsimp only at e1' e2'
    have ew : wrap64 (((d + 1 : Nat) : Int) - 1) = (d : Int) := by unfold wrap64; omega
    have ec : wrap64 (((c + 1 : Nat) : Int) - 1) = (c : Int) := by unfold wrap64; omega
    simp only [aA.l0]
    rw [if_pos (by omega), ew, e1', Option.bind_some]
    dsimp only
    rw [if_pos (by omega), ec, eta_s, e2']
theorem QF (d : Nat) : ∀ {l : List Int} {p s : Int}, 1 ≤ d → d ≤ 100 → Rs l p → ∃ t p', Ev (fun k => aA.f k l p s d) (t.f0, t.f1, t.f2, t.f3, t.f4, p', s) ∧ Gt d t ∧ Rs l p' := by
  induction d with
  | zero => intro l p s h; omega
  | succ d ih =>
    intro l p s h1 h2 hr
    obtain ⟨k1, p1, e1, hr1, b1, b1', _⟩ := uO (s := s) (a := 6) hr (by omega)
    have b1' := b1' (by omega)
    have leaf : ∀ (kd q : Int), Rs l q → 0 ≤ kd → kd < 3 → ∃ t p', (∃ K, ∀ k, K ≤ k → aA.j0 k ((d + 1 : Nat) : Int) kd l q s = some (t.f0, t.f1, t.f2, t.f3, t.f4, p', s)) ∧ Gt (d + 1) t ∧ Rs l p' := by
      intro kd q hq c0 c3
      by_cases c : kd = 0
      · refine ⟨⟨1, 0, 0, 0, []⟩, q, ⟨1, fun k hk => ?_⟩, .bool _, hq⟩
        obtain ⟨k, rfl⟩ : ∃ j, k = j + 1 := ⟨k - 1, by omega⟩
        simp only [aA.j0]
        rw [if_pos c]
      · obtain ⟨lo, q1, e2, hq1, l1, l2⟩ := zZ (s := s) (lo := -2) (hi := 3) hq (by omega) (by omega) (by omega)
        obtain ⟨w, q2, e3, hq2, w1, w2, _⟩ := uO (s := s) (a := 4) hq1 (by omega)
        have w2 := w2 (by omega)
        have ew : wrap64 (lo + w) = lo + w := by unfold wrap64; omega
        refine ⟨⟨2, lo, lo + w, 0, []⟩, q2, ⟨2, fun k hk => ?_⟩, .int _ _ _ l1 (by omega) (by omega) (by omega), hq2⟩
        obtain ⟨k, rfl⟩ : ∃ j, k = j + 2 := ⟨k - 2, by omega⟩
        simp only [aA.j0]
        rw [if_neg c]
        have hb : ∀ b, b = true → aA.j1 (k + 1) ((d + 1 : Nat) : Int) kd b l q s = some (2, lo, lo + w, 0, [], q2, s) := by
          intro b hb
          simp only [aA.j1]
          rw [if_pos hb, e2, Option.bind_some]
          dsimp only
          rw [e3, Option.bind_some]
          dsimp only
          rw [ew]
        by_cases c1 : kd = 1
        · rw [if_pos c1]; exact hb _ (by rw [c1]; rfl)
        · rw [if_neg c1]; exact hb _ (by rw [show kd = 2 from by omega]; rfl)
    by_cases hd : d = 0
    · subst hd
      obtain ⟨k2, p2, e2, hr2, b2, b2', _⟩ := uO (s := s) (a := 3) hr1 (by omega)
      have b2' := b2' (by omega)
      obtain ⟨t, p', ⟨K, e⟩, g, hr'⟩ := leaf k2 p2 hr2 b2 b2'
      refine ⟨t, p', ⟨K + 1, fun k hk => ?_⟩, g, hr'⟩
      obtain ⟨k, rfl⟩ : ∃ j, k = j + 1 := ⟨k - 1, by omega⟩
      simp only [aA.f]
      rw [e1, Option.bind_some, if_pos (by omega)]
      dsimp only
      rw [e2, Option.bind_some]
      exact e k (by omega)
    · have hf : ∀ k, aA.f (k + 1) l p s ((d + 1 : Nat) : Int) = aA.j0 k ((d + 1 : Nat) : Int) k1 l p1 s := by
        intro k
        simp only [aA.f]
        rw [e1, Option.bind_some, if_neg (by omega)]
      by_cases c3 : k1 < 3
      · obtain ⟨t, p', ⟨K, e⟩, g, hr'⟩ := leaf k1 p1 hr1 b1 c3
        refine ⟨t, p', ⟨K + 1, fun k hk => ?_⟩, g, hr'⟩
        obtain ⟨k, rfl⟩ : ∃ j, k = j + 1 := ⟨k - 1, by omega⟩
        show aA.f (k + 1) l p s ((d + 1 : Nat) : Int) = _
        rw [hf]
        exact e k (by omega)
      · have hj : ∀ k, aA.f (k + 3) l p s ((d + 1 : Nat) : Int) = (if k1 = 3 then aA.j2 k ((d + 1 : Nat) : Int) true l p1 s else aA.j2 k ((d + 1 : Nat) : Int) (k1 == 4) l p1 s) := by
          intro k
          rw [hf]
          simp only [aA.j0]
          rw [if_neg (by omega), if_neg (by omega), show (k1 == 2) = false from by simp; omega]
          simp only [aA.j1]
          rw [if_neg (by decide)]
          by_cases c : k1 = 3
          · rw [if_pos c, if_pos c, c]; rfl
          · rw [if_neg c, if_neg c]
        by_cases c4 : k1 = 3 ∨ k1 = 4
        · obtain ⟨c, p2, e2, hr2, g1, g2⟩ := zZ (s := s) (lo := 2) (hi := 3) hr1 (by omega) (by omega) (by omega)
          obtain ⟨o', p', ⟨K, e⟩, hl, hg, hr'⟩ := Type_l0 d (by omega) l s (fun p hp => ih (by omega) (by omega) hp) c.toNat p2 [] (by omega) (by simp; omega) hr2 (by simp)
          refine ⟨⟨5, 0, 0, 0, o'⟩, p', ⟨K + 4, fun k hk => ?_⟩, .tup _ _ (by simp at hl; omega) (by simp at hl; omega) hg, hr'⟩
          obtain ⟨k, rfl⟩ : ∃ j, k = j + 4 := ⟨k - 4, by omega⟩
          show aA.f (k + 1 + 3) l p s ((d + 1 : Nat) : Int) = _
          have hb : ∀ b, b = true → aA.j2 (k + 1) ((d + 1 : Nat) : Int) b l p1 s = some (5, 0, 0, 0, o', p', s) := by
            intro b hb
            have e' := e k (by omega)
            dsimp only at e'
            simp only [aA.j2]
            rw [if_pos hb, e2, Option.bind_some]
            dsimp only
            rw [show c = (c.toNat : Int) from by omega]
            exact e'
          rw [hj]
          by_cases c : k1 = 3
          · rw [if_pos c]; exact hb _ rfl
          · rw [if_neg c]; exact hb _ (by rw [show k1 = 4 from by omega]; rfl)
        · obtain ⟨m, p2, e2, hr2, g1, g2⟩ := zZ (s := s) (lo := 1) (hi := 2) hr1 (by omega) (by omega) (by omega)
          have h1t : ∃ x p', Ev (fun k => aA.f k l p2 s 1) (x.f0, x.f1, x.f2, x.f3, x.f4, p', s) ∧ Gt 1 x ∧ Rs l p' := by
            obtain ⟨k3, p3, e3, hr3, b3, b3', _⟩ := uO (s := s) (a := 6) hr2 (by omega)
            obtain ⟨k4, p4, e4, hr4, b4, b4', _⟩ := uO (s := s) (a := 3) hr3 (by omega)
            have b4' := b4' (by omega)
            have fin : ∃ x p', (∃ K, ∀ k, K ≤ k → aA.j0 k 1 k4 l p4 s = some (x.f0, x.f1, x.f2, x.f3, x.f4, p', s)) ∧ Gt 1 x ∧ Rs l p' := by
              by_cases c : k4 = 0
              · refine ⟨⟨1, 0, 0, 0, []⟩, p4, ⟨1, fun k hk => ?_⟩, .bool _, hr4⟩
                obtain ⟨k, rfl⟩ : ∃ j, k = j + 1 := ⟨k - 1, by omega⟩
                simp only [aA.j0]
                rw [if_pos c]
              · obtain ⟨lo, q1, e5, hq1, l1, l2⟩ := zZ (s := s) (lo := -2) (hi := 3) hr4 (by omega) (by omega) (by omega)
                obtain ⟨w, q2, e6, hq2, w1, w2, _⟩ := uO (s := s) (a := 4) hq1 (by omega)
                have w2 := w2 (by omega)
                have ew : wrap64 (lo + w) = lo + w := by unfold wrap64; omega
                refine ⟨⟨2, lo, lo + w, 0, []⟩, q2, ⟨2, fun k hk => ?_⟩, .int _ _ _ l1 (by omega) (by omega) (by omega), hq2⟩
                obtain ⟨k, rfl⟩ : ∃ j, k = j + 2 := ⟨k - 2, by omega⟩
                simp only [aA.j0]
                rw [if_neg c]
                have hb : ∀ b, b = true → aA.j1 (k + 1) 1 k4 b l p4 s = some (2, lo, lo + w, 0, [], q2, s) := by
                  intro b hb
                  simp only [aA.j1]
                  rw [if_pos hb, e5, Option.bind_some]
                  dsimp only
                  rw [e6, Option.bind_some]
                  dsimp only
                  rw [ew]
                by_cases c1 : k4 = 1
                · rw [if_pos c1]; exact hb _ (by rw [c1]; rfl)
                · rw [if_neg c1]; exact hb _ (by rw [show k4 = 2 from by omega]; rfl)
            obtain ⟨x, p', ⟨K, e⟩, g, hr'⟩ := fin
            refine ⟨x, p', ⟨K + 1, fun k hk => ?_⟩, g, hr'⟩
            obtain ⟨k, rfl⟩ : ∃ j, k = j + 1 := ⟨k - 1, by omega⟩
            simp only [aA.f]
            rw [e3, Option.bind_some, if_pos (by omega)]
            dsimp only
            rw [e4, Option.bind_some]
            exact e k (by omega)
          obtain ⟨x, p', ⟨K, e⟩, g, hr'⟩ := h1t
          have hk12 : x.f0 = 1 ∨ x.f0 = 2 := by
            cases g with
            | bool => exact .inl rfl
            | int => exact .inr rfl
            | tup _ l h1 h2 h3 =>
              match l, h1, h3 with
              | y :: _, _, h3 => exact nomatch h3 y List.mem_cons_self
            | lst _ _ _ _ _ _ _ h5 => omega
          refine ⟨⟨6, 0, 0, m, [x]⟩, p', ⟨K + 4, fun k hk => ?_⟩, .lst _ _ _ g1 g2 g hk12 (by omega), hr'⟩
          obtain ⟨k, rfl⟩ : ∃ j, k = j + 4 := ⟨k - 4, by omega⟩
          have e' := e (k) (by omega)
          dsimp only at e'
          show aA.f (k + 1 + 3) l p s ((d + 1 : Nat) : Int) = _
          rw [hj, if_neg (by omega), show (k1 == 4) = false from by simp; omega]
          simp only [aA.j2]
          rw [if_neg (by decide), e2, Option.bind_some]
          dsimp only
          rw [e', Option.bind_some]
          dsimp only
          rw [eta_s]

theorem Gm {l : List Int} {p s : Int} {ys : List Int} (h : Rs l p) (h1 : 1 ≤ ys.length) (h2 : ys.length ≤ 1000) : ∃ x p', dN.f l p s ys = some (x, p', s) ∧ Rs l p' ∧ x ∈ ys := by
  unfold dN.f
  obtain ⟨x, p', e1, h', hx0, hx1, _⟩ := uO (s := s) (a := (ys.length : Int)) h (by omega)
  have hx := hx1 (by omega)
  rw [e1, Option.bind_some]
  dsimp only
  rw [if_pos hx0, if_pos hx]
  refine ⟨_, _, rfl, h', ?_⟩
  have hlt : x.toNat < ys.length := by omega
  have : rd ys x = ys[x.toNat] := by simp [rd, List.getD, hlt]
  rw [this]; exact List.getElem_mem hlt

end Go.Proofs.YtggelekooacmnaaDoor.Pure
namespace Go.Proofs.YtggelekooacmnaaDoor.Q
open Go.RowKit Go.Proofs.YtggelekooacmnaaDoorW.aJ Go.Proofs.YtggelekooacmnaaDoorW.bu Go.Proofs.YtggelekooacmnaaDoorW.bB
attribute [local go_sem] cZ dh dO dP bX bY dm dn   -- for this text's walks alone
set_option linter.unusedVariables false
set_option linter.unusedSimpArgs false

/-! ### bK: function 27 -/
def bK.f : Nat → List Int → Int → Int → Int → Option (Int × Int × Int × Int × (List (S24)) × Int × Int)
 | 0, _, _, _, _ => none
 | k + 1, bV, fC, gp, a1 => (aA.f k bV fC gp a1).bind fun eO => ((bG.f bV eO.2.2.2.2.2.1 eO.2.2.2.2.2.2 10).bind fun iB => (if iB.1 = 0 then ((dC.f bV iB.2.1 iB.2.2 0 7).bind fun Ih => (some (Ih.1, eO.2.1, eO.2.2.1, eO.2.2.2.1, eO.2.2.2.2.1, Ih.2.1, Ih.2.2))) else (if iB.1 = 1 then ((dN.f bV iB.2.1 iB.2.2 (([(-1000), (-1001), 0, 5] : List Int))).bind fun yO => (some (eO.1, yO.1, eO.2.2.1, eO.2.2.2.1, eO.2.2.2.2.1, yO.2.1, yO.2.2))) else (if iB.1 = 2 then ((dN.f bV iB.2.1 iB.2.2 (([1000, 1001, 0, (-5)] : List Int))).bind fun yP => (some (eO.1, eO.2.1, yP.1, eO.2.2.2.1, eO.2.2.2.2.1, yP.2.1, yP.2.2))) else (if iB.1 = 3 then ((dN.f bV iB.2.1 iB.2.2 (([0, 4, 5] : List Int))).bind fun yQ => (some (eO.1, eO.2.1, eO.2.2.1, yQ.1, eO.2.2.2.2.1, yQ.2.1, yQ.2.2))) else (if iB.1 = 4 then ((aA.f k bV iB.2.1 iB.2.2 1).bind fun uk => (if eO.2.2.2.2.1.length < 2513169434916 then (some (eO.1, eO.2.1, eO.2.2.1, eO.2.2.2.1, (eO.2.2.2.2.1 ++ [(⟨uk.1, uk.2.1, uk.2.2.1, uk.2.2.2.1, uk.2.2.2.2.1⟩ : S24)]), uk.2.2.2.2.2.1, uk.2.2.2.2.2.2)) else (none))) else (if iB.1 = 5 then (if (eO.2.2.2.2.1.length : Int) > 0 then ((bG.f bV iB.2.1 iB.2.2 (eO.2.2.2.2.1.length : Int)).bind fun yR => ((bK.f k bV yR.2.1 yR.2.2 (wrap64 (a1 - 1))).bind fun um => (if 0 ≤ yR.1 then (if yR.1 < (eO.2.2.2.2.1.length : Int) then (some (eO.1, eO.2.1, eO.2.2.1, eO.2.2.2.1, (eO.2.2.2.2.1.set (yR.1 : Int).toNat (⟨um.1, um.2.1, um.2.2.1, um.2.2.2.1, um.2.2.2.2.1⟩ : S24)), um.2.2.2.2.2.1, um.2.2.2.2.2.2)) else (none)) else (none)))) else (some (eO.1, eO.2.1, eO.2.2.1, eO.2.2.2.1, eO.2.2.2.2.1, iB.2.1, iB.2.2))) else (if iB.1 = 6 then ((dN.f bV iB.2.1 iB.2.2 (([3, 4] : List Int))).bind fun yS => (some (yS.1, 0, 0, 0, ([] : List (S24)), yS.2.1, yS.2.2))) else (some (eO.1, eO.2.1, eO.2.2.1, eO.2.2.2.1, eO.2.2.2.2.1, iB.2.1, iB.2.2))))))))))
def bK.T12 : Bool × List (List Nat × List Nat) := (true, [([], []), ([0], [0]), ([], []), ([2], [2]), ([3], [3]), ([1, 4, 3], [1, 4]), ([0, 1, 2, 3, 4, 5], []), ([6, 5, 5, 0, 1, 2, 3, 4, 5], [5, 6])])
def bK.B12 : List Nat := [0, 1, 0, 4, 12, 31, 63, 127]
theorem bK.tab12 : jX .any (opsOf Tryd.f27 12) = bK.T12 := by kernel_rfl
theorem bK.SE : jK bK.T12.2 bK.B12 = true := by kernel_rfl
def bK.T16 : Bool × List (List Nat × List Nat) := (true, [([], []), ([0], [0]), ([], []), ([], []), ([2, 3], [2, 3]), ([], []), ([], []), ([6], [6]), ([5, 7, 4], [5, 7]), ([1, 4, 0, 1, 2, 3, 4, 5, 6, 7, 8], [1, 4]), ([9, 8, 8, 0, 1, 2, 3, 4, 5, 6, 7, 8], [8, 9])])
def bK.B16 : List Nat := [0, 1, 0, 0, 12, 0, 0, 64, 252, 511, 1023]
theorem bK.tab16 : jX .any (opsOf Tryd.f27 16) = bK.T16 := by kernel_rfl
theorem bK.NG : jK bK.T16.2 bK.B16 = true := by kernel_rfl
set_option maxHeartbeats 8000000 in
set_option maxRecDepth 100000 in
theorem bK.calls (k : Nat) : ∀ (g : Nat) (bV : List Int) (fC gp a1 r1 r2 r3 r4 : Int) (r5 : List (S24)) (r6 r7 : Int) (w0 w : World) (hI : bC w0 w g bV fC gp) (hB : Below w0.heap.size w0 w) (h : bK.f k bV fC gp a1 = some (r1, r2, r3, r4, r5, r6, r7)),
  Calls Tryd.prog 27 #[.pointer (some ⟨g, 0, none⟩), .int .i64 a1] w fun e w' => ∃ v4_ : Value, e = .returned (.agg #[.int .i64 r1, .int .i64 r2, .int .i64 r3, .int .i64 r4, v4_]) ∧ Kd.N k24 24 w' w.heap.size (fun k_ => (w.heap.size ≤ k_)) v4_ r5 ∧ bC w0 w' g bV r6 r7 ∧ Below w0.heap.size w0 w' ∧ aH w w' g none := by
 induction k using Nat.strongRecOn with
 | _ k ih =>
 intro g bV fC gp a1 r1 r2 r3 r4 r5 r6 r7 w0 w hI hB h; cases k with
 | zero => exact absurd h (by simp [bK.f])
 | succ k =>
 simp only [bK.f] at h; have HI0 := aa.mk hI; have HK := aa.mk (aH.refl w g none); have HL := aa.mk hB.size; clear hI; have HW0 := aa.mk hB.size; have HB := aa.mk hB; clear hB; have H : ((aA.f k bV fC gp a1).bind fun eO => ((bG.f bV eO.2.2.2.2.2.1 eO.2.2.2.2.2.2 10).bind fun iB => (if iB.1 = 0 then ((dC.f bV iB.2.1 iB.2.2 0 7).bind fun Ih => (some (Ih.1, eO.2.1, eO.2.2.1, eO.2.2.2.1, eO.2.2.2.2.1, Ih.2.1, Ih.2.2))) else (if iB.1 = 1 then ((dN.f bV iB.2.1 iB.2.2 (([(-1000), (-1001), 0, 5] : List Int))).bind fun yO => (some (eO.1, yO.1, eO.2.2.1, eO.2.2.2.1, eO.2.2.2.2.1, yO.2.1, yO.2.2))) else (if iB.1 = 2 then ((dN.f bV iB.2.1 iB.2.2 (([1000, 1001, 0, (-5)] : List Int))).bind fun yP => (some (eO.1, eO.2.1, yP.1, eO.2.2.2.1, eO.2.2.2.2.1, yP.2.1, yP.2.2))) else (if iB.1 = 3 then ((dN.f bV iB.2.1 iB.2.2 (([0, 4, 5] : List Int))).bind fun yQ => (some (eO.1, eO.2.1, eO.2.2.1, yQ.1, eO.2.2.2.2.1, yQ.2.1, yQ.2.2))) else (if iB.1 = 4 then ((aA.f k bV iB.2.1 iB.2.2 1).bind fun uk => (if eO.2.2.2.2.1.length < 2513169434916 then (some (eO.1, eO.2.1, eO.2.2.1, eO.2.2.2.1, (eO.2.2.2.2.1 ++ [(⟨uk.1, uk.2.1, uk.2.2.1, uk.2.2.2.1, uk.2.2.2.2.1⟩ : S24)]), uk.2.2.2.2.2.1, uk.2.2.2.2.2.2)) else (none))) else (if iB.1 = 5 then (if (eO.2.2.2.2.1.length : Int) > 0 then ((bG.f bV iB.2.1 iB.2.2 (eO.2.2.2.2.1.length : Int)).bind fun yR => ((bK.f k bV yR.2.1 yR.2.2 (wrap64 (a1 - 1))).bind fun um => (if 0 ≤ yR.1 then (if yR.1 < (eO.2.2.2.2.1.length : Int) then (some (eO.1, eO.2.1, eO.2.2.1, eO.2.2.2.1, (eO.2.2.2.2.1.set (yR.1 : Int).toNat (⟨um.1, um.2.1, um.2.2.1, um.2.2.2.1, um.2.2.2.2.1⟩ : S24)), um.2.2.2.2.2.1, um.2.2.2.2.2.2)) else (none)) else (none)))) else (some (eO.1, eO.2.1, eO.2.2.1, eO.2.2.2.1, eO.2.2.2.2.1, iB.2.1, iB.2.2))) else (if iB.1 = 6 then ((dN.f bV iB.2.1 iB.2.2 (([3, 4] : List Int))).bind fun yS => (some (yS.1, 0, 0, 0, ([] : List (S24)), yS.2.1, yS.2.2))) else (some (eO.1, eO.2.1, eO.2.2.1, eO.2.2.2.1, eO.2.2.2.2.1, iB.2.1, iB.2.2))))))))))) = some (r1, r2, r3, r4, r5, r6, r7) := h; clear h; replace H := Option.bind_eq_some_iff.mp H; obtain ⟨⟨kF, kT, kU, kV, gK, Be, Bf⟩, A30, H⟩ := H; (try dsimp only at H)
 have A3 := aa.mk A30; clear A30; replace H := Option.bind_eq_some_iff.mp H; obtain ⟨⟨t612, yT, yU⟩, A40, H⟩ := H; (try dsimp only at H)
 have A4 := aa.mk A40; clear A40; by_cases c5 : t612 = 0
 focus
  rw [if_pos c5] at H; obtain ⟨rH, c5b1⟩ := bq_ c5; clear c5; replace H := Option.bind_eq_some_iff.mp H; obtain ⟨⟨t615, t616, t617⟩, A60, H⟩ := H; (try dsimp only at H)
  have A6 := aa.mk A60; clear A60
 rotate_left
 focus
  rw [if_neg c5] at H; obtain ⟨rH, c5b1⟩ := bn_ c5; by_cases c19 : t612 = 1
  focus
   rw [if_pos c19] at H; obtain ⟨GH, M7⟩ := bq_ c19; clear c19; obtain ⟨y618, hy618⟩ : ∃ y_ : List Int, y_ = (([(-1000), (-1001), 0, 5] : List Int)) := ⟨_, rfl⟩; replace H : ((dN.f bV yT yU y618).bind fun yO => (some (kF, yO.1, kU, kV, gK, yO.2.1, yO.2.2))) = some (r1, r2, r3, r4, r5, r6, r7) := by (rw [hy618]; with_reducible exact H)
   have Ny618 := aa.mk hy618; clear hy618; replace H := Option.bind_eq_some_iff.mp H; obtain ⟨⟨t621, t622, t623⟩, A200, H⟩ := H; (try dsimp only at H)
   have A20 := aa.mk A200; clear A200
  rotate_left
  focus
   rw [if_neg c19] at H; obtain ⟨GH, M7⟩ := bn_ c19; by_cases c36 : t612 = 2
   focus
    rw [if_pos c36] at H; obtain ⟨GI, c36b1⟩ := bq_ c36; clear c36; obtain ⟨y624, hy624⟩ : ∃ y_ : List Int, y_ = (([1000, 1001, 0, (-5)] : List Int)) := ⟨_, rfl⟩; replace H : ((dN.f bV yT yU y624).bind fun yP => (some (kF, kT, yP.1, kV, gK, yP.2.1, yP.2.2))) = some (r1, r2, r3, r4, r5, r6, r7) := by (rw [hy624]; with_reducible exact H)
    have Ny624 := aa.mk hy624; clear hy624; replace H := Option.bind_eq_some_iff.mp H; obtain ⟨⟨t627, t628, t629⟩, A370, H⟩ := H; (try dsimp only at H)
    have A37 := aa.mk A370; clear A370
   rotate_left
   focus
    rw [if_neg c36] at H; obtain ⟨GI, c36b1⟩ := bn_ c36; by_cases c53 : t612 = 3
    focus
     rw [if_pos c53] at H; obtain ⟨c53b0, c53b1⟩ := bq_ c53; clear c53; obtain ⟨y630, hy630⟩ : ∃ y_ : List Int, y_ = (([0, 4, 5] : List Int)) := ⟨_, rfl⟩; replace H : ((dN.f bV yT yU y630).bind fun yQ => (some (kF, kT, kU, yQ.1, gK, yQ.2.1, yQ.2.2))) = some (r1, r2, r3, r4, r5, r6, r7) := by (rw [hy630]; with_reducible exact H)
     have Ny630 := aa.mk hy630; clear hy630; replace H := Option.bind_eq_some_iff.mp H; obtain ⟨⟨t633, t634, t635⟩, A540, H⟩ := H; (try dsimp only at H)
     have A54 := aa.mk A540; clear A540
    rotate_left
    focus
     rw [if_neg c53] at H; obtain ⟨c53b0, c53b1⟩ := bn_ c53; by_cases c70 : t612 = 4
     rotate_left
     ·rw [if_neg c70] at H; obtain ⟨c70b0, c70b1⟩ := bn_ c70; by_cases c90 : t612 = 5
      ·rw [if_pos c90] at H; obtain ⟨c90b0, c90b1⟩ := bq_ c90; clear c90; by_cases c91 : (gK.length : Int) > 0
       focus
        rw [if_pos c91] at H; have c91b1 : decide (0 < gK.length) = true := decide_eq_true (by omega); clear c91; replace H := Option.bind_eq_some_iff.mp H; obtain ⟨⟨iL, t649, t650⟩, A920, H⟩ := H; (try dsimp only at H)
        have A92 := aa.mk A920; clear A920; replace H := Option.bind_eq_some_iff.mp H; obtain ⟨⟨Bg, Bh, Bi, Bj, z8, t658, t659⟩, A930, H⟩ := H; (try dsimp only at H)
        have A93 := aa.mk A930; clear A930; by_cases c94 : 0 ≤ iL
        rotate_left
        ·rw [if_neg c94] at H; exact absurd H (by simp)
        rw [if_pos c94] at H; have c94b0 := decide_eq_true c94; clear c94; by_cases c95 : iL < (gK.length : Int)
        rotate_left
        ·rw [if_neg c95] at H; exact absurd H (by simp)
        rw [if_pos c95] at H; have c95b0 := decide_eq_true c95; clear c95; obtain ⟨y660, hy660⟩ : ∃ y_ : List (S24), y_ = (gK.set (iL : Int).toNat (⟨Bg, Bh, Bi, Bj, z8⟩ : S24)) := ⟨_, rfl⟩; replace H : (some (kF, kT, kU, kV, y660, t658, t659)) = some (r1, r2, r3, r4, r5, r6, r7) := by (rw [hy660]; with_reducible exact H)
        have Ny660 := aa.mk hy660; clear hy660
       rotate_left
       focus
        rw [if_neg c91] at H; have c91b1 : decide (0 < gK.length) = false := decide_eq_false (by omega); clear c91
       rotate_left
       all_goals
        simp only [Option.some.injEq, Prod.mk.injEq] at H; obtain ⟨rfl, rfl, rfl, rfl, rfl, rfl, rfl⟩ := H; go_enter Tryd.func27, Tryd.ntmps27; try go_wp2_with (first | ((with_reducible refine aM (N := 4) rfl ?_); refine oU ?hg (N := 4) ?hd (cs := (t5_ 0 0 0 0 none 0 0)) (t := 24) ?hr ?_; (case hd => rfl); (case hg => rfl); (case hr => (go_simp; done)); intro bZ hg w97 nN hb; have iq := aa.mk (nN); have yV := aa.mk ((by rw [hg]; exact (dM (w := w) (g := g) (row := none) kp_) : w.heap.size ≤ bZ)); have GE601 := aa.mk ((Nat.le_trans HW0.out (by rw [hg]; exact (dM (w := w) (g := g) (row := none) kp_) : w.heap.size ≤ bZ) : w0.heap.size ≤ bZ)); have Aa := aa.mk ((by rw [hg]; exact Nat.ne_of_lt (bC.lt (show bC w0 _ g bV fC gp from si_)) : g ≠ bZ)); have lG := aa.mk ((by rw [hg]; exact Nat.ne_of_gt (bC.lt (show bC w0 _ g bV fC gp from si_)) : bZ ≠ g)); replace HI0 := aa.mk (bC.below si_ hb); replace HK := aa.mk (aH.trans (kp_ (w := w)) (aH.of_below hb g none) (.inl rfl)); replace HB := aa.mk (ax bl_ hb); clear hb nN hg) | ((with_reducible refine ay (f := 15) rfl ?_); refine gl_ (some 9) Tryd.func15 #[.pointer (some ⟨g, 0, none⟩), .int .i64 a1] ?_; (with_reducible refine (aA.calls k g bV fC gp a1 kF kT kU kV gK Be Bf w0 _ ?au ?av A3.out).mono ?_); (case au => exact si_); (case av => exact bl_); rintro e w98 ⟨v607, rfl, ho0, hi, hb, hk⟩; refine ⟨_, rfl, ?_⟩; have fw := aa.mk (Kd.rT (Kd.dG (ok' := fun k_ => (w.heap.size ≤ k_) ∧ k_ ≠ bZ ∧ k_ ≠ g) ho0 (fun k_ hk_ => ⟨(Nat.le_trans (dM (w := w) (g := g) (row := none) kp_) hk_), (Kd.fo (g := bZ) (o := .cells (t5_ 0 0 0 0 none 0 0) 24 (0, 0)) bk_ k_ hk_), (bC.fresh si_ k_ hk_)⟩)) (dM (w := w) (g := g) (row := none) kp_)); replace iq := aa.mk (aH.blk hk (g' := bZ) (o := .cells (t5_ 0 0 0 0 none 0 0) 24 (0, 0)) bk_ lG.out (by simp)); replace HK := aa.mk (aH.trans (kp_ (w := w)) hk (.inl rfl)); replace HB := aa.mk (hb); replace HI0 := aa.mk (hi)) | ((with_reducible refine aM (N := 5) rfl ?_); refine oU ?hg (N := 5) ?hd (cs := (t5_ 0 0 0 0 none 0 0)) (t := 24) ?hr ?_; (case hd => rfl); (case hg => rfl); (case hr => (go_simp; done)); intro dV hg w99 nN hb; have fA := aa.mk (nN); have Ii := aa.mk ((by rw [hg]; exact (dM (w := w) (g := g) (row := none) kp_) : w.heap.size ≤ dV)); have GE611 := aa.mk ((Nat.le_trans HW0.out (by rw [hg]; exact (dM (w := w) (g := g) (row := none) kp_) : w.heap.size ≤ dV) : w0.heap.size ≤ dV)); have Jl := nl_ iq hg; have QG := aa.mk ((by rw [hg]; exact Nat.ne_of_lt (bC.lt (show bC w0 _ g bV Be Bf from si_)) : g ≠ dV)); have qo := aa.mk ((by rw [hg]; exact Nat.ne_of_gt (bC.lt (show bC w0 _ g bV Be Bf from si_)) : dV ≠ g)); replace fw := aa.mk (Kd.yZ (Kd.LU (pN_ fw.out) dV (Nat.le_of_eq hg.symm)) hb); replace HI0 := aa.mk (bC.below si_ hb); replace iq := kb_ iq hb; replace HK := aa.mk (aH.trans (kp_ (w := w)) (aH.of_below hb g none) (.inl rfl)); replace HB := aa.mk (ax bl_ hb); clear hb nN hg; obtain ⟨hcz102_0, RN, hcz102_2, hcz102_3, hcz102_4, hfz102_0, hfz102_1, hfz102_2, hfz102_3, hfz102_4⟩ := bE fA.out; obtain ⟨BM, rE, eo103⟩ := Kd.oC fw.out; subst eo103) | ((with_reducible refine ay (f := 20) rfl ?_); refine gl_ (some 11) Tryd.func20 #[.pointer (some ⟨g, 0, none⟩), .int .i64 10] ?_; (with_reducible refine (bG.calls g bV Be Bf 10 t612 yT yU w0 _ ?au ?av A4.out).mono ?_); (case au => exact si_); (case av => exact bl_); rintro e w104 ⟨rfl, hi, hb, hk⟩; refine ⟨_, rfl, ?_⟩; replace iq := aa.mk (aH.blk hk (g' := bZ) (o := .cells (t5_ 0 0 0 0 none 0 0) 24 (0, 0)) b5_ lG.out (by simp)); replace fw := aa.mk (Kd.dG (Kd.uu (Kd.dG (ok := fun k_ => ((((w.heap.size ≤ k_)) ∧ (k_ ≠ bZ ∧ k_ ≠ g)) ∧ k_ ≠ dV)) (by exact (Kd.dG (Kd.fq (p := ⟨dV, 4, none⟩) (Kd.fq (p := ⟨dV, 3, none⟩) (Kd.fq (p := ⟨dV, 2, none⟩) (Kd.fq (p := ⟨dV, 1, none⟩) (Kd.fq (p := ⟨dV, 0, none⟩) (Kd.dG fw.out (fun k_ hk => (⟨hk, by exact hk.2⟩ : _ ∧ k_ ≠ dV))) (fun _ hk => hk.2) (.int .i64 kF)) (fun _ hk => hk.2) (.int .i64 kT)) (fun _ hk => hk.2) (.int .i64 kU)) (fun _ hk => hk.2) (.int .i64 kV)) (fun _ hk => hk.2) (.slice BM gK.length rE)) (fun _ h_ => h_.1))) (fun k_ hk_ => (⟨hk_, hk_.1.2.2⟩ : _ ∧ k_ ≠ g))) hk (fun _ h => h.2)) (fun _ h => h.1)); replace fA := aa.mk (aH.blk hk (g' := dV) (o := .cells (t5_ kF kT kU kV BM gK.length rE) 24 (0, 0)) b5_ qo.out (by simp)); replace HK := aa.mk (aH.trans (kp_ (w := w)) hk (.inl rfl)); replace HB := aa.mk (hb); replace HI0 := aa.mk (hi); obtain ⟨hcz105_0, hcz105_1, hcz105_2, hcz105_3, hcz105_4, _, _, _, _, _⟩ := bE fA.out; (try (obtain ⟨hcz124_0, hcz124_1, hcz124_2, hcz124_3, hcz124_4, hfz124_0, hfz124_1, hfz124_2, hfz124_3, hfz124_4⟩ := bE iq.out))))
       ·replace fw := aa.mk (Kd.Iy fw.out); replace iq := aa.mk (dz iq.out); replace fA := aa.mk (dz fA.out); replace HI0 := aa.mk (bC.drew HI0.out); replace HK := aa.mk (uU HK.out); replace HB := aa.mk (eX HB.out); refine kL (n := 11) (S := fun w' => w'.cell? ⟨dV, 0, none⟩ = some (.int .i64 kF) ∧ w'.cell? ⟨dV, 1, none⟩ = some (.int .i64 kT) ∧ w'.cell? ⟨dV, 2, none⟩ = some (.int .i64 kU) ∧ w'.cell? ⟨dV, 3, none⟩ = some (.int .i64 kV) ∧ w'.cell? ⟨dV, 4, none⟩ = some (.slice BM gK.length rE)) (ds := [10]) #[false, false, false, false, false, false, false, false, false, false, false] (by kernel_rfl) rfl rfl ⟨ci_ fA, ci_ fA, ci_ fA, ci_ fA, ci_ fA⟩ (fun hHeld => ?_); refine iG bK.tab16 bK.NG (fun HT_ HW_ => ?_)
        generalize w104.drew = w106 at fw iq fA HI0 HK HB hHeld ⊢
        refine pu_ HT_ 0 51 (bm 11 1) ?_
        refine pu_ HT_ 2 53 (bm 11 5) ?_
        refine pu_ HT_ 3 54 (bm 11 13) ?_
        refine pu_ HT_ 5 56 (bm 11 45) ?_
        refine pu_ HT_ 6 57 (bm 11 109) ?_
        refine pu_ HT_ 7 58 (bm 11 237) ?_
        refine ta_ HT_ HW_ 1 52 (bm 11 239) hHeld ?_
        refine jW (i := 4) (N := some 55) #[true, true, true, true, true, true, true, true, false, false, false] rfl rfl (fB HT_.out (by kernel_rfl)) (by decide) (fun K hK => ?_)
        refine mf Tryd.func20 (by kernel_rfl) rfl #[.pointer (some ⟨g, 0, none⟩), .int .i64 (gK.length : Int)] (by rfl) rfl rfl mp_ ?_
        with_reducible refine (bG.calls g bV yT yU (gK.length : Int) iL t649 t650 w0 _ ?au ?av A92.out).mono ?_
        (case au => exact si_)
        (case av => exact bl_)
        rintro e w107 ⟨rfl, hi, hb, hk⟩
        refine ⟨_, rfl, ?_⟩
        replace iq := aa.mk (aH.blk hk (g' := bZ) (o := .cells (t5_ 0 0 0 0 none 0 0) 24 (0, 0)) bk_ lG.out (by simp)); replace fw := aa.mk (Kd.dG (Kd.uu (Kd.dG (ok := fun k_ => ((((w.heap.size ≤ k_)) ∧ (k_ ≠ bZ ∧ k_ ≠ g)) ∧ k_ ≠ dV)) (pN_ fw.out) (fun k_ hk_ => (⟨hk_, hk_.1.2.2⟩ : _ ∧ k_ ≠ g))) hk (fun _ h => h.2)) (fun _ h => h.1)); replace fA := aa.mk (aH.blk hk (g' := dV) (o := .cells (t5_ kF kT kU kV BM gK.length rE) 24 (0, 0)) bk_ qo.out (by simp)); replace HK := aa.mk (aH.trans (kp_ (w := w)) hk (.inl rfl)); replace HB := aa.mk (hb); replace HI0 := aa.mk (hi); refine hK.out _ _ ⟨ci_ fA, ci_ fA, ci_ fA, ci_ fA, ci_ fA⟩ (fun hHeld => ?_)
        clear hK K; refine jd (a' := ?_) ?_ ?_
        rotate_left
        ·show Act.put _ (some 55) _ = _
         simp only [Act.put, List.setIfInBounds_toArray, List.set_cons_zero, List.set_cons_succ, gM, iE]; rfl
        refine jW (i := 8) (N := some 59) #[true, true, true, true, true, true, true, true, true, false, false] rfl rfl (fB HT_.out (by kernel_rfl)) (by decide) (fun K hK => ?_)
        refine mf Tryd.func27 (by kernel_rfl) rfl #[.pointer (some ⟨g, 0, none⟩), .int .i64 (wrap64 (a1 - 1))] (by rfl) rfl rfl mp_ ?_
        with_reducible refine (ih k (by omega) g bV t649 t650 (wrap64 (a1 - 1)) Bg Bh Bi Bj z8 t658 t659 w0 _ ?au ?av A93.out).mono ?_
        (case au => exact si_)
        (case av => exact bl_)
        rintro e w108 ⟨v656, rfl, ho0, hi, hb, hk⟩
        refine ⟨_, rfl, ?_⟩
        have HO657 := aa.mk (Kd.rT (Kd.dG (ok' := fun k_ => (w.heap.size ≤ k_) ∧ some k_ ≠ (.slice BM gK.length rE : Value).ownBlock ∧ k_ ≠ bZ ∧ k_ ≠ dV ∧ k_ ≠ g) ho0 (fun k_ hk_ => ⟨(Nat.le_trans (dM (w := w) (g := g) (row := none) kp_) hk_), (Kd.fresh' (Kd.N_lt (pN_ fw.out)) k_ hk_), (Kd.fo (g := bZ) (o := .cells (t5_ 0 0 0 0 none 0 0) 24 (0, 0)) bk_ k_ hk_), (Kd.fo (g := dV) (o := .cells (t5_ kF kT kU kV BM gK.length rE) 24 (0, 0)) bk_ k_ hk_), (bC.fresh si_ k_ hk_)⟩)) (dM (w := w) (g := g) (row := none) kp_)); replace iq := aa.mk (aH.blk hk (g' := bZ) (o := .cells (t5_ 0 0 0 0 none 0 0) 24 (0, 0)) bk_ lG.out (by simp)); replace fw := aa.mk (Kd.dG (Kd.RH (Kd.RG (Kd.dG (ok := fun k_ => ((((w.heap.size ≤ k_)) ∧ (k_ ≠ bZ ∧ k_ ≠ g)) ∧ k_ ≠ dV)) (pN_ fw.out) (fun k_ hk_ => (⟨hk_, hk_.1.2.2⟩ : _ ∧ k_ ≠ g))) hk) (by exact Kd.RF ho0)) (fun _ h_ => h_.1)); replace fA := aa.mk (aH.blk hk (g' := dV) (o := .cells (t5_ kF kT kU kV BM gK.length rE) 24 (0, 0)) bk_ qo.out (by simp)); replace HK := aa.mk (aH.trans (kp_ (w := w)) hk (.inl rfl)); replace HB := aa.mk (hb); replace HI0 := aa.mk (hi); obtain ⟨Aq_, cq_, eq_⟩ := Kd.oC HO657.out; subst eq_; have p96 : 0 ≤ (iL : Int) := dt_; have q96 : (iL : Int) < ((gK.length : Int) : Int) := dt_; obtain ⟨ji, co96, eo96, gb96, _, cl96, _⟩ := Kd.N_form fw.out (by omega); (cases eo96)
        have GB96 := aa.mk gb96; clear gb96; obtain ⟨ce96, hcl96, hM96, Lm, Lp⟩ := Kd.N_elem fw.out z24 (iL : Int) p96 q96; obtain ⟨ua96_4, uc96_4, rfl, _, _⟩ := DC hM96; have hx96_0 : World.cell? _ ⟨ji, (iL : Int).toNat * 5, none⟩ = some (.int .i64 ((ag gK iL).f0)) := Lm 0 _ rfl; have hx96_1 : World.cell? _ ⟨ji, (iL : Int).toNat * 5 + 1, none⟩ = some (.int .i64 ((ag gK iL).f1)) := Lm 1 _ rfl; have hx96_2 : World.cell? _ ⟨ji, (iL : Int).toNat * 5 + 2, none⟩ = some (.int .i64 ((ag gK iL).f2)) := Lm 2 _ rfl; have hx96_3 : World.cell? _ ⟨ji, (iL : Int).toNat * 5 + 3, none⟩ = some (.int .i64 ((ag gK iL).f3)) := Lm 3 _ rfl; have hx96_4 : World.cell? _ ⟨ji, (iL : Int).toNat * 5 + 4, none⟩ = some (.slice ua96_4 ((ag gK iL).f4).length uc96_4) := Lm 4 _ rfl; have hf96_0 : World.frozen? _ ⟨ji, (iL : Int).toNat * 5, none⟩ = false := Lp 0; have hf96_1 : World.frozen? _ ⟨ji, (iL : Int).toNat * 5 + 1, none⟩ = false := Lp 1; have hf96_2 : World.frozen? _ ⟨ji, (iL : Int).toNat * 5 + 2, none⟩ = false := Lp 2; have hf96_3 : World.frozen? _ ⟨ji, (iL : Int).toNat * 5 + 3, none⟩ = false := Lp 3; have hf96_4 : World.frozen? _ ⟨ji, (iL : Int).toNat * 5 + 4, none⟩ = false := Lp 4; clear hcl96 Lm Lp hM96; replace p96 := eq_true p96; replace q96 := eq_true q96; have HN0_go96 := aa.mk (show g ≠ ji from by have h_ := bC.OE HI0.out fw.out (by decide); intro e_; exact h_ (by rw [e_]; rfl)); have HX109 := aa.mk (show Kd.N k24 24 _ w.heap.size (fun k_ => (w.heap.size ≤ k_) ∧ some k_ ≠ (.slice Aq_ z8.length cq_ : Value).ownBlock ∧ k_ ≠ bZ ∧ k_ ≠ dV ∧ k_ ≠ g) (.slice (some ⟨ji, 0, none⟩) gK.length rE) gK from (Kd.dG (fw.out) (fun k_ hk => ⟨hk.1.1.1, ⟨hk.2, ⟨hk.1.1.2.1, ⟨hk.1.2, hk.1.1.2.2⟩⟩⟩⟩))); replace HX109 := aa.mk (show Kd.N k24 24 _ w.heap.size (fun k_ => (w.heap.size ≤ k_) ∧ k_ ≠ bZ ∧ k_ ≠ dV ∧ k_ ≠ g) (.slice (some ⟨ji, 0, none⟩) gK.length rE) gK from Kd.dG HX109.out (fun k_ hk => ⟨hk.1, ⟨hk.2.2.1, ⟨hk.2.2.2.1, hk.2.2.2.2⟩⟩⟩)); obtain ⟨ce109, hcl109, hM109, hcc109, _⟩ := Kd.N_elem HX109.out z24 (iL : Int) (dt_) (by have h_ : (iL : Int) < ((gK.length : Int) : Int) := dt_; exact h_); obtain ⟨ua109_4, uc109_4, rfl, _, _⟩ := DC hM109; have HP109 := (Kd.N_seg HX109.out (iL : Int) (dt_) (by have h_ : (iL : Int) < ((gK.length : Int) : Int) := dt_; exact h_) (seg := [.int .i64 Bg, .int .i64 Bh, .int .i64 Bi, .int .i64 Bj, (.slice Aq_ z8.length cq_ : Value)]) (j := 0) hcl109 hcc109 (show 5 ≤ 5 from by decide) (x' := (⟨Bg, Bh, Bi, Bj, z8⟩ : S24)) (Js _ _ (⟨Bg, Bh, Bi, Bj, z8⟩ : S24) (Kd.tL (Kd.dG (ok' := (fun k_ => ((fun k_ => (w.heap.size ≤ k_) ∧ k_ ≠ bZ ∧ k_ ≠ dV ∧ k_ ≠ g)) k_ ∧ k_ ≠ ji)) (HO657.out) (fun k_ (hk : (w.heap.size ≤ k_) ∧ some k_ ≠ (.slice (some ⟨ji, 0, none⟩) gK.length rE : Value).ownBlock ∧ k_ ≠ bZ ∧ k_ ≠ dV ∧ k_ ≠ g) => ⟨⟨hk.1, ⟨hk.2.2.1, ⟨hk.2.2.2.1, hk.2.2.2.2⟩⟩⟩, fun e_ => (hk.2.1) (by rw [e_]; rfl)⟩))).2.1 (Kd.N_F (Kd.dG (ok' := (fun k_ => ((fun k_ => (w.heap.size ≤ k_) ∧ k_ ≠ bZ ∧ k_ ≠ dV ∧ k_ ≠ g)) k_ ∧ k_ ≠ ji)) (HO657.out) (fun k_ (hk : (w.heap.size ≤ k_) ∧ some k_ ≠ (.slice (some ⟨ji, 0, none⟩) gK.length rE : Value).ownBlock ∧ k_ ≠ bZ ∧ k_ ≠ dV ∧ k_ ≠ g) => ⟨⟨hk.1, ⟨hk.2.2.1, ⟨hk.2.2.2.1, hk.2.2.2.2⟩⟩⟩, fun e_ => (hk.2.1) (by rw [e_]; rfl)⟩)))) (fun _ hk => hk)).1
        rw [← Ny660.out] at HP109; have HQ109 := aa.mk HP109; clear hcl109 hcc109 hM109 HP109; refine hK.out _ _ ⟨ci_ fA, ci_ fA, ci_ fA, ci_ fA, ci_ fA⟩ (fun hHeld => ?_)
        clear hK K; refine jd (a' := ?_) ?_ ?_
        rotate_left
        ·show Act.put _ (some 59) _ = _
         simp only [Act.put, List.setIfInBounds_toArray, List.set_cons_zero, List.set_cons_succ, gM, iE]; rfl
        refine pu_ HT_ 9 60 (bm 11 1023) ?_
        refine tJ (i := 10) (N := none) #[true, true, true, true, true, true, true, true, true, true, true] rfl rfl (fB HT_.out (by kernel_rfl)) (by decide) (fun K hK => ?_)
        refine qB (w1 := ?_) (by rfl) rfl ?_ ?_
        rotate_left
        ·go_simp; rfl
        refine hK.out _ _ ?_
        clear hK K; refine mH (jT HT_.out (by kernel_rfl)) ?_
        have n0_ : aa (Kd.N k24 24 (((((w108.setCell ⟨ji, (iL : Int).toNat * 5, none⟩ (.int .i64 Bg)).setCell ⟨ji, (iL : Int).toNat * 5 + 1, none⟩ (.int .i64 Bh)).setCell ⟨ji, (iL : Int).toNat * 5 + 2, none⟩ (.int .i64 Bi)).setCell ⟨ji, (iL : Int).toNat * 5 + 3, none⟩ (.int .i64 Bj)).setCell ⟨ji, (iL : Int).toNat * 5 + 4, none⟩ ((.slice Aq_ z8.length cq_ : Value))) w.heap.size (fun k_ => (w.heap.size ≤ k_) ∧ k_ ≠ bZ ∧ k_ ≠ g ∧ k_ ≠ dV) (.slice (some ⟨ji, 0, none⟩) gK.length rE) y660) := ⟨by exact Kd.dG HQ109.out (fun _ hk => ⟨hk.1, ⟨hk.2.1, ⟨hk.2.2.2, hk.2.2.1⟩⟩⟩)⟩; have n1_ : aa ((((((w108.setCell ⟨ji, (iL : Int).toNat * 5, none⟩ (.int .i64 Bg)).setCell ⟨ji, (iL : Int).toNat * 5 + 1, none⟩ (.int .i64 Bh)).setCell ⟨ji, (iL : Int).toNat * 5 + 2, none⟩ (.int .i64 Bi)).setCell ⟨ji, (iL : Int).toNat * 5 + 3, none⟩ (.int .i64 Bj)).setCell ⟨ji, (iL : Int).toNat * 5 + 4, none⟩ ((.slice Aq_ z8.length cq_ : Value))).heap[bZ]? = some (.cells (t5_ 0 0 0 0 none 0 0) 24 (0, 0))) := ⟨by refine bP ?_ (by have h_ := Kd.qW fw.out (fun _ hk => hk.1.1.2.1); intro e_; exact h_ (by rw [e_]; rfl)) _; refine bP ?_ (by have h_ := Kd.qW fw.out (fun _ hk => hk.1.1.2.1); intro e_; exact h_ (by rw [e_]; rfl)) _; refine bP ?_ (by have h_ := Kd.qW fw.out (fun _ hk => hk.1.1.2.1); intro e_; exact h_ (by rw [e_]; rfl)) _; refine bP ?_ (by have h_ := Kd.qW fw.out (fun _ hk => hk.1.1.2.1); intro e_; exact h_ (by rw [e_]; rfl)) _; refine bP ?_ (by have h_ := Kd.qW fw.out (fun _ hk => hk.1.1.2.1); intro e_; exact h_ (by rw [e_]; rfl)) _; exact iq.out⟩; have n2_ : aa ((((((w108.setCell ⟨ji, (iL : Int).toNat * 5, none⟩ (.int .i64 Bg)).setCell ⟨ji, (iL : Int).toNat * 5 + 1, none⟩ (.int .i64 Bh)).setCell ⟨ji, (iL : Int).toNat * 5 + 2, none⟩ (.int .i64 Bi)).setCell ⟨ji, (iL : Int).toNat * 5 + 3, none⟩ (.int .i64 Bj)).setCell ⟨ji, (iL : Int).toNat * 5 + 4, none⟩ ((.slice Aq_ z8.length cq_ : Value))).heap[dV]? = some (.cells (t5_ kF kT kU kV (some ⟨ji, 0, none⟩) gK.length rE) 24 (0, 0))) := ⟨by refine bP ?_ (by have h_ := Kd.qW fw.out (fun _ hk => hk.1.2); intro e_; exact h_ (by rw [e_]; rfl)) _; refine bP ?_ (by have h_ := Kd.qW fw.out (fun _ hk => hk.1.2); intro e_; exact h_ (by rw [e_]; rfl)) _; refine bP ?_ (by have h_ := Kd.qW fw.out (fun _ hk => hk.1.2); intro e_; exact h_ (by rw [e_]; rfl)) _; refine bP ?_ (by have h_ := Kd.qW fw.out (fun _ hk => hk.1.2); intro e_; exact h_ (by rw [e_]; rfl)) _; refine bP ?_ (by have h_ := Kd.qW fw.out (fun _ hk => hk.1.2); intro e_; exact h_ (by rw [e_]; rfl)) _; exact fA.out⟩; have n3_ : aa (bC w0 (((((w108.setCell ⟨ji, (iL : Int).toNat * 5, none⟩ (.int .i64 Bg)).setCell ⟨ji, (iL : Int).toNat * 5 + 1, none⟩ (.int .i64 Bh)).setCell ⟨ji, (iL : Int).toNat * 5 + 2, none⟩ (.int .i64 Bi)).setCell ⟨ji, (iL : Int).toNat * 5 + 3, none⟩ (.int .i64 Bj)).setCell ⟨ji, (iL : Int).toNat * 5 + 4, none⟩ ((.slice Aq_ z8.length cq_ : Value))) g bV t658 t659) := ⟨si_⟩
        have n4_ : aa (aH w (((((w108.setCell ⟨ji, (iL : Int).toNat * 5, none⟩ (.int .i64 Bg)).setCell ⟨ji, (iL : Int).toNat * 5 + 1, none⟩ (.int .i64 Bh)).setCell ⟨ji, (iL : Int).toNat * 5 + 2, none⟩ (.int .i64 Bi)).setCell ⟨ji, (iL : Int).toNat * 5 + 3, none⟩ (.int .i64 Bj)).setCell ⟨ji, (iL : Int).toNat * 5 + 4, none⟩ ((.slice Aq_ z8.length cq_ : Value))) g none) := ⟨by repeat (with_reducible first | exact HK.out | refine iD ?_ GB96.out _)⟩; have n5_ : aa (Below w0.heap.size w0 (((((w108.setCell ⟨ji, (iL : Int).toNat * 5, none⟩ (.int .i64 Bg)).setCell ⟨ji, (iL : Int).toNat * 5 + 1, none⟩ (.int .i64 Bh)).setCell ⟨ji, (iL : Int).toNat * 5 + 2, none⟩ (.int .i64 Bi)).setCell ⟨ji, (iL : Int).toNat * 5 + 3, none⟩ (.int .i64 Bj)).setCell ⟨ji, (iL : Int).toNat * 5 + 4, none⟩ ((.slice Aq_ z8.length cq_ : Value)))) := ⟨jv (jv (jv (jv (jv HB.out (Nat.le_trans HL.out GB96.out)) (Nat.le_trans HL.out GB96.out)) (Nat.le_trans HL.out GB96.out)) (Nat.le_trans HL.out GB96.out)) (Nat.le_trans HL.out GB96.out)⟩; generalize (((((w108.setCell ⟨ji, (iL : Int).toNat * 5, none⟩ (.int .i64 Bg)).setCell ⟨ji, (iL : Int).toNat * 5 + 1, none⟩ (.int .i64 Bh)).setCell ⟨ji, (iL : Int).toNat * 5 + 2, none⟩ (.int .i64 Bi)).setCell ⟨ji, (iL : Int).toNat * 5 + 3, none⟩ (.int .i64 Bj)).setCell ⟨ji, (iL : Int).toNat * 5 + 4, none⟩ ((.slice Aq_ z8.length cq_ : Value))) = w110 at n0_ n1_ n2_ n3_ n4_ n5_ ⊢
        have fw := n0_; have iq := n1_; have fA := n2_; have HI0 := n3_; have HK := n4_; have HB := n5_; clear n0_ n1_ n2_ n3_ n4_ n5_; obtain ⟨Ta, Tc, hcz111_2, hcz111_3, hcz111_4, _, _, _, _, _⟩ := bE fA.out; obtain ⟨hcz113_0, hcz113_1, hcz113_2, hcz113_3, hcz113_4, hfz113_0, hfz113_1, hfz113_2, hfz113_3, hfz113_4⟩ := bE iq.out; try go_wp2
        refine bodyPost_ret (results_cell_row rfl _ _ bZ 24 (t5_ kF kT kU kV (some ⟨ji, 0, none⟩) gK.length rE) (0, 0) _ rfl b5_ Tryd.underlying24 rfl (by kernel_rfl)) rfl ?_
        exact ⟨_, re_, by exact Kd.dG (Kd.fq (p := ⟨bZ, 4, none⟩) (Kd.fq (p := ⟨bZ, 3, none⟩) (Kd.fq (p := ⟨bZ, 2, none⟩) (Kd.fq (p := ⟨bZ, 1, none⟩) (Kd.fq (p := ⟨bZ, 0, none⟩) (Kd.dG fw.out (fun k_ hk => (⟨hk, by exact hk.2.1⟩ : _ ∧ k_ ≠ bZ))) (fun _ hk => hk.2) (.int .i64 kF)) (fun _ hk => hk.2) (.int .i64 kT)) (fun _ hk => hk.2) (.int .i64 kU)) (fun _ hk => hk.2) (.int .i64 kV)) (fun _ hk => hk.2) (.slice (some ⟨ji, 0, none⟩) gK.length rE)) (fun _ hk => hk.1.1), si_, bl_, by repeat (with_reducible first | exact HK.out | refine iD ?_ yV.out _)⟩
       ·refine bodyPost_ret (results_cell_row rfl _ _ bZ 24 (t5_ kF kT kU kV BM gK.length rE) (0, 0) _ rfl b5_ Tryd.underlying24 rfl (by kernel_rfl)) rfl ?_
        exact ⟨_, re_, by exact Kd.dG (Kd.fq (p := ⟨bZ, 4, none⟩) (Kd.fq (p := ⟨bZ, 3, none⟩) (Kd.fq (p := ⟨bZ, 2, none⟩) (Kd.fq (p := ⟨bZ, 1, none⟩) (Kd.fq (p := ⟨bZ, 0, none⟩) (Kd.dG fw.out (fun k_ hk => (⟨hk, by exact hk.1.2.1⟩ : _ ∧ k_ ≠ bZ))) (fun _ hk => hk.2) (.int .i64 kF)) (fun _ hk => hk.2) (.int .i64 kT)) (fun _ hk => hk.2) (.int .i64 kU)) (fun _ hk => hk.2) (.int .i64 kV)) (fun _ hk => hk.2) (.slice BM gK.length rE)) (fun _ hk => hk.1.1.1), si_, bl_, by repeat (with_reducible first | exact HK.out | refine iD ?_ yV.out _)⟩
      ·rw [if_neg c90] at H; obtain ⟨c90b0, c90b1⟩ := bn_ c90; by_cases c125 : t612 = 6
       focus
        rw [if_pos c125] at H; obtain ⟨c125b0, c125b1⟩ := bq_ c125; clear c125; obtain ⟨y661, hy661⟩ : ∃ y_ : List Int, y_ = (([3, 4] : List Int)) := ⟨_, rfl⟩; replace H : ((dN.f bV yT yU y661).bind fun yS => (some (yS.1, 0, 0, 0, ([] : List (S24)), yS.2.1, yS.2.2))) = some (r1, r2, r3, r4, r5, r6, r7) := by (rw [hy661]; with_reducible exact H)
        have Ny661 := aa.mk hy661; clear hy661; replace H := Option.bind_eq_some_iff.mp H; obtain ⟨⟨t664, t665, t666⟩, A1260, H⟩ := H; (try dsimp only at H)
        have A126 := aa.mk A1260; clear A1260
       rotate_left
       focus
        rw [if_neg c125] at H; obtain ⟨c125b0, c125b1⟩ := bn_ c125
       rotate_left
       all_goals
        simp only [Option.some.injEq, Prod.mk.injEq] at H; obtain ⟨rfl, rfl, rfl, rfl, rfl, rfl, rfl⟩ := H; go_enter Tryd.func27, Tryd.ntmps27; go_wp2_with (first | ((with_reducible refine aM (N := 4) rfl ?_); refine oU ?hg (N := 4) ?hd (cs := (t5_ 0 0 0 0 none 0 0)) (t := 24) ?hr ?_; (case hd => rfl); (case hg => rfl); (case hr => (go_simp; done)); intro bZ hg w127 nN hb; have iq := aa.mk (nN); have yV := aa.mk ((by rw [hg]; exact (dM (w := w) (g := g) (row := none) kp_) : w.heap.size ≤ bZ)); have GE601 := aa.mk ((Nat.le_trans HW0.out (by rw [hg]; exact (dM (w := w) (g := g) (row := none) kp_) : w.heap.size ≤ bZ) : w0.heap.size ≤ bZ)); have Aa := aa.mk ((by rw [hg]; exact Nat.ne_of_lt (bC.lt (show bC w0 _ g bV fC gp from si_)) : g ≠ bZ)); have lG := aa.mk ((by rw [hg]; exact Nat.ne_of_gt (bC.lt (show bC w0 _ g bV fC gp from si_)) : bZ ≠ g)); replace HI0 := aa.mk (bC.below si_ hb); replace HK := aa.mk (aH.trans (kp_ (w := w)) (aH.of_below hb g none) (.inl rfl)); replace HB := aa.mk (ax bl_ hb); clear hb nN hg) | ((with_reducible refine ay (f := 15) rfl ?_); refine gl_ (some 9) Tryd.func15 #[.pointer (some ⟨g, 0, none⟩), .int .i64 a1] ?_; (with_reducible refine (aA.calls k g bV fC gp a1 kF kT kU kV gK Be Bf w0 _ ?au ?av A3.out).mono ?_); (case au => exact si_); (case av => exact bl_); rintro e w128 ⟨v607, rfl, ho0, hi, hb, hk⟩; refine ⟨_, rfl, ?_⟩; have fw := aa.mk (Kd.rT (Kd.dG (ok' := fun k_ => (w.heap.size ≤ k_) ∧ k_ ≠ bZ ∧ k_ ≠ g) ho0 (fun k_ hk_ => ⟨(Nat.le_trans (dM (w := w) (g := g) (row := none) kp_) hk_), (Kd.fo (g := bZ) (o := .cells (t5_ 0 0 0 0 none 0 0) 24 (0, 0)) bk_ k_ hk_), (bC.fresh si_ k_ hk_)⟩)) (dM (w := w) (g := g) (row := none) kp_)); replace iq := aa.mk (aH.blk hk (g' := bZ) (o := .cells (t5_ 0 0 0 0 none 0 0) 24 (0, 0)) bk_ lG.out (by simp)); replace HK := aa.mk (aH.trans (kp_ (w := w)) hk (.inl rfl)); replace HB := aa.mk (hb); replace HI0 := aa.mk (hi)) | ((with_reducible refine aM (N := 5) rfl ?_); refine oU ?hg (N := 5) ?hd (cs := (t5_ 0 0 0 0 none 0 0)) (t := 24) ?hr ?_; (case hd => rfl); (case hg => rfl); (case hr => (go_simp; done)); intro dV hg w129 nN hb; have fA := aa.mk (nN); have Ii := aa.mk ((by rw [hg]; exact (dM (w := w) (g := g) (row := none) kp_) : w.heap.size ≤ dV)); have GE611 := aa.mk ((Nat.le_trans HW0.out (by rw [hg]; exact (dM (w := w) (g := g) (row := none) kp_) : w.heap.size ≤ dV) : w0.heap.size ≤ dV)); have Jl := nl_ iq hg; have QG := aa.mk ((by rw [hg]; exact Nat.ne_of_lt (bC.lt (show bC w0 _ g bV Be Bf from si_)) : g ≠ dV)); have qo := aa.mk ((by rw [hg]; exact Nat.ne_of_gt (bC.lt (show bC w0 _ g bV Be Bf from si_)) : dV ≠ g)); replace fw := aa.mk (Kd.yZ (Kd.LU (pN_ fw.out) dV (Nat.le_of_eq hg.symm)) hb); replace HI0 := aa.mk (bC.below si_ hb); replace iq := kb_ iq hb; replace HK := aa.mk (aH.trans (kp_ (w := w)) (aH.of_below hb g none) (.inl rfl)); replace HB := aa.mk (ax bl_ hb); clear hb nN hg; obtain ⟨hcz132_0, hcz132_1, hcz132_2, hcz132_3, hcz132_4, hfz132_0, hfz132_1, hfz132_2, hfz132_3, hfz132_4⟩ := bE fA.out; obtain ⟨Ao133, co133, eo133⟩ := Kd.oC fw.out; subst eo133) | ((with_reducible refine ay (f := 20) rfl ?_); refine gl_ (some 11) Tryd.func20 #[.pointer (some ⟨g, 0, none⟩), .int .i64 10] ?_; (with_reducible refine (bG.calls g bV Be Bf 10 t612 yT yU w0 _ ?au ?av A4.out).mono ?_); (case au => exact si_); (case av => exact bl_); rintro e w134 ⟨rfl, hi, hb, hk⟩; refine ⟨_, rfl, ?_⟩; replace iq := aa.mk (aH.blk hk (g' := bZ) (o := .cells (t5_ 0 0 0 0 none 0 0) 24 (0, 0)) b5_ lG.out (by simp)); replace fw := aa.mk (Kd.dG (Kd.uu (Kd.dG (ok := fun k_ => ((((w.heap.size ≤ k_)) ∧ (k_ ≠ bZ ∧ k_ ≠ g)) ∧ k_ ≠ dV)) (by exact (Kd.dG (Kd.fq (p := ⟨dV, 4, none⟩) (Kd.fq (p := ⟨dV, 3, none⟩) (Kd.fq (p := ⟨dV, 2, none⟩) (Kd.fq (p := ⟨dV, 1, none⟩) (Kd.fq (p := ⟨dV, 0, none⟩) (Kd.dG fw.out (fun k_ hk => (⟨hk, by exact hk.2⟩ : _ ∧ k_ ≠ dV))) (fun _ hk => hk.2) (.int .i64 kF)) (fun _ hk => hk.2) (.int .i64 kT)) (fun _ hk => hk.2) (.int .i64 kU)) (fun _ hk => hk.2) (.int .i64 kV)) (fun _ hk => hk.2) (.slice Ao133 gK.length co133)) (fun _ h_ => h_.1))) (fun k_ hk_ => (⟨hk_, hk_.1.2.2⟩ : _ ∧ k_ ≠ g))) hk (fun _ h => h.2)) (fun _ h => h.1)); replace fA := aa.mk (aH.blk hk (g' := dV) (o := .cells (t5_ kF kT kU kV Ao133 gK.length co133) 24 (0, 0)) b5_ qo.out (by simp)); replace HK := aa.mk (aH.trans (kp_ (w := w)) hk (.inl rfl)); replace HB := aa.mk (hb); replace HI0 := aa.mk (hi); (try (obtain ⟨hcz149_0, hcz149_1, hcz149_2, hcz149_3, hcz149_4, _, _, _, _, _⟩ := bE fA.out; obtain ⟨hcz151_0, hcz151_1, hcz151_2, hcz151_3, hcz151_4, hfz151_0, hfz151_1, hfz151_2, hfz151_3, hfz151_4⟩ := bE iq.out))) | ((with_reducible refine aM (N := 64) rfl ?_); refine Kd.nM (Kd.int .i64) _ 3 ?hg (N := 64) ?hd (xs := ([3, 4] : List Int)) (inner := [.int .i64 3, .int .i64 4]) (ok := fun _ => True) (okp := fun _ => True) ?hr ?hp (fun _ hk => hk) trivial (Below.refl _ _) (Nat.le_refl _) (by simp) ?_; (case hd => rfl); (case hg => rfl); (case hr => (go_simp; done)); (case hp => exact (dB.one (show Kd.M (Kd.int .i64) _ _ _ 3 [.int .i64 3] from rfl) (dB.one (show Kd.M (Kd.int .i64) _ _ _ 4 [.int .i64 4] from rfl) (dB.none _ _)))); intro v662 w135 ho136 hb hg_ iy; clear hg_ iy; (rw [← Ny661.out] at ho136); have HO663 := aa.mk (Kd.bN (Kd.CF (M := fun k_ => (w.heap.size ≤ k_)) ho136 (dM (w := w) (g := g) (row := none) kp_) (fun k_ h_ => h_)) (dM (w := w) (g := g) (row := none) kp_)); replace fw := aa.mk (Kd.Gr (pN_ fw.out) (Kd.dI ho136) hb); replace HI0 := aa.mk (bC.below si_ hb); replace iq := kb_ iq hb; replace HK := aa.mk (aH.trans (kp_ (w := w)) (aH.of_below hb g none) (.inl rfl)); replace HB := aa.mk (ax bl_ hb); clear hb ho136; obtain ⟨Ao137, co137, eo137⟩ := Kd.bF HO663.out; subst eo137) | ((with_reducible refine ay (f := 54) rfl ?_); refine gl_ (some 65) Tryd.func54 #[.pointer (some ⟨g, 0, none⟩), .slice Ao137 y661.length co137] ?_; (with_reducible refine (dN.calls g bV yT yU _ _ y661 t664 t665 t666 w0 _ ?au ?av ?bO ?bQ ?vP A126.out).mono ?_); (case au => exact si_); (case av => exact bl_); (case bO => exact cb_ ((Kd.aZ HO663.out).2.2)); (case bQ => exact (Kd.aZ HO663.out).2.1); (case vP => exact Ay (bC.own_ne HI0.out HO663.out (by decide))); rintro e w138 ⟨rfl, hi, hb, hk⟩; refine ⟨_, rfl, ?_⟩; replace iq := aa.mk (aH.blk hk (g' := bZ) (o := .cells (t5_ 0 0 0 0 none 0 0) 24 (0, 0)) bk_ lG.out (by simp)); replace HK := aa.mk (aH.trans (kp_ (w := w)) hk (.inl rfl)); replace HB := aa.mk (hb); replace HI0 := aa.mk (hi); obtain ⟨hcz140_0, hcz140_1, hcz140_2, hcz140_3, hcz140_4, hfz140_0, hfz140_1, hfz140_2, hfz140_3, hfz140_4⟩ := bE iq.out))
       ·refine bodyPost_ret (results_cell_row rfl _ _ bZ 24 (t5_ t664 0 0 0 none 0 0) (0, 0) _ rfl b5_ Tryd.underlying24 rfl (by kernel_rfl)) rfl ?_
        exact ⟨_, re_, by exact Kd.N_nil _ _ _ _ _, si_, bl_, by repeat (with_reducible first | exact HK.out | refine iD ?_ yV.out _)⟩
       ·refine bodyPost_ret (results_cell_row rfl _ _ bZ 24 (t5_ kF kT kU kV Ao133 gK.length co133) (0, 0) _ rfl b5_ Tryd.underlying24 rfl (by kernel_rfl)) rfl ?_
        exact ⟨_, re_, by exact Kd.dG (Kd.fq (p := ⟨bZ, 4, none⟩) (Kd.fq (p := ⟨bZ, 3, none⟩) (Kd.fq (p := ⟨bZ, 2, none⟩) (Kd.fq (p := ⟨bZ, 1, none⟩) (Kd.fq (p := ⟨bZ, 0, none⟩) (Kd.dG fw.out (fun k_ hk => (⟨hk, by exact hk.1.2.1⟩ : _ ∧ k_ ≠ bZ))) (fun _ hk => hk.2) (.int .i64 kF)) (fun _ hk => hk.2) (.int .i64 kT)) (fun _ hk => hk.2) (.int .i64 kU)) (fun _ hk => hk.2) (.int .i64 kV)) (fun _ hk => hk.2) (.slice Ao133 gK.length co133)) (fun _ hk => hk.1.1.1), si_, bl_, by repeat (with_reducible first | exact HK.out | refine iD ?_ yV.out _)⟩
     rw [if_pos c70] at H; obtain ⟨c70b0, c70b1⟩ := bq_ c70; clear c70; replace H := Option.bind_eq_some_iff.mp H; obtain ⟨⟨t636, t637, t638, t639, t640, t643, t644⟩, A540, H⟩ := H; (try dsimp only at H)
     have A54 := aa.mk A540; clear A540; by_cases c72 : gK.length < 2513169434916
     rotate_left
     ·rw [if_neg c72] at H; exact absurd H (by simp)
     rw [if_pos c72] at H; have LMc72 := aa.mk c72; clear c72; obtain ⟨y645, hy645⟩ : ∃ y_ : List (S24), y_ = (gK ++ [(⟨t636, t637, t638, t639, t640⟩ : S24)]) := ⟨_, rfl⟩; replace H : (some (kF, kT, kU, kV, y645, t643, t644)) = some (r1, r2, r3, r4, r5, r6, r7) := by (rw [hy645]; with_reducible exact H)
     have Ny645 := aa.mk hy645; clear hy645
    rotate_left
   rotate_left 2
  rotate_left 3
 rotate_left 4
 all_goals
  simp only [Option.some.injEq, Prod.mk.injEq] at H; obtain ⟨rfl, rfl, rfl, rfl, rfl, rfl, rfl⟩ := H; go_enter Tryd.func27, Tryd.ntmps27; try go_wp2_with (first | ((with_reducible refine aM (N := 4) rfl ?_); refine oU ?hg (N := 4) ?hd (cs := (t5_ 0 0 0 0 none 0 0)) (t := 24) ?hr ?_; (case hd => rfl); (case hg => rfl); (case hr => (go_simp; done)); intro bZ hg w55 nN hb; have iq := aa.mk (nN); have yV := aa.mk ((by rw [hg]; exact (dM (w := w) (g := g) (row := none) kp_) : w.heap.size ≤ bZ)); have GE601 := aa.mk ((Nat.le_trans HW0.out (by rw [hg]; exact (dM (w := w) (g := g) (row := none) kp_) : w.heap.size ≤ bZ) : w0.heap.size ≤ bZ)); have Aa := aa.mk ((by rw [hg]; exact Nat.ne_of_lt (bC.lt (show bC w0 _ g bV fC gp from si_)) : g ≠ bZ)); have lG := aa.mk ((by rw [hg]; exact Nat.ne_of_gt (bC.lt (show bC w0 _ g bV fC gp from si_)) : bZ ≠ g)); replace HI0 := aa.mk (bC.below si_ hb); replace HK := aa.mk (aH.trans (kp_ (w := w)) (aH.of_below hb g none) (.inl rfl)); replace HB := aa.mk (ax bl_ hb); clear hb nN hg) | ((with_reducible refine ay (f := 15) rfl ?_); refine gl_ (some 9) Tryd.func15 #[.pointer (some ⟨g, 0, none⟩), .int .i64 a1] ?_; (with_reducible refine (aA.calls k g bV fC gp a1 kF kT kU kV gK Be Bf w0 _ ?au ?av A3.out).mono ?_); (case au => exact si_); (case av => exact bl_); rintro e w56 ⟨v607, rfl, ho0, hi, hb, hk⟩; refine ⟨_, rfl, ?_⟩; have fw := aa.mk (Kd.rT (Kd.dG (ok' := fun k_ => (w.heap.size ≤ k_) ∧ k_ ≠ bZ ∧ k_ ≠ g) ho0 (fun k_ hk_ => ⟨(Nat.le_trans (dM (w := w) (g := g) (row := none) kp_) hk_), (Kd.fo (g := bZ) (o := .cells (t5_ 0 0 0 0 none 0 0) 24 (0, 0)) bk_ k_ hk_), (bC.fresh si_ k_ hk_)⟩)) (dM (w := w) (g := g) (row := none) kp_)); replace iq := aa.mk (aH.blk hk (g' := bZ) (o := .cells (t5_ 0 0 0 0 none 0 0) 24 (0, 0)) bk_ lG.out (by simp)); replace HK := aa.mk (aH.trans (kp_ (w := w)) hk (.inl rfl)); replace HB := aa.mk (hb); replace HI0 := aa.mk (hi)) | ((with_reducible refine aM (N := 5) rfl ?_); refine oU ?hg (N := 5) ?hd (cs := (t5_ 0 0 0 0 none 0 0)) (t := 24) ?hr ?_; (case hd => rfl); (case hg => rfl); (case hr => (go_simp; done)); intro dV hg w57 nN hb; have fA := aa.mk (nN); have Ii := aa.mk ((by rw [hg]; exact (dM (w := w) (g := g) (row := none) kp_) : w.heap.size ≤ dV)); have GE611 := aa.mk ((Nat.le_trans HW0.out (by rw [hg]; exact (dM (w := w) (g := g) (row := none) kp_) : w.heap.size ≤ dV) : w0.heap.size ≤ dV)); have Jl := nl_ iq hg; have YL := ng_ iq hg; have QG := aa.mk ((by rw [hg]; exact Nat.ne_of_lt (bC.lt (show bC w0 _ g bV Be Bf from si_)) : g ≠ dV)); have qo := aa.mk ((by rw [hg]; exact Nat.ne_of_gt (bC.lt (show bC w0 _ g bV Be Bf from si_)) : dV ≠ g)); replace fw := aa.mk (Kd.yZ (Kd.LU (pN_ fw.out) dV (Nat.le_of_eq hg.symm)) hb); replace HI0 := aa.mk (bC.below si_ hb); replace iq := kb_ iq hb; replace HK := aa.mk (aH.trans (kp_ (w := w)) (aH.of_below hb g none) (.inl rfl)); replace HB := aa.mk (ax bl_ hb); clear hb nN hg; have hnc58 := Jl.out; have hnb59 := qo.out; have hnc59 := QG.out; obtain ⟨Lg, Lh, hcz60_2, hcz60_3, hcz60_4, hfz60_0, hfz60_1, hfz60_2, hfz60_3, hfz60_4⟩ := bE fA.out; obtain ⟨o5, o6, eo61⟩ := Kd.oC fw.out; subst eo61) | ((with_reducible refine ay (f := 20) rfl ?_); refine gl_ (some 11) Tryd.func20 #[.pointer (some ⟨g, 0, none⟩), .int .i64 10] ?_; (with_reducible refine (bG.calls g bV Be Bf 10 t612 yT yU w0 _ ?au ?av A4.out).mono ?_); (case au => exact si_); (case av => exact bl_); rintro e w62 ⟨rfl, hi, hb, hk⟩; refine ⟨_, rfl, ?_⟩; replace iq := aa.mk (aH.blk hk (g' := bZ) (o := .cells (t5_ 0 0 0 0 none 0 0) 24 (0, 0)) b5_ lG.out (by simp)); replace fw := aa.mk (Kd.dG (Kd.uu (Kd.dG (ok := fun k_ => ((((w.heap.size ≤ k_)) ∧ (k_ ≠ bZ ∧ k_ ≠ g)) ∧ k_ ≠ dV)) (by exact (Kd.dG (Kd.fq (p := ⟨dV, 4, none⟩) (Kd.fq (p := ⟨dV, 3, none⟩) (Kd.fq (p := ⟨dV, 2, none⟩) (Kd.fq (p := ⟨dV, 1, none⟩) (Kd.fq (p := ⟨dV, 0, none⟩) (Kd.dG fw.out (fun k_ hk => (⟨hk, by exact hk.2⟩ : _ ∧ k_ ≠ dV))) (fun _ hk => hk.2) (.int .i64 kF)) (fun _ hk => hk.2) (.int .i64 kT)) (fun _ hk => hk.2) (.int .i64 kU)) (fun _ hk => hk.2) (.int .i64 kV)) (fun _ hk => hk.2) (.slice o5 gK.length o6)) (fun _ h_ => h_.1))) (fun k_ hk_ => (⟨hk_, hk_.1.2.2⟩ : _ ∧ k_ ≠ g))) hk (fun _ h => h.2)) (fun _ h => h.1)); replace fA := aa.mk (aH.blk hk (g' := dV) (o := .cells (t5_ kF kT kU kV o5 gK.length o6) 24 (0, 0)) b5_ qo.out (by simp)); replace HK := aa.mk (aH.trans (kp_ (w := w)) hk (.inl rfl)); replace HB := aa.mk (hb); replace HI0 := aa.mk (hi)) | ((with_reducible refine aM (N := 32) rfl ?_); refine Kd.nM (Kd.int .i64) _ 3 ?hg (N := 32) ?hd (xs := ([0, 4, 5] : List Int)) (inner := [.int .i64 0, .int .i64 4, .int .i64 5]) (ok := fun _ => True) (okp := fun _ => True) ?hr ?hp (fun _ hk => hk) trivial (Below.refl _ _) (Nat.le_refl _) (by simp) ?_; (case hd => rfl); (case hg => rfl); (case hr => (go_simp; done)); (case hp => exact (dB.one (show Kd.M (Kd.int .i64) _ _ _ 0 [.int .i64 0] from rfl) (dB.one (show Kd.M (Kd.int .i64) _ _ _ 4 [.int .i64 4] from rfl) (dB.one (show Kd.M (Kd.int .i64) _ _ _ 5 [.int .i64 5] from rfl) (dB.none _ _))))); intro v631 w63 ho64 hb hg_ iy; clear hg_ iy; (rw [← Ny630.out] at ho64); have HO632 := aa.mk (Kd.bN (Kd.CF (M := fun k_ => (w.heap.size ≤ k_)) ho64 (dM (w := w) (g := g) (row := none) kp_) (fun k_ h_ => h_)) (dM (w := w) (g := g) (row := none) kp_)); replace fw := aa.mk (Kd.Gr (pN_ fw.out) (Kd.dI ho64) hb); replace HI0 := aa.mk (bC.below si_ hb); replace iq := kb_ iq hb; replace fA := kb_ fA hb; replace HK := aa.mk (aH.trans (kp_ (w := w)) (aH.of_below hb g none) (.inl rfl)); replace HB := aa.mk (ax bl_ hb); clear hb ho64; obtain ⟨AY, zI, eo65⟩ := Kd.bF HO632.out; subst eo65) | ((with_reducible refine ay (f := 54) rfl ?_); refine gl_ (some 33) Tryd.func54 #[.pointer (some ⟨g, 0, none⟩), .slice AY y630.length zI] ?_; (with_reducible refine (dN.calls g bV yT yU _ _ y630 t633 t634 t635 w0 _ ?au ?av ?bO ?bQ ?vP A54.out).mono ?_); (case au => exact si_); (case av => exact bl_); (case bO => exact cb_ ((Kd.aZ HO632.out).2.2)); (case bQ => exact (Kd.aZ HO632.out).2.1); (case vP => exact Ay (bC.own_ne HI0.out HO632.out (by decide))); rintro e w66 ⟨rfl, hi, hb, hk⟩; refine ⟨_, rfl, ?_⟩; replace iq := aa.mk (aH.blk hk (g' := bZ) (o := .cells (t5_ 0 0 0 0 none 0 0) 24 (0, 0)) bk_ lG.out (by simp)); replace fw := aa.mk (Kd.dG (Kd.uu (Kd.dG (ok := fun k_ => (((((w.heap.size ≤ k_)) ∧ (k_ ≠ bZ ∧ k_ ≠ g)) ∧ k_ ≠ dV) ∧ some k_ ≠ (.slice AY y630.length zI : Value).ownBlock)) (pN_ fw.out) (fun k_ hk_ => (⟨hk_, hk_.1.1.2.2⟩ : _ ∧ k_ ≠ g))) hk (fun _ h => h.2)) (fun _ h => h.1)); replace fA := aa.mk (aH.blk hk (g' := dV) (o := .cells (t5_ kF kT kU kV o5 gK.length o6) 24 (0, 0)) bk_ qo.out (by simp)); replace HK := aa.mk (aH.trans (kp_ (w := w)) hk (.inl rfl)); replace HB := aa.mk (hb); replace HI0 := aa.mk (hi); obtain ⟨WK, hcz67_1, hcz67_2, Vz, hcz67_4, _, _, _, hfz67_3, _⟩ := bE fA.out; have hnb68 := lG.out; have hnc68 := Aa.out; obtain ⟨Wy, Wz, hcz69_2, hcz69_3, hcz69_4, hfz69_0, hfz69_1, hfz69_2, hfz69_3, hfz69_4⟩ := bE iq.out) | ((with_reducible refine aM (N := 26) rfl ?_); refine Kd.nM (Kd.int .i64) _ 3 ?hg (N := 26) ?hd (xs := ([1000, 1001, 0, (-5)] : List Int)) (inner := [.int .i64 1000, .int .i64 1001, .int .i64 0, .int .i64 (-5)]) (ok := fun _ => True) (okp := fun _ => True) ?hr ?hp (fun _ hk => hk) trivial (Below.refl _ _) (Nat.le_refl _) (by simp) ?_; (case hd => rfl); (case hg => rfl); (case hr => (go_simp; done)); (case hp => exact (dB.one (show Kd.M (Kd.int .i64) _ _ _ 1000 [.int .i64 1000] from rfl) (dB.one (show Kd.M (Kd.int .i64) _ _ _ 1001 [.int .i64 1001] from rfl) (dB.one (show Kd.M (Kd.int .i64) _ _ _ 0 [.int .i64 0] from rfl) (dB.one (show Kd.M (Kd.int .i64) _ _ _ (-5) [.int .i64 (-5)] from rfl) (dB.none _ _)))))); intro v625 w46 ho47 hb hg_ iy; clear hg_ iy; (rw [← Ny624.out] at ho47); have HO626 := aa.mk (Kd.bN (Kd.CF (M := fun k_ => (w.heap.size ≤ k_)) ho47 (dM (w := w) (g := g) (row := none) kp_) (fun k_ h_ => h_)) (dM (w := w) (g := g) (row := none) kp_)); replace fw := aa.mk (Kd.Gr (pN_ fw.out) (Kd.dI ho47) hb); replace HI0 := aa.mk (bC.below si_ hb); replace iq := kb_ iq hb; replace fA := kb_ fA hb; replace HK := aa.mk (aH.trans (kp_ (w := w)) (aH.of_below hb g none) (.inl rfl)); replace HB := aa.mk (ax bl_ hb); clear hb ho47; obtain ⟨Ao48, co48, eo48⟩ := Kd.bF HO626.out; subst eo48) | ((with_reducible refine ay (f := 54) rfl ?_); refine gl_ (some 27) Tryd.func54 #[.pointer (some ⟨g, 0, none⟩), .slice Ao48 y624.length co48] ?_; (with_reducible refine (dN.calls g bV yT yU _ _ y624 t627 t628 t629 w0 _ ?au ?av ?bO ?bQ ?vP A37.out).mono ?_); (case au => exact si_); (case av => exact bl_); (case bO => exact cb_ ((Kd.aZ HO626.out).2.2)); (case bQ => exact (Kd.aZ HO626.out).2.1); (case vP => exact Ay (bC.own_ne HI0.out HO626.out (by decide))); rintro e w49 ⟨rfl, hi, hb, hk⟩; refine ⟨_, rfl, ?_⟩; replace iq := aa.mk (aH.blk hk (g' := bZ) (o := .cells (t5_ 0 0 0 0 none 0 0) 24 (0, 0)) bk_ lG.out (by simp)); replace fw := aa.mk (Kd.dG (Kd.uu (Kd.dG (ok := fun k_ => (((((w.heap.size ≤ k_)) ∧ (k_ ≠ bZ ∧ k_ ≠ g)) ∧ k_ ≠ dV) ∧ some k_ ≠ (.slice Ao48 y624.length co48 : Value).ownBlock)) (pN_ fw.out) (fun k_ hk_ => (⟨hk_, hk_.1.1.2.2⟩ : _ ∧ k_ ≠ g))) hk (fun _ h => h.2)) (fun _ h => h.1)); replace fA := aa.mk (aH.blk hk (g' := dV) (o := .cells (t5_ kF kT kU kV o5 gK.length o6) 24 (0, 0)) bk_ qo.out (by simp)); replace HK := aa.mk (aH.trans (kp_ (w := w)) hk (.inl rfl)); replace HB := aa.mk (hb); replace HI0 := aa.mk (hi); obtain ⟨hcz50_0, hcz50_1, hcz50_2, hcz50_3, hcz50_4, _, _, hfz50_2, _, _⟩ := bE fA.out; have hnb51 := lG.out; have hnc51 := Aa.out; obtain ⟨JQ, JR, UY, UZ, Pg, JS, JU, U0, U1, U2⟩ := bE iq.out) | ((with_reducible refine aM (N := 20) rfl ?_); refine Kd.nM (Kd.int .i64) _ 3 ?hg (N := 20) ?hd (xs := ([(-1000), (-1001), 0, 5] : List Int)) (inner := [.int .i64 (-1000), .int .i64 (-1001), .int .i64 0, .int .i64 5]) (ok := fun _ => True) (okp := fun _ => True) ?hr ?hp (fun _ hk => hk) trivial (Below.refl _ _) (Nat.le_refl _) (by simp) ?_; (case hd => rfl); (case hg => rfl); (case hr => (go_simp; done)); (case hp => exact (dB.one (show Kd.M (Kd.int .i64) _ _ _ (-1000) [.int .i64 (-1000)] from rfl) (dB.one (show Kd.M (Kd.int .i64) _ _ _ (-1001) [.int .i64 (-1001)] from rfl) (dB.one (show Kd.M (Kd.int .i64) _ _ _ 0 [.int .i64 0] from rfl) (dB.one (show Kd.M (Kd.int .i64) _ _ _ 5 [.int .i64 5] from rfl) (dB.none _ _)))))); intro v619 w29 ho30 hb hg_ iy; clear hg_ iy; (rw [← Ny618.out] at ho30); have HO620 := aa.mk (Kd.bN (Kd.CF (M := fun k_ => (w.heap.size ≤ k_)) ho30 (dM (w := w) (g := g) (row := none) kp_) (fun k_ h_ => h_)) (dM (w := w) (g := g) (row := none) kp_)); replace fw := aa.mk (Kd.Gr (pN_ fw.out) (Kd.dI ho30) hb); replace HI0 := aa.mk (bC.below si_ hb); replace iq := kb_ iq hb; replace fA := kb_ fA hb; replace HK := aa.mk (aH.trans (kp_ (w := w)) (aH.of_below hb g none) (.inl rfl)); replace HB := aa.mk (ax bl_ hb); clear hb ho30; obtain ⟨CW, CX, eo31⟩ := Kd.bF HO620.out; subst eo31) | ((with_reducible refine ay (f := 54) rfl ?_); refine gl_ (some 21) Tryd.func54 #[.pointer (some ⟨g, 0, none⟩), .slice CW y618.length CX] ?_; (with_reducible refine (dN.calls g bV yT yU _ _ y618 t621 t622 t623 w0 _ ?au ?av ?bO ?bQ ?vP A20.out).mono ?_); (case au => exact si_); (case av => exact bl_); (case bO => exact cb_ ((Kd.aZ HO620.out).2.2)); (case bQ => exact (Kd.aZ HO620.out).2.1); (case vP => exact Ay (bC.own_ne HI0.out HO620.out (by decide))); rintro e w32 ⟨rfl, hi, hb, hk⟩; refine ⟨_, rfl, ?_⟩; replace iq := aa.mk (aH.blk hk (g' := bZ) (o := .cells (t5_ 0 0 0 0 none 0 0) 24 (0, 0)) bk_ lG.out (by simp)); replace fw := aa.mk (Kd.dG (Kd.uu (Kd.dG (ok := fun k_ => (((((w.heap.size ≤ k_)) ∧ (k_ ≠ bZ ∧ k_ ≠ g)) ∧ k_ ≠ dV) ∧ some k_ ≠ (.slice CW y618.length CX : Value).ownBlock)) (pN_ fw.out) (fun k_ hk_ => (⟨hk_, hk_.1.1.2.2⟩ : _ ∧ k_ ≠ g))) hk (fun _ h => h.2)) (fun _ h => h.1)); replace fA := aa.mk (aH.blk hk (g' := dV) (o := .cells (t5_ kF kT kU kV o5 gK.length o6) 24 (0, 0)) bk_ qo.out (by simp)); replace HK := aa.mk (aH.trans (kp_ (w := w)) hk (.inl rfl)); replace HB := aa.mk (hb); replace HI0 := aa.mk (hi); obtain ⟨WI, PN, hcz33_2, hcz33_3, hcz33_4, _, WJ, _, _, _⟩ := bE fA.out; have hnb34 := lG.out; have hnc34 := Aa.out; obtain ⟨hcz35_0, Vu, hcz35_2, hcz35_3, hcz35_4, hfz35_0, hfz35_1, hfz35_2, hfz35_3, hfz35_4⟩ := bE iq.out) | ((with_reducible refine ay (f := 17) rfl ?_); refine gl_ (some 15) Tryd.func17 #[.pointer (some ⟨g, 0, none⟩), .int .i64 0, .int .i64 7] ?_; (with_reducible refine (dC.calls g bV yT yU 0 7 t615 t616 t617 w0 _ ?au ?av A6.out).mono ?_); (case au => exact si_); (case av => exact bl_); rintro e w15 ⟨rfl, hi, hb, hk⟩; refine ⟨_, rfl, ?_⟩; replace iq := aa.mk (aH.blk hk (g' := bZ) (o := .cells (t5_ 0 0 0 0 none 0 0) 24 (0, 0)) bk_ lG.out (by simp)); replace fw := aa.mk (Kd.dG (Kd.uu (Kd.dG (ok := fun k_ => ((((w.heap.size ≤ k_)) ∧ (k_ ≠ bZ ∧ k_ ≠ g)) ∧ k_ ≠ dV)) (pN_ fw.out) (fun k_ hk_ => (⟨hk_, hk_.1.2.2⟩ : _ ∧ k_ ≠ g))) hk (fun _ h => h.2)) (fun _ h => h.1)); replace fA := aa.mk (aH.blk hk (g' := dV) (o := .cells (t5_ kF kT kU kV o5 gK.length o6) 24 (0, 0)) bk_ qo.out (by simp)); replace HK := aa.mk (aH.trans (kp_ (w := w)) hk (.inl rfl)); replace HB := aa.mk (hb); replace HI0 := aa.mk (hi); obtain ⟨qP, rY, uG, zn, zo, Wv, _, _, _, _⟩ := bE fA.out; have hnb17 := lG.out; have hnc17 := Aa.out; obtain ⟨vR, uD, xM, zf, zk, JM, JN, OZ, O0, O1⟩ := bE iq.out))
 ·refine bodyPost_ret (results_cell_row rfl _ _ bZ 24 (t5_ t615 kT kU kV o5 gK.length o6) (0, 0) _ rfl b5_ Tryd.underlying24 rfl (by kernel_rfl)) rfl ?_
  exact ⟨_, re_, by exact Kd.dG (Kd.fq (p := ⟨bZ, 4, none⟩) (Kd.fq (p := ⟨bZ, 3, none⟩) (Kd.fq (p := ⟨bZ, 2, none⟩) (Kd.fq (p := ⟨bZ, 1, none⟩) (Kd.fq (p := ⟨bZ, 0, none⟩) (Kd.fq (p := ⟨dV, 0, none⟩) (Kd.dG (Kd.dG fw.out (fun k_ hk => (⟨hk, by exact hk.2⟩ : _ ∧ k_ ≠ dV))) (fun k_ hk => (⟨hk, by exact hk.1.1.2.1⟩ : _ ∧ k_ ≠ bZ))) (fun _ hk => hk.1.2) (.int .i64 t615)) (fun _ hk => hk.2) (.int .i64 t615)) (fun _ hk => hk.2) (.int .i64 kT)) (fun _ hk => hk.2) (.int .i64 kU)) (fun _ hk => hk.2) (.int .i64 kV)) (fun _ hk => hk.2) (.slice o5 gK.length o6)) (fun _ hk => hk.1.1.1.1), si_, bl_, by repeat (with_reducible first | exact HK.out | refine iD ?_ yV.out _ | refine iD ?_ Ii.out _)⟩
 ·refine bodyPost_ret (results_cell_row rfl _ _ bZ 24 (t5_ kF t621 kU kV o5 gK.length o6) (0, 0) _ rfl b5_ Tryd.underlying24 rfl (by kernel_rfl)) rfl ?_
  exact ⟨_, re_, by exact Kd.dG (Kd.fq (p := ⟨bZ, 4, none⟩) (Kd.fq (p := ⟨bZ, 3, none⟩) (Kd.fq (p := ⟨bZ, 2, none⟩) (Kd.fq (p := ⟨bZ, 1, none⟩) (Kd.fq (p := ⟨bZ, 0, none⟩) (Kd.fq (p := ⟨dV, 1, none⟩) (Kd.dG (Kd.dG fw.out (fun k_ hk => (⟨hk, by exact hk.1.2⟩ : _ ∧ k_ ≠ dV))) (fun k_ hk => (⟨hk, by exact hk.1.1.1.2.1⟩ : _ ∧ k_ ≠ bZ))) (fun _ hk => hk.1.2) (.int .i64 t621)) (fun _ hk => hk.2) (.int .i64 kF)) (fun _ hk => hk.2) (.int .i64 t621)) (fun _ hk => hk.2) (.int .i64 kU)) (fun _ hk => hk.2) (.int .i64 kV)) (fun _ hk => hk.2) (.slice o5 gK.length o6)) (fun _ hk => hk.1.1.1.1.1), si_, bl_, by repeat (with_reducible first | exact HK.out | refine iD ?_ yV.out _ | refine iD ?_ Ii.out _)⟩
 ·refine bodyPost_ret (results_cell_row rfl _ _ bZ 24 (t5_ kF kT t627 kV o5 gK.length o6) (0, 0) _ rfl b5_ Tryd.underlying24 rfl (by kernel_rfl)) rfl ?_
  exact ⟨_, re_, by exact Kd.dG (Kd.fq (p := ⟨bZ, 4, none⟩) (Kd.fq (p := ⟨bZ, 3, none⟩) (Kd.fq (p := ⟨bZ, 2, none⟩) (Kd.fq (p := ⟨bZ, 1, none⟩) (Kd.fq (p := ⟨bZ, 0, none⟩) (Kd.fq (p := ⟨dV, 2, none⟩) (Kd.dG (Kd.dG fw.out (fun k_ hk => (⟨hk, by exact hk.1.2⟩ : _ ∧ k_ ≠ dV))) (fun k_ hk => (⟨hk, by exact hk.1.1.1.2.1⟩ : _ ∧ k_ ≠ bZ))) (fun _ hk => hk.1.2) (.int .i64 t627)) (fun _ hk => hk.2) (.int .i64 kF)) (fun _ hk => hk.2) (.int .i64 kT)) (fun _ hk => hk.2) (.int .i64 t627)) (fun _ hk => hk.2) (.int .i64 kV)) (fun _ hk => hk.2) (.slice o5 gK.length o6)) (fun _ hk => hk.1.1.1.1.1), si_, bl_, by repeat (with_reducible first | exact HK.out | refine iD ?_ yV.out _ | refine iD ?_ Ii.out _)⟩
 ·refine bodyPost_ret (results_cell_row rfl _ _ bZ 24 (t5_ kF kT kU t633 o5 gK.length o6) (0, 0) _ rfl b5_ Tryd.underlying24 rfl (by kernel_rfl)) rfl ?_
  exact ⟨_, re_, by exact Kd.dG (Kd.fq (p := ⟨bZ, 4, none⟩) (Kd.fq (p := ⟨bZ, 3, none⟩) (Kd.fq (p := ⟨bZ, 2, none⟩) (Kd.fq (p := ⟨bZ, 1, none⟩) (Kd.fq (p := ⟨bZ, 0, none⟩) (Kd.fq (p := ⟨dV, 3, none⟩) (Kd.dG (Kd.dG fw.out (fun k_ hk => (⟨hk, by exact hk.1.2⟩ : _ ∧ k_ ≠ dV))) (fun k_ hk => (⟨hk, by exact hk.1.1.1.2.1⟩ : _ ∧ k_ ≠ bZ))) (fun _ hk => hk.1.2) (.int .i64 t633)) (fun _ hk => hk.2) (.int .i64 kF)) (fun _ hk => hk.2) (.int .i64 kT)) (fun _ hk => hk.2) (.int .i64 kU)) (fun _ hk => hk.2) (.int .i64 t633)) (fun _ hk => hk.2) (.slice o5 gK.length o6)) (fun _ hk => hk.1.1.1.1.1), si_, bl_, by repeat (with_reducible first | exact HK.out | refine iD ?_ yV.out _ | refine iD ?_ Ii.out _)⟩
 ·replace fw := aa.mk (Kd.Iy fw.out); replace iq := aa.mk (dz iq.out); replace fA := aa.mk (dz fA.out); replace HI0 := aa.mk (bC.drew HI0.out); replace HK := aa.mk (uU HK.out); replace HB := aa.mk (eX HB.out); refine kL (n := 8) (S := fun w' => w'.cell? ⟨dV, 0, none⟩ = some (.int .i64 kF) ∧ w'.cell? ⟨dV, 1, none⟩ = some (.int .i64 kT) ∧ w'.cell? ⟨dV, 2, none⟩ = some (.int .i64 kU) ∧ w'.cell? ⟨dV, 3, none⟩ = some (.int .i64 kV) ∧ w'.cell? ⟨dV, 4, none⟩ = some (.slice o5 gK.length o6)) (ds := [7]) #[false, false, false, false, false, false, false, false] (by kernel_rfl) rfl rfl ⟨ci_ fA, ci_ fA, ci_ fA, ci_ fA, ci_ fA⟩ (fun hHeld => ?_); refine iG bK.tab12 bK.SE (fun HT_ HW_ => ?_)
  generalize w62.drew = w81 at fw iq fA HI0 HK HB hHeld ⊢
  refine pu_ HT_ 0 37 (bm 8 1) ?_
  refine pu_ HT_ 2 39 (bm 8 5) ?_
  refine ta_ HT_ HW_ 1 38 (bm 8 7) hHeld ?_
  refine jW (i := 3) (N := some 40) #[true, true, true, true, false, false, false, false] rfl rfl (fB HT_.out (by kernel_rfl)) (by decide) (fun K hK => ?_)
  refine mf Tryd.func15 (by kernel_rfl) rfl #[.pointer (some ⟨g, 0, none⟩), .int .i64 1] (by rfl) rfl rfl mp_ ?_
  with_reducible refine (aA.calls k g bV yT yU 1 t636 t637 t638 t639 t640 t643 t644 w0 _ ?au ?av A54.out).mono ?_
  (case au => exact si_)
  (case av => exact bl_)
  rintro e w82 ⟨v641, rfl, ho0, hi, hb, hk⟩
  refine ⟨_, rfl, ?_⟩
  have HO642 := aa.mk (Kd.rT (Kd.dG (ok' := fun k_ => (w.heap.size ≤ k_) ∧ some k_ ≠ (.slice o5 gK.length o6 : Value).ownBlock ∧ k_ ≠ bZ ∧ k_ ≠ dV ∧ k_ ≠ g) ho0 (fun k_ hk_ => ⟨(Nat.le_trans (dM (w := w) (g := g) (row := none) kp_) hk_), (Kd.fresh' (Kd.N_lt (pN_ fw.out)) k_ hk_), (Kd.fo (g := bZ) (o := .cells (t5_ 0 0 0 0 none 0 0) 24 (0, 0)) bk_ k_ hk_), (Kd.fo (g := dV) (o := .cells (t5_ kF kT kU kV o5 gK.length o6) 24 (0, 0)) bk_ k_ hk_), (bC.fresh si_ k_ hk_)⟩)) (dM (w := w) (g := g) (row := none) kp_)); replace iq := aa.mk (aH.blk hk (g' := bZ) (o := .cells (t5_ 0 0 0 0 none 0 0) 24 (0, 0)) bk_ lG.out (by simp)); replace fw := aa.mk (Kd.dG (Kd.RH (Kd.RG (Kd.dG (ok := fun k_ => ((((w.heap.size ≤ k_)) ∧ (k_ ≠ bZ ∧ k_ ≠ g)) ∧ k_ ≠ dV)) (pN_ fw.out) (fun k_ hk_ => (⟨hk_, hk_.1.2.2⟩ : _ ∧ k_ ≠ g))) hk) (by exact Kd.RF ho0)) (fun _ h_ => h_.1)); replace fA := aa.mk (aH.blk hk (g' := dV) (o := .cells (t5_ kF kT kU kV o5 gK.length o6) 24 (0, 0)) bk_ qo.out (by simp)); replace HK := aa.mk (aH.trans (kp_ (w := w)) hk (.inl rfl)); replace HB := aa.mk (hb); replace HI0 := aa.mk (hi); obtain ⟨Ao84, co84, eo84⟩ := Kd.oC HO642.out; (subst eo84)
  refine hK.out _ _ ⟨ci_ fA, ci_ fA, ci_ fA, ci_ fA, ci_ fA⟩ (fun hHeld => ?_)
  clear hK K; refine jd (a' := ?_) ?_ ?_
  rotate_left
  ·show Act.put _ (some 40) _ = _
   simp only [Act.put, List.setIfInBounds_toArray, List.set_cons_zero, List.set_cons_succ, gM, iE]; rfl
  refine jW (i := 4) (N := some 41) #[true, true, true, true, true, false, false, false] rfl rfl (fB HT_.out (by kernel_rfl)) (by decide) (fun K hK => ?_)
  refine wK (w1 := ?_) (v := ?_) (by rfl) rfl ?_ ?_
  rotate_left 2
  ·go_simp; constructor
   ·rfl
   ·rfl
  refine hK.out _ _ ⟨(bH (eU fA.out _) 0).trans rfl, (bH (eU fA.out _) 1).trans rfl, (bH (eU fA.out _) 2).trans rfl, (bH (eU fA.out _) 3).trans rfl, (bH (eU fA.out _) 4).trans rfl⟩ (fun hHeld => ?_)
  clear hK K; refine jd (a' := ?_) ?_ ?_
  rotate_left
  ·show Act.put _ (some 41) _ = _
   simp only [Act.put, List.setIfInBounds_toArray, List.set_cons_zero, List.set_cons_succ, gM, iE]; rfl
  refine jW (i := 5) (N := some 42) #[true, true, true, true, true, true, false, false] rfl rfl (fB HT_.out (by kernel_rfl)) (by decide) (fun K hK => ?_)
  refine Kd.Im k24 w.heap.size (by rfl) (.tmp 38) (.tmp 41) 22 24 (.agg #[(.int .i64 0), (.int .i64 0), (.int .i64 0), (.int .i64 0), (.slice none 0 0)]) 56 rfl Tryd.underlying22 info24 rfl (by decide) (by omega) (.slice o5 gK.length o6) gK (⟨t636, t637, t638, t639, t640⟩ : S24) [.int .i64 t636, .int .i64 t637, .int .i64 t638, .int .i64 t639, .slice Ao84 t640.length co84] (fun k_ => (w.heap.size ≤ k_) ∧ k_ ≠ bZ ∧ k_ ≠ dV ∧ k_ ≠ g) (fun k_ => ((fun k_ => (w.heap.size ≤ k_) ∧ k_ ≠ bZ ∧ k_ ≠ dV ∧ k_ ≠ g)) k_ ∧ some k_ ≠ (.slice o5 gK.length o6 : Value).ownBlock) rfl rfl ?aP (fun _ hk => hk) ?aF ?aO (Below.refl _ _) ?aS ?aL ?_
  (case aP => exact (Js _ _ (⟨t636, t637, t638, t639, t640⟩ : S24) (Kd.tL (Kd.dG (ok' := (fun k_ => ((fun k_ => (w.heap.size ≤ k_) ∧ k_ ≠ bZ ∧ k_ ≠ dV ∧ k_ ≠ g)) k_ ∧ some k_ ≠ (.slice o5 gK.length o6 : Value).ownBlock)) (HO642.out) (fun k_ hk => ⟨⟨hk.1, ⟨hk.2.2.1, ⟨hk.2.2.2.1, hk.2.2.2.2⟩⟩⟩, hk.2.1⟩))).2.1 (Kd.N_F (Kd.dG (ok' := (fun k_ => ((fun k_ => (w.heap.size ≤ k_) ∧ k_ ≠ bZ ∧ k_ ≠ dV ∧ k_ ≠ g)) k_ ∧ some k_ ≠ (.slice o5 gK.length o6 : Value).ownBlock)) (HO642.out) (fun k_ hk => ⟨⟨hk.1, ⟨hk.2.2.1, ⟨hk.2.2.2.1, hk.2.2.2.2⟩⟩⟩, hk.2.1⟩)))))
  (case aF => exact (fun k_ hk => ⟨(Nat.le_trans (dM (w := w) (g := g) (row := none) kp_) hk), Kd.fo (g := bZ) (o := .cells (t5_ 0 0 0 0 none 0 0) 24 (0, 0)) bk_ k_ hk, Kd.fo (g := dV) (o := .cells (t5_ kF kT kU kV o5 gK.length o6) 24 (0, 0)) bk_ k_ hk, bC.fresh si_ k_ hk⟩))
  (case aO => exact (by exact Kd.dG fw.out (fun _ hk => ⟨hk.1.1.1, ⟨hk.1.1.2.1, ⟨hk.1.2, hk.1.1.2.2⟩⟩⟩)))
  (case aS => exact (dM (w := w) (g := g) (row := none) kp_))
  (case aL => have := LMc72.out; omega)
  intro v646 w83 ho hb hg hat; rw [← Ny645.out] at ho; have HO647 := aa.mk (ho); replace HI0 := aa.mk (bC.grown si_ hg (bC.OE HI0.out fw.out (by decide))); replace iq := aa.mk (eF (g := bZ) (o := .cells (t5_ 0 0 0 0 none 0 0) 24 (0, 0)) bk_ hg (Kd.qW fw.out (fun _ hk => hk.1.1.2.1))); replace fA := aa.mk (eF (g := dV) (o := .cells (t5_ kF kT kU kV o5 gK.length o6) 24 (0, 0)) bk_ hg (Kd.qW fw.out (fun _ hk => hk.1.2))); replace HB := aa.mk (rR bl_ HL.out hb); replace HK := aa.mk (aH.trans (kp_ (w := w)) (aH.tC hg g) (Kd.TZ fw.out)); clear fw HO642; clear ho hb hg hat; obtain ⟨Ao85, co85, eo85⟩ := Kd.oC HO647.out; (subst eo85)
  refine hK.out _ _ ⟨ci_ fA, ci_ fA, ci_ fA, ci_ fA, ci_ fA⟩ (fun hHeld => ?_)
  clear hK K; refine jd (a' := ?_) ?_ ?_
  rotate_left
  ·show Act.put _ (some 42) _ = _
   simp only [Act.put, List.setIfInBounds_toArray, List.set_cons_zero, List.set_cons_succ, gM, iE]; rfl
  refine pu_ HT_ 6 43 (bm 8 127) ?_
  refine tJ (i := 7) (N := none) #[true, true, true, true, true, true, true, true] rfl rfl (fB HT_.out (by kernel_rfl)) (by decide) (fun K hK => ?_)
  have hfs86 := fF fA.out 4; have hms86_0 := YL.out; refine qB (w1 := ?_) (by rfl) rfl ?_ ?_
  rotate_left
  ·go_simp; rfl
  refine hK.out _ _ ?_
  clear hK K; refine mH (jT HT_.out (by kernel_rfl)) ?_
  obtain ⟨_, _, _, _, _, _, _, _, _, _⟩ := bE fA.out; have hnb88 := lG.out; have hnc88 := Aa.out; obtain ⟨WA, WB, hcz89_2, hcz89_3, hcz89_4, hfz89_0, hfz89_1, hfz89_2, hfz89_3, hfz89_4⟩ := bE iq.out; try go_wp2
  refine bodyPost_ret (results_cell_row rfl _ _ bZ 24 (t5_ kF kT kU kV Ao85 y645.length co85) (0, 0) _ rfl b5_ Tryd.underlying24 rfl (by kernel_rfl)) rfl ?_
  exact ⟨_, re_, by exact Kd.dG (Kd.fq (p := ⟨bZ, 4, none⟩) (Kd.fq (p := ⟨bZ, 3, none⟩) (Kd.fq (p := ⟨bZ, 2, none⟩) (Kd.fq (p := ⟨bZ, 1, none⟩) (Kd.fq (p := ⟨bZ, 0, none⟩) (Kd.fq (p := ⟨dV, 4, none⟩) (Kd.dG (Kd.dG HO647.out (fun k_ hk => (⟨hk, by exact hk.2.2.1⟩ : _ ∧ k_ ≠ dV))) (fun k_ hk => (⟨hk, by exact hk.1.2.1⟩ : _ ∧ k_ ≠ bZ))) (fun _ hk => hk.1.2) (.slice Ao85 y645.length co85)) (fun _ hk => hk.2) (.int .i64 kF)) (fun _ hk => hk.2) (.int .i64 kT)) (fun _ hk => hk.2) (.int .i64 kU)) (fun _ hk => hk.2) (.int .i64 kV)) (fun _ hk => hk.2) (.slice Ao85 y645.length co85)) (fun _ hk => hk.1.1.1), si_, bl_, by repeat (with_reducible first | exact HK.out | refine iD ?_ yV.out _ | refine iD ?_ Ii.out _)⟩

end Go.Proofs.YtggelekooacmnaaDoor.Q
set_option linter.unusedVariables false
set_option linter.unusedSimpArgs false
namespace Go.Proofs.YtggelekooacmnaaDoor.Pure
open Go.RowKit Go.Proofs.YtggelekooacmnaaDoor.Q Go.Proofs.YtggelekooacmnaaDoorW.aJ Go.Proofs.YtggelekooacmnaaDoorW.bu Go.Proofs.YtggelekooacmnaaDoorW.bB
def Bw : Nat → S24 → Prop
  | 0, _ => False
  | n + 1, t => (-2000 ≤ t.f1 ∧ t.f1 ≤ 2000 ∧ -2000 ≤ t.f2 ∧ t.f2 ≤ 2000 ∧ -10 ≤ t.f3 ∧ t.f3 ≤ 10 ∧ t.f4.length ≤ 10) ∧ ∀ x ∈ t.f4, Bw n x
theorem Bw.mono {n : Nat} : ∀ {t : S24}, Bw n t → Bw (n + 1) t := by
  induction n with
  | zero => intro t h; exact h.elim
  | succ n ih => intro t h; exact ⟨h.1, fun x hx => ih (h.2 x hx)⟩
theorem Bw.le {n m : Nat} (h : n ≤ m) {t : S24} (ht : Bw n t) : Bw m t := by
  induction h with
  | refl => exact ht
  | step _ ih => exact ih.mono
theorem Bw.bd {n : Nat} : ∀ {t : S24}, Bw n t → Bd n t := by
  induction n with
  | zero => intro t h; exact h.elim
  | succ n ih => intro t h; exact ⟨by have := h.1; omega, fun x hx => ih (h.2 x hx)⟩
theorem Vt.bw {n : Nat} : ∀ {t : S24}, Vt n t → Bw n t := by
  induction n with
  | zero => intro t h; cases h
  | succ n ih =>
    intro t h
    cases h with
    | bool => exact ⟨by simp, by simp⟩
    | nat => exact ⟨by simp, by simp⟩
    | real => exact ⟨by simp, by simp⟩
    | int _ lo hi h1 h2 h3 => exact ⟨by dsimp only; simp only [List.length_nil]; omega, by simp⟩
    | tup _ l h1 h2 h3 h4 => exact ⟨by dsimp only; omega, fun x hx => ih (h3 x hx)⟩
    | lst _ m x h1 h2 h3 h4 => exact ⟨by simp only [List.length_singleton]; omega, fun y hy => by rw [List.mem_singleton] at hy; rw [hy]; exact ih h3⟩
theorem Vt.lenw {n : Nat} {t : S24} (h : Vt n t) : t.f4.length ≤ 4 := by
  cases h <;> simp
  assumption
theorem Wild_bw (d : Nat) : ∀ {l : List Int} {p s : Int}, 1 ≤ d → d ≤ 100 → Rs l p → ∃ t p', Ev (fun k => bK.f k l p s d) (t.f0, t.f1, t.f2, t.f3, t.f4, p', s) ∧ Bw (d + 1) t ∧ Rs l p' := by
  induction d with
  | zero => intro l p s h; omega
  | succ d ih =>
    intro l p s _ hd hr
    obtain ⟨t, p1, ⟨K1, e1⟩, g1, r1⟩ := QF (d + 1) (s := s) (by omega) (by omega) hr
    obtain ⟨x, p2, e2, r2, x0, x1, _⟩ := uO (s := s) (a := 10) r1 (by omega)
    have hlen := g1.vt.lenw
    have hin : ∀ y ∈ t.f4, Bw (d + 1) y := fun y hy => (g1.vt.bw.2 y hy).mono
    have hwd := g1.vt.bw.1
    dsimp only at e1
    by_cases c0 : x = 0
    · obtain ⟨y, p3, e3, r3, _, _⟩ := zZ (s := s) (lo := 0) (hi := 7) r2 (by omega) (by omega) (by omega)
      refine ⟨⟨y, t.f1, t.f2, t.f3, t.f4⟩, p3, ⟨K1 + 1, fun k hk => ?_⟩, ⟨hwd, hin⟩, r3⟩
      obtain ⟨k, rfl⟩ : ∃ j, k = j + 1 := ⟨k - 1, by omega⟩
      simp only [bK.f]
      rw [e1 k (by omega), Option.bind_some]; dsimp only
      rw [e2, Option.bind_some]; dsimp only
      rw [if_pos c0, e3, Option.bind_some]
    by_cases c1 : x = 1
    · obtain ⟨y, p3, e3, r3, hy9⟩ := Gm (s := s) (ys := [-1000, -1001, 0, 5]) r2 (by simp) (by simp)
      refine ⟨⟨t.f0, y, t.f2, t.f3, t.f4⟩, p3, ⟨K1 + 1, fun k hk => ?_⟩, ⟨by dsimp only; have hy := hy9; simp only [List.mem_cons, List.not_mem_nil, or_false] at hy; omega, hin⟩, r3⟩
      obtain ⟨k, rfl⟩ : ∃ j, k = j + 1 := ⟨k - 1, by omega⟩
      simp only [bK.f]
      rw [e1 k (by omega), Option.bind_some]; dsimp only
      rw [e2, Option.bind_some]; dsimp only
      rw [if_neg c0, if_pos c1, e3, Option.bind_some]
    by_cases c2 : x = 2
    · obtain ⟨y, p3, e3, r3, hy9⟩ := Gm (s := s) (ys := [1000, 1001, 0, -5]) r2 (by simp) (by simp)
      refine ⟨⟨t.f0, t.f1, y, t.f3, t.f4⟩, p3, ⟨K1 + 1, fun k hk => ?_⟩, ⟨by dsimp only; have hy := hy9; simp only [List.mem_cons, List.not_mem_nil, or_false] at hy; omega, hin⟩, r3⟩
      obtain ⟨k, rfl⟩ : ∃ j, k = j + 1 := ⟨k - 1, by omega⟩
      simp only [bK.f]
      rw [e1 k (by omega), Option.bind_some]; dsimp only
      rw [e2, Option.bind_some]; dsimp only
      rw [if_neg c0, if_neg c1, if_pos c2, e3, Option.bind_some]
    by_cases c3 : x = 3
    · obtain ⟨y, p3, e3, r3, hy9⟩ := Gm (s := s) (ys := [0, 4, 5]) r2 (by simp) (by simp)
      refine ⟨⟨t.f0, t.f1, t.f2, y, t.f4⟩, p3, ⟨K1 + 1, fun k hk => ?_⟩, ⟨by dsimp only; have hy := hy9; simp only [List.mem_cons, List.not_mem_nil, or_false] at hy; omega, hin⟩, r3⟩
      obtain ⟨k, rfl⟩ : ∃ j, k = j + 1 := ⟨k - 1, by omega⟩
      simp only [bK.f]
      rw [e1 k (by omega), Option.bind_some]; dsimp only
      rw [e2, Option.bind_some]; dsimp only
      rw [if_neg c0, if_neg c1, if_neg c2, if_pos c3, e3, Option.bind_some]
    by_cases c4 : x = 4
    · obtain ⟨y, p3, ⟨K3, e3⟩, g3, r3⟩ := QF 1 (s := s) (by omega) (by omega) r2
      dsimp only at e3
      simp only [Int.natCast_one, Int.cast_ofNat_Int] at e3
      have hy : Bw (d + 1) y := (Vt.mono (by omega) g3.vt : Vt (d + 1) y).bw
      refine ⟨⟨t.f0, t.f1, t.f2, t.f3, t.f4 ++ [y]⟩, p3, ⟨K1 + K3 + 1, fun k hk => ?_⟩, ⟨by dsimp only; simp only [List.length_append, List.length_cons, List.length_nil]; omega, fun z hz => ?_⟩, r3⟩
      · obtain ⟨k, rfl⟩ : ∃ j, k = j + 1 := ⟨k - 1, by omega⟩
        simp only [bK.f]
        rw [e1 k (by omega), Option.bind_some]; dsimp only
        rw [e2, Option.bind_some]; dsimp only
        rw [if_neg c0, if_neg c1, if_neg c2, if_neg c3, if_pos c4, e3 k (by omega), Option.bind_some]; dsimp only
        rw [if_pos (by omega)]
        rw [eta_s]
      · rcases List.mem_append.1 hz with h | h
        · exact hin z h
        · rw [List.mem_singleton.1 h]; exact hy
    by_cases c5 : x = 5
    · by_cases h0 : (t.f4.length : Int) > 0
      · obtain ⟨y, p3, e3, r3, y0, y1, _⟩ := uO (s := s) (a := (t.f4.length : Int)) r2 (by omega)
        have y1' := y1 (by omega)
        have hd1 : 1 ≤ d := by
          cases g1 with
          | bool => simp at h0
          | int => simp at h0
          | tup _ l' a1 a2 a3 =>
            cases l' with
            | nil => simp at a1
            | cons z l' => have := a3 z List.mem_cons_self; cases this <;> omega
          | lst _ m z a1 a2 a3 a4 a5 => exact a5
        obtain ⟨z, p4, ⟨K4, e4⟩, b4, r4⟩ := ih (s := s) hd1 (by omega) r3
        dsimp only at e4
        have hw : wrap64 (((d + 1 : Nat) : Int) - 1) = (d : Int) := by unfold wrap64; omega
        refine ⟨⟨t.f0, t.f1, t.f2, t.f3, t.f4.set y.toNat z⟩, p4, ⟨K1 + K4 + 1, fun k hk => ?_⟩, ⟨by dsimp only; rw [List.length_set]; omega, fun v hv => ?_⟩, r4⟩
        · obtain ⟨k, rfl⟩ : ∃ j, k = j + 1 := ⟨k - 1, by omega⟩
          simp only [bK.f]
          rw [e1 k (by omega), Option.bind_some]; dsimp only
          rw [e2, Option.bind_some]; dsimp only
          rw [if_neg c0, if_neg c1, if_neg c2, if_neg c3, if_neg c4, if_pos c5, if_pos h0, e3, Option.bind_some]; dsimp only
          rw [hw, e4 k (by omega), Option.bind_some]; dsimp only
          rw [if_pos y0, if_pos y1']
          rw [eta_s]
        · rcases List.mem_or_eq_of_mem_set hv with h | h
          · exact hin v h
          · rw [h]; exact b4
      · refine ⟨t, p2, ⟨K1 + 1, fun k hk => ?_⟩, g1.vt.bw.mono, r2⟩
        obtain ⟨k, rfl⟩ : ∃ j, k = j + 1 := ⟨k - 1, by omega⟩
        simp only [bK.f]
        rw [e1 k (by omega), Option.bind_some]; dsimp only
        rw [e2, Option.bind_some]; dsimp only
        rw [if_neg c0, if_neg c1, if_neg c2, if_neg c3, if_neg c4, if_pos c5, if_neg h0]
    by_cases c6 : x = 6
    · obtain ⟨y, p3, e3, r3, hy9⟩ := Gm (s := s) (ys := [3, 4]) r2 (by simp) (by simp)
      refine ⟨⟨y, 0, 0, 0, []⟩, p3, ⟨K1 + 1, fun k hk => ?_⟩, ⟨by simp, by simp⟩, r3⟩
      obtain ⟨k, rfl⟩ : ∃ j, k = j + 1 := ⟨k - 1, by omega⟩
      simp only [bK.f]
      rw [e1 k (by omega), Option.bind_some]; dsimp only
      rw [e2, Option.bind_some]; dsimp only
      rw [if_neg c0, if_neg c1, if_neg c2, if_neg c3, if_neg c4, if_neg c5, if_pos c6, e3, Option.bind_some]
    · refine ⟨t, p2, ⟨K1 + 1, fun k hk => ?_⟩, g1.vt.bw.mono, r2⟩
      obtain ⟨k, rfl⟩ : ∃ j, k = j + 1 := ⟨k - 1, by omega⟩
      simp only [bK.f]
      rw [e1 k (by omega), Option.bind_some]; dsimp only
      rw [e2, Option.bind_some]; dsimp only
      rw [if_neg c0, if_neg c1, if_neg c2, if_neg c3, if_neg c4, if_neg c5, if_neg c6]
end Go.Proofs.YtggelekooacmnaaDoor.Pure
