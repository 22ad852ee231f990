/- Lemmas for: l9 -/
import Derived.Lib.ItoaLen
import Derived.Lib.Join
import Derived.Lib.Strings
import Derived.Laws.BitsAllLaws
import Derived.Test.YtggelekooacmnaaDoorVt2
import Derived.Test.YtggelekooacmnaaDoorVt3
import Derived.Test.YtggelekooacmnaaDoorVt4
import Derived.Test.YtggelekooacmnaaDoorVt5
namespace Go.Proofs.YtggelekooacmnaaDoor.Q
open Go.RowKit Go.Proofs.YtggelekooacmnaaDoorW.aJ Go.Proofs.YtggelekooacmnaaDoorW.bu Go.Proofs.YtggelekooacmnaaDoorW.bB
attribute [local go_sem] cZ dh dO dP bX bY dm dn   -- for this text's walks alone
set_option linter.unusedVariables false
set_option linter.unusedSimpArgs false

/-! ### bn: function 87 -/
mutual
def bn.j0 : Nat → Bool → Int → Int → Int → Int → List (S24) → Int → List (S51) → Option (ByteArray)
 | 0, _, _, _, _, _, _, _, _ => none
 | k + 1, x15, vG, zR, zS, zT, jb, xA, mZ => if x15 = true then (bn.l0 k (⟨#[]⟩ : ByteArray) 0 vG zR zS zT jb xA mZ) else ((fG.f k xA).bind fun Od => (some Od))
def bn.l0 : Nat → ByteArray → Int → Int → Int → Int → Int → List (S24) → Int → List (S51) → Option (ByteArray)
 | 0, _, _, _, _, _, _, _, _, _ => none
 | k + 1, x5, x6, vG, zR, zS, zT, jb, xA, mZ => if x6 < (mZ.length : Int) then (if 0 < (jb.length : Int) then (if vG = 5 then (if 0 ≤ x6 then (if x6 < (jb.length : Int) then (if x6 > 0 then (if x5.size + 2 ≤ 9223372036854775807 then ((bn.f k ((ag jb x6).f0) ((ag jb x6).f1) ((ag jb x6).f2) ((ag jb x6).f3) ((ag jb x6).f4) ((bq mZ x6).f0) ((bq mZ x6).f1)).bind fun Ao => (if (x5 ++ (⟨#[44, 32]⟩ : ByteArray)).size + Ao.size ≤ 9223372036854775807 then (bn.l0 k ((x5 ++ (⟨#[44, 32]⟩ : ByteArray)) ++ Ao) (wrap64 (x6 + 1)) vG zR zS zT jb xA mZ) else (none))) else (none)) else ((bn.f k ((ag jb x6).f0) ((ag jb x6).f1) ((ag jb x6).f2) ((ag jb x6).f3) ((ag jb x6).f4) ((bq mZ x6).f0) ((bq mZ x6).f1)).bind fun t1126 => (if x5.size + t1126.size ≤ 9223372036854775807 then (bn.l0 k (x5 ++ t1126) (wrap64 (x6 + 1)) vG zR zS zT jb xA mZ) else (none)))) else (none)) else (none)) else (if x6 > 0 then (if x5.size + 2 ≤ 9223372036854775807 then (if 0 ≤ x6 then ((bn.f k ((ag jb 0).f0) ((ag jb 0).f1) ((ag jb 0).f2) ((ag jb 0).f3) ((ag jb 0).f4) ((bq mZ x6).f0) ((bq mZ x6).f1)).bind fun Ap => (if (x5 ++ (⟨#[44, 32]⟩ : ByteArray)).size + Ap.size ≤ 9223372036854775807 then (bn.l0 k ((x5 ++ (⟨#[44, 32]⟩ : ByteArray)) ++ Ap) (wrap64 (x6 + 1)) vG zR zS zT jb xA mZ) else (none))) else (none)) else (none)) else (if 0 ≤ x6 then ((bn.f k ((ag jb 0).f0) ((ag jb 0).f1) ((ag jb 0).f2) ((ag jb 0).f3) ((ag jb 0).f4) ((bq mZ x6).f0) ((bq mZ x6).f1)).bind fun t1130 => (if x5.size + t1130.size ≤ 9223372036854775807 then (bn.l0 k (x5 ++ t1130) (wrap64 (x6 + 1)) vG zR zS zT jb xA mZ) else (none))) else (none)))) else (none)) else (if vG = 5 then (if 1 + x5.size ≤ 9223372036854775807 then (if ((⟨#[40]⟩ : ByteArray) ++ x5).size + 1 ≤ 9223372036854775807 then (some (((⟨#[40]⟩ : ByteArray) ++ x5) ++ (⟨#[41]⟩ : ByteArray))) else (none)) else (none)) else (if 1 + x5.size ≤ 9223372036854775807 then (if ((⟨#[91]⟩ : ByteArray) ++ x5).size + 1 ≤ 9223372036854775807 then (some (((⟨#[91]⟩ : ByteArray) ++ x5) ++ (⟨#[93]⟩ : ByteArray))) else (none)) else (none)))
def bn.f : Nat → Int → Int → Int → Int → List (S24) → Int → List (S51) → Option (ByteArray)
 | 0, _, _, _, _, _, _, _ => none
 | k + 1, ah, ak, aj, ai, af, bf, aC => if ah = 1 then (if bf = 1 then (some (⟨#[116, 114, 117, 101]⟩ : ByteArray)) else (some (⟨#[102, 97, 108, 115, 101]⟩ : ByteArray))) else (if ah = 5 then (bn.j0 k (ah == 5) ah ak aj ai af bf aC) else (bn.j0 k (ah == 6) ah ak aj ai af bf aC))
end
def bn.T17 : Bool × List (List Nat × List Nat) := (true, [([], []), ([], []), ([], []), ([2], [2]), ([], []), ([3, 4], [3, 4]), ([5], [5]), ([1, 6], [1, 6]), ([0, 7], [0, 7]), ([8, 7, 0, 1, 2, 3, 4, 5, 6, 7, 8], [0, 8])])
def bn.B17 : List Nat := [0, 0, 0, 4, 0, 28, 60, 126, 255, 511]
theorem bn.KX : jX .any (opsOf Tryd.f87 17) = bn.T17 := by kernel_rfl
theorem bn.Gd : jK bn.T17.2 bn.B17 = true := by kernel_rfl
set_option maxHeartbeats 8000000 in
set_option maxRecDepth 100000 in
theorem bn.calls (k : Nat) : ∀ (ah ak aj ai : Int) (aY : Option Addr) (aT : Nat) (af : List (S24)) (bf : Int) (dW : Option Addr) (dE : Nat) (aC : List (S51)) (r : ByteArray) (w : World) (dD : Kd.C k24 w aY af.length af) (dX : af.length ≤ aT) (iW : Kd.C k51 w dW aC.length aC) (jB : aC.length ≤ dE) (h : bn.f k ah ak aj ai af bf aC = some r),
  Calls Tryd.prog 87 #[.agg #[.int .i64 ah, .int .i64 ak, .int .i64 aj, .int .i64 ai, .slice aY af.length aT], .agg #[.int .i64 bf, .slice dW aC.length dE]] w fun e w' => e = .returned (.string r) ∧ Below w.heap.size w w' := by
 induction k using Nat.strongRecOn with
 | _ k ih =>
 intro ah ak aj ai aY aT af bf dW dE aC r w dD dX iW jB h; cases k with
 | zero => exact absurd h (by simp [bn.f])
 | succ k =>
 simp only [bn.f] at h; have bT := aa.mk dD; clear dD dX; have jw := aa.mk iW; clear iW jB; have HB := aa.mk (Below.refl w.heap.size w); have H : (if ah = 1 then (if bf = 1 then (some (⟨#[116, 114, 117, 101]⟩ : ByteArray)) else (some (⟨#[102, 97, 108, 115, 101]⟩ : ByteArray))) else (if ah = 5 then (bn.j0 k (ah == 5) ah ak aj ai af bf aC) else (bn.j0 k (ah == 6) ah ak aj ai af bf aC))) = some r := h; clear h; by_cases c3 : ah = 1
 ·rw [if_pos c3] at H; obtain ⟨kM, mF⟩ := bq_ c3; clear c3; by_cases c4 : bf = 1
  focus
   rw [if_pos c4] at H; obtain ⟨kN, oZ⟩ := bq_ c4; clear c4
  rotate_left
  focus
   rw [if_neg c4] at H; obtain ⟨kN, oZ⟩ := bn_ c4
  rotate_left
  all_goals
   obtain rfl := Option.some.inj H; go_enter Tryd.func87, Tryd.ntmps87; go_wp2_with (first | ((with_reducible refine aM (N := 2) rfl ?_); refine bx_ ((t5_ ah ak aj ai aY af.length aT)) 24 ?_; intro Ja hg w5 jE GW1118 HB hb; clear hb hg) | ((with_reducible refine aM (N := 3) rfl ?_); refine bx_ ((t2_ bf dW aC.length dE)) 51 ?_; intro yK hg w6 iZ GW1119 HB hb; replace jE := kb_ jE hb; clear hb hg; obtain ⟨uw, _, _, _, _, _, _, _, _, _⟩ := bE jE.out; obtain ⟨qy, _, _, _⟩ := dS iZ.out))
   go_ret; exact ⟨re_, bl_⟩
 ·rw [if_neg c3] at H; obtain ⟨kM, mF⟩ := bn_ c3; have HC15 := aa.mk H; clear H; go_enter Tryd.func87, Tryd.ntmps87; go_upto_if 15 with (first | ((with_reducible refine aM (N := 2) rfl ?_); refine bx_ ((t5_ ah ak aj ai aY af.length aT)) 24 ?_; intro Ja hg w16 jE GW1118 HB hb; clear hb hg) | ((with_reducible refine aM (N := 3) rfl ?_); refine bx_ ((t2_ bf dW aC.length dE)) 51 ?_; intro yK hg w17 iZ GW1119 HB hb; replace jE := kb_ jE hb; clear hb hg; obtain ⟨Cv, _, _, _, _, _, _, _, _, _⟩ := bE jE.out))
  go_cut [15] (fun v15 wc => ∃ (kq : Nat) (Oe : Bool), v15 = .bool Oe ∧ aa (bn.j0 kq Oe ah ak aj ai af bf aC = some r) ∧ aa (kq ≤ k) ∧ aa (wc.heap[Ja]? = some (.cells #[.int .i64 ah, .int .i64 ak, .int .i64 aj, .int .i64 ai, (.slice aY af.length aT)] 24 (0, 0))) ∧ aa (wc.heap[yK]? = some (.cells #[.int .i64 bf, (.slice dW aC.length dE)] 51 (0, 0))) ∧ aa (Below w.heap.size w wc))
  case first =>
   have H := HC15.out; clear HC15; by_cases c20 : ah = 5
   ·rw [if_pos c20] at H; obtain ⟨wR, Nc⟩ := bq_ c20; clear c20; (rw [wR])
    have H' := aa.mk H; clear H; go_wp2; go_meet
    case rel => exact ⟨_, ((ah == 5)), rs_, H', ⟨by omega⟩, ⟨bk_⟩, ⟨bk_⟩, ⟨bl_⟩⟩
   ·rw [if_neg c20] at H; obtain ⟨wR, Nc⟩ := bn_ c20; (rw [wR])
    have H' := aa.mk H; clear H; go_wp2; go_meet
    case rel => exact ⟨_, ((ah == 6)), rs_, H', ⟨by omega⟩, ⟨bk_⟩, ⟨bk_⟩, ⟨bl_⟩⟩
  case rest =>
   clear HC15; (try clear c1); (try clear c2); (try clear p2); (try clear c3); (try clear kM); (try clear mF); (try clear c4); (try clear kN); (try clear oZ); (try clear c7); (try clear c8); (try clear c12); (try clear c18); (try clear c20); (try clear wR); (try clear Nc); (try clear zF zG Xt Xu Xv VO VP hfz13_2 hfz13_3 hfz13_4); (try clear uF vV hfz14_0 hfz14_1); (try clear Cv); (try clear uw); (try clear qy); obtain ⟨kq, Oe, rfl, HA, HJ14, jE, iZ, HB⟩ := hcut; cases kq with
   | zero => exact absurd HA.out (by simp [bn.j0])
   | succ kj14 =>
    have H := HA.out; clear HA; simp only [bn.j0] at H; by_cases c21 : Oe = true
    ·subst c21; have H1 : (bn.l0 kj14 (⟨#[]⟩ : ByteArray) 0 ah ak aj ai af bf aC) = some r := by rw [if_pos rfl] at H; exact H
     clear H; have H := H1; clear H1; have H' := aa.mk H; clear H; go_wp2; go_loopg [5, 6] kj14 (fun kq v5 v6 w' => ∃ (gq : ByteArray) (dw : Int), v5 = .string gq ∧ v6 = .int .i64 dw ∧ aa (bn.l0 kq gq dw ah ak aj ai af bf aC = some r) ∧ aa (kq ≤ kj14) ∧ aa (w'.heap[Ja]? = some (.cells #[.int .i64 ah, .int .i64 ak, .int .i64 aj, .int .i64 ai, (.slice aY af.length aT)] 24 (0, 0))) ∧ aa (w'.heap[yK]? = some (.cells #[.int .i64 bf, (.slice dW aC.length dE)] 51 (0, 0))) ∧ aa (Below w.heap.size w w'))
     case atStart => exact ⟨((⟨#[]⟩ : ByteArray)), (0), rs_, rs_, H', ⟨Nat.le_refl _⟩, ⟨bk_⟩, ⟨bk_⟩, ⟨bl_⟩⟩
     case round =>
      clear H'; (try clear c1); (try clear c2); (try clear p2); (try clear c3); (try clear kM); (try clear mF); (try clear c4); (try clear kN); (try clear oZ); (try clear c7); (try clear c8); (try clear c12); (try clear c18); (try clear c20); (try clear wR); (try clear Nc); (try clear c21); (try clear zF zG Xt Xu Xv VO VP hfz13_2 hfz13_3 hfz13_4); (try clear uF vV hfz14_0 hfz14_1); (try clear Cv); (try clear uw); (try clear qy); (try clear p2); obtain ⟨gq, dw, rfl, rfl, HA, HK2, jE, iZ, HB⟩ := hrel; cases gk with
      | zero => exact absurd HA.out (by simp [bn.l0])
      | succ k2 =>
       have H := HA.out; clear HA; simp only [bn.l0] at H; by_cases c22 : dw < (aC.length : Int)
       ·rw [if_pos c22] at H; have c22b0 := decide_eq_true c22; clear c22; by_cases c23 : 0 < (af.length : Int)
        ·rw [if_pos c23] at H; have Bq := decide_eq_true c23; clear c23; by_cases c24 : ah = 5
         ·rw [if_pos c24] at H; obtain ⟨Ah, MW⟩ := bq_ c24; clear c24; by_cases c25 : 0 ≤ dw
          ·rw [if_pos c25] at H; have MX := decide_eq_true c25; clear c25; by_cases c26 : dw < (af.length : Int)
           ·rw [if_pos c26] at H; have c26b0 := decide_eq_true c26; clear c26; by_cases c27 : dw > 0
            focus
             rw [if_pos c27] at H; have c27b0 : decide (0 < dw) = true := decide_eq_true c27; clear c27; by_cases c28 : gq.size + 2 ≤ 9223372036854775807
             rotate_left
             ·rw [if_neg c28] at H; exact absurd H (by simp)
             rw [if_pos c28] at H; try have c28b2 : (9223372036854775807 < gq.size + 2) = False := eq_false (Nat.not_lt.2 c28)
            rotate_left
            focus
             rw [if_neg c27] at H; have c27b0 : decide (0 < dw) = false := decide_eq_false c27; clear c27
            rotate_left
            all_goals
             replace H := Option.bind_eq_some_iff.mp H; obtain ⟨Ao, A290, H⟩ := H; have A29 := aa.mk A290; clear A290
            focus
             by_cases c30 : (gq ++ (⟨#[44, 32]⟩ : ByteArray)).size + Ao.size ≤ 9223372036854775807
             rotate_left
             ·rw [if_neg c30] at H; exact absurd H (by simp)
             rw [if_pos c30] at H; try skip
             have c30b9 : (9223372036854775807 < gq.size + 2 + Ao.size) = False := by have h := c30; simp only [ByteArray.size_append, CG, List.size_toArray, List.length_cons, List.length_nil] at h; exact eq_false (by omega)
            rotate_left
            focus
             by_cases c30 : gq.size + Ao.size ≤ 9223372036854775807
             rotate_left
             ·rw [if_neg c30] at H; exact absurd H (by simp)
             rw [if_pos c30] at H; try have c43b2 : (9223372036854775807 < gq.size + Ao.size) = False := eq_false (Nat.not_lt.2 c30)
            rotate_left
            all_goals
             have H' := aa.mk H; clear H; obtain ⟨_, Qb, _, _⟩ := dS iZ.out; obtain ⟨_, _, _, _, hcz33_4, _, _, _, _, _⟩ := bE jE.out; have p1120 : 0 ≤ (0 : Int) := (by omega); have q1120 : 0 < (af.length : Int) := dt_; obtain ⟨yL, kC, kD, e1120, xB, xC, xD, xE, xG, Hw, Hy⟩ := gu bT.out 0 p1120 q1120; cases e1120; have qi1120 : (0 < af.length) = True := eq_true (by omega); (try simp only [z0_, Nat.zero_mul, Addr.add_zero'] at xB xC xD xE xG)
             replace xB := hc_ HB xB; replace xC := hc_ HB xC; replace xD := hc_ HB xD; replace xE := hc_ HB xE; replace xG := hc_ HB xG; clear Hy Hw; try go_wp2_with (((with_reducible refine aM (N := 7) rfl ?_); refine bx_ ((t5_ 0 0 0 0 none 0 0)) 24 ?_; intro bS hg w34 jh AQ HB hb; have GE1121 := AQ; have jF := nl_ jE hg; have jG := nl_ iZ hg; have El := ng_ iZ hg; replace jE := kb_ jE hb; replace iZ := kb_ iZ hb; clear hb hg; have hnc35 := jF.out; have hnb36 := El.out; have hnc36 := jG.out; obtain ⟨Xm, Vw, Vx, hcz37_3, JO, hfz37_0, hfz37_1, hfz37_2, hfz37_3, hfz37_4⟩ := bE jh.out; obtain ⟨Xf, _, _, _, hcz38_4, _, _, _, _, _⟩ := bE jE.out; have p1122 : 0 ≤ (dw : Int) := dt_; have q1122 : dw < (af.length : Int) := dt_; obtain ⟨ad1122, xY, xZ, e1122, lX, pI, pJ, pK, pM, SF, SG⟩ := gu bT.out dw p1122 q1122; obtain rfl : yL = ad1122 := (by injection e1122); have zU : yL.block ≠ bS := Nat.ne_of_lt (Nat.lt_of_lt_of_le (by have := World.block_lt_of_cell? _ _ lX; rwa [add_block] at this) AQ.out); have zV : yL.block ≠ bS := Nat.ne_of_lt (Nat.lt_of_lt_of_le (by have := World.block_lt_of_cell? _ _ lX; rwa [add_block] at this) AQ.out); have zW : yL.block ≠ bS := Nat.ne_of_lt (Nat.lt_of_lt_of_le (by have := World.block_lt_of_cell? _ _ lX; rwa [add_block] at this) AQ.out); have zX : yL.block ≠ bS := Nat.ne_of_lt (Nat.lt_of_lt_of_le (by have := World.block_lt_of_cell? _ _ lX; rwa [add_block] at this) AQ.out); have zY : yL.block ≠ bS := Nat.ne_of_lt (Nat.lt_of_lt_of_le (by have := World.block_lt_of_cell? _ _ lX; rwa [add_block] at this) AQ.out); replace lX := hc_ HB lX; replace pI := hc_ HB pI; replace pJ := hc_ HB pJ; replace pK := hc_ HB pK; replace pM := hc_ HB pM; have HR1122_4 := aa.mk SG; have HC1122_4 := aa.mk SF; clear SG SF; replace lX := (cell_far (p := ⟨bS, 0, none⟩) (by (rw [add_block]; exact zU)) (.int .i64 ((ag af 0).f0))).trans lX; replace pI := (cell_far (p := ⟨bS, 0, none⟩) (by (rw [add_block]; exact zU)) (.int .i64 ((ag af 0).f0))).trans pI; replace pJ := (cell_far (p := ⟨bS, 0, none⟩) (by (rw [add_block]; exact zU)) (.int .i64 ((ag af 0).f0))).trans pJ; replace pK := (cell_far (p := ⟨bS, 0, none⟩) (by (rw [add_block]; exact zU)) (.int .i64 ((ag af 0).f0))).trans pK; replace pM := (cell_far (p := ⟨bS, 0, none⟩) (by (rw [add_block]; exact zU)) (.int .i64 ((ag af 0).f0))).trans pM; replace lX := (cell_far (p := ⟨bS, 1, none⟩) (by (rw [add_block]; exact zV)) (.int .i64 ((ag af 0).f1))).trans lX; replace pI := (cell_far (p := ⟨bS, 1, none⟩) (by (rw [add_block]; exact zV)) (.int .i64 ((ag af 0).f1))).trans pI; replace pJ := (cell_far (p := ⟨bS, 1, none⟩) (by (rw [add_block]; exact zV)) (.int .i64 ((ag af 0).f1))).trans pJ; replace pK := (cell_far (p := ⟨bS, 1, none⟩) (by (rw [add_block]; exact zV)) (.int .i64 ((ag af 0).f1))).trans pK; replace pM := (cell_far (p := ⟨bS, 1, none⟩) (by (rw [add_block]; exact zV)) (.int .i64 ((ag af 0).f1))).trans pM; replace lX := (cell_far (p := ⟨bS, 2, none⟩) (by (rw [add_block]; exact zW)) (.int .i64 ((ag af 0).f2))).trans lX; replace pI := (cell_far (p := ⟨bS, 2, none⟩) (by (rw [add_block]; exact zW)) (.int .i64 ((ag af 0).f2))).trans pI; replace pJ := (cell_far (p := ⟨bS, 2, none⟩) (by (rw [add_block]; exact zW)) (.int .i64 ((ag af 0).f2))).trans pJ; replace pK := (cell_far (p := ⟨bS, 2, none⟩) (by (rw [add_block]; exact zW)) (.int .i64 ((ag af 0).f2))).trans pK; replace pM := (cell_far (p := ⟨bS, 2, none⟩) (by (rw [add_block]; exact zW)) (.int .i64 ((ag af 0).f2))).trans pM; replace lX := (cell_far (p := ⟨bS, 3, none⟩) (by (rw [add_block]; exact zX)) (.int .i64 ((ag af 0).f3))).trans lX; replace pI := (cell_far (p := ⟨bS, 3, none⟩) (by (rw [add_block]; exact zX)) (.int .i64 ((ag af 0).f3))).trans pI; replace pJ := (cell_far (p := ⟨bS, 3, none⟩) (by (rw [add_block]; exact zX)) (.int .i64 ((ag af 0).f3))).trans pJ; replace pK := (cell_far (p := ⟨bS, 3, none⟩) (by (rw [add_block]; exact zX)) (.int .i64 ((ag af 0).f3))).trans pK; replace pM := (cell_far (p := ⟨bS, 3, none⟩) (by (rw [add_block]; exact zX)) (.int .i64 ((ag af 0).f3))).trans pM; replace lX := (cell_far (p := ⟨bS, 4, none⟩) (by (rw [add_block]; exact zY)) (.slice kC ((ag af 0).f4).length kD)).trans lX; replace pI := (cell_far (p := ⟨bS, 4, none⟩) (by (rw [add_block]; exact zY)) (.slice kC ((ag af 0).f4).length kD)).trans pI; replace pJ := (cell_far (p := ⟨bS, 4, none⟩) (by (rw [add_block]; exact zY)) (.slice kC ((ag af 0).f4).length kD)).trans pJ; replace pK := (cell_far (p := ⟨bS, 4, none⟩) (by (rw [add_block]; exact zY)) (.slice kC ((ag af 0).f4).length kD)).trans pK; replace pM := (cell_far (p := ⟨bS, 4, none⟩) (by (rw [add_block]; exact zY)) (.slice kC ((ag af 0).f4).length kD)).trans pM; clear zU; clear zV; clear zW; clear zX; clear zY; replace p1122 := eq_true p1122; replace q1122 := eq_true q1122))
             have n0_ : aa (((((((((((w34.setCell ⟨bS, 0, none⟩ (.int .i64 ((ag af 0).f0))).setCell ⟨bS, 1, none⟩ (.int .i64 ((ag af 0).f1))).setCell ⟨bS, 2, none⟩ (.int .i64 ((ag af 0).f2))).setCell ⟨bS, 3, none⟩ (.int .i64 ((ag af 0).f3))).setCell ⟨bS, 4, none⟩ (.slice kC ((ag af 0).f4).length kD)).setCell ⟨bS, 0, none⟩ (.int .i64 ((ag af dw).f0))).setCell ⟨bS, 1, none⟩ (.int .i64 ((ag af dw).f1))).setCell ⟨bS, 2, none⟩ (.int .i64 ((ag af dw).f2))).setCell ⟨bS, 3, none⟩ (.int .i64 ((ag af dw).f3))).setCell ⟨bS, 4, none⟩ (.slice xY ((ag af dw).f4).length xZ)).heap[Ja]? = some (.cells (t5_ ah ak aj ai (some yL) af.length aT) 24 (0, 0))) := ⟨by refine bP ?_ jF.out _; refine bP ?_ jF.out _; refine bP ?_ jF.out _; refine bP ?_ jF.out _; refine bP ?_ jF.out _; refine bP ?_ jF.out _; refine bP ?_ jF.out _; refine bP ?_ jF.out _; refine bP ?_ jF.out _; refine bP ?_ jF.out _; exact jE.out⟩; have n1_ : aa (((((((((((w34.setCell ⟨bS, 0, none⟩ (.int .i64 ((ag af 0).f0))).setCell ⟨bS, 1, none⟩ (.int .i64 ((ag af 0).f1))).setCell ⟨bS, 2, none⟩ (.int .i64 ((ag af 0).f2))).setCell ⟨bS, 3, none⟩ (.int .i64 ((ag af 0).f3))).setCell ⟨bS, 4, none⟩ (.slice kC ((ag af 0).f4).length kD)).setCell ⟨bS, 0, none⟩ (.int .i64 ((ag af dw).f0))).setCell ⟨bS, 1, none⟩ (.int .i64 ((ag af dw).f1))).setCell ⟨bS, 2, none⟩ (.int .i64 ((ag af dw).f2))).setCell ⟨bS, 3, none⟩ (.int .i64 ((ag af dw).f3))).setCell ⟨bS, 4, none⟩ (.slice xY ((ag af dw).f4).length xZ)).heap[yK]? = some (.cells (t2_ bf dW aC.length dE) 51 (0, 0))) := ⟨by refine bP ?_ jG.out _; refine bP ?_ jG.out _; refine bP ?_ jG.out _; refine bP ?_ jG.out _; refine bP ?_ jG.out _; refine bP ?_ jG.out _; refine bP ?_ jG.out _; refine bP ?_ jG.out _; refine bP ?_ jG.out _; refine bP ?_ jG.out _; exact iZ.out⟩; have n2_ : aa (((((((((((w34.setCell ⟨bS, 0, none⟩ (.int .i64 ((ag af 0).f0))).setCell ⟨bS, 1, none⟩ (.int .i64 ((ag af 0).f1))).setCell ⟨bS, 2, none⟩ (.int .i64 ((ag af 0).f2))).setCell ⟨bS, 3, none⟩ (.int .i64 ((ag af 0).f3))).setCell ⟨bS, 4, none⟩ (.slice kC ((ag af 0).f4).length kD)).setCell ⟨bS, 0, none⟩ (.int .i64 ((ag af dw).f0))).setCell ⟨bS, 1, none⟩ (.int .i64 ((ag af dw).f1))).setCell ⟨bS, 2, none⟩ (.int .i64 ((ag af dw).f2))).setCell ⟨bS, 3, none⟩ (.int .i64 ((ag af dw).f3))).setCell ⟨bS, 4, none⟩ (.slice xY ((ag af dw).f4).length xZ)).heap[bS]? = some (.cells (t5_ ((ag af dw).f0) ((ag af dw).f1) ((ag af dw).f2) ((ag af dw).f3) xY ((ag af dw).f4).length xZ) 24 (0, 0))) := ⟨by refine eP (cs := (t5_ ((ag af dw).f0) ((ag af dw).f1) ((ag af dw).f2) ((ag af dw).f3) kC ((ag af 0).f4).length kD)) ?_ 4 _ rfl; refine eP (cs := (t5_ ((ag af dw).f0) ((ag af dw).f1) ((ag af dw).f2) ((ag af 0).f3) kC ((ag af 0).f4).length kD)) ?_ 3 _ rfl; refine eP (cs := (t5_ ((ag af dw).f0) ((ag af dw).f1) ((ag af 0).f2) ((ag af 0).f3) kC ((ag af 0).f4).length kD)) ?_ 2 _ rfl; refine eP (cs := (t5_ ((ag af dw).f0) ((ag af 0).f1) ((ag af 0).f2) ((ag af 0).f3) kC ((ag af 0).f4).length kD)) ?_ 1 _ rfl; refine eP (cs := (t5_ ((ag af 0).f0) ((ag af 0).f1) ((ag af 0).f2) ((ag af 0).f3) kC ((ag af 0).f4).length kD)) ?_ 0 _ rfl; refine eP (cs := (t5_ ((ag af 0).f0) ((ag af 0).f1) ((ag af 0).f2) ((ag af 0).f3) none 0 0)) ?_ 4 _ rfl; refine eP (cs := (t5_ ((ag af 0).f0) ((ag af 0).f1) ((ag af 0).f2) 0 none 0 0)) ?_ 3 _ rfl; refine eP (cs := (t5_ ((ag af 0).f0) ((ag af 0).f1) 0 0 none 0 0)) ?_ 2 _ rfl; refine eP (cs := (t5_ ((ag af 0).f0) 0 0 0 none 0 0)) ?_ 1 _ rfl; refine eP (cs := (t5_ 0 0 0 0 none 0 0)) ?_ 0 _ rfl; exact jh.out⟩
             have n3_ : aa (Below w.heap.size w ((((((((((w34.setCell ⟨bS, 0, none⟩ (.int .i64 ((ag af 0).f0))).setCell ⟨bS, 1, none⟩ (.int .i64 ((ag af 0).f1))).setCell ⟨bS, 2, none⟩ (.int .i64 ((ag af 0).f2))).setCell ⟨bS, 3, none⟩ (.int .i64 ((ag af 0).f3))).setCell ⟨bS, 4, none⟩ (.slice kC ((ag af 0).f4).length kD)).setCell ⟨bS, 0, none⟩ (.int .i64 ((ag af dw).f0))).setCell ⟨bS, 1, none⟩ (.int .i64 ((ag af dw).f1))).setCell ⟨bS, 2, none⟩ (.int .i64 ((ag af dw).f2))).setCell ⟨bS, 3, none⟩ (.int .i64 ((ag af dw).f3))).setCell ⟨bS, 4, none⟩ (.slice xY ((ag af dw).f4).length xZ))) := ⟨bl_⟩; generalize ((((((((((w34.setCell ⟨bS, 0, none⟩ (.int .i64 ((ag af 0).f0))).setCell ⟨bS, 1, none⟩ (.int .i64 ((ag af 0).f1))).setCell ⟨bS, 2, none⟩ (.int .i64 ((ag af 0).f2))).setCell ⟨bS, 3, none⟩ (.int .i64 ((ag af 0).f3))).setCell ⟨bS, 4, none⟩ (.slice kC ((ag af 0).f4).length kD)).setCell ⟨bS, 0, none⟩ (.int .i64 ((ag af dw).f0))).setCell ⟨bS, 1, none⟩ (.int .i64 ((ag af dw).f1))).setCell ⟨bS, 2, none⟩ (.int .i64 ((ag af dw).f2))).setCell ⟨bS, 3, none⟩ (.int .i64 ((ag af dw).f3))).setCell ⟨bS, 4, none⟩ (.slice xY ((ag af dw).f4).length xZ)) = w39 at n0_ n1_ n2_ n3_ ⊢
             have jE := n0_; have iZ := n1_; have jh := n2_; have HB := n3_; clear n0_ n1_ n2_ n3_; replace jE := aa.mk (dz jE.out); replace iZ := aa.mk (dz iZ.out); replace jh := aa.mk (dz jh.out); replace HB := aa.mk (eX HB.out); have p1123 : 0 ≤ (dw : Int) := dt_; have q1123 : dw < (aC.length : Int) := dt_; obtain ⟨Og, Xw, Xx, e1123, Hz, HY, SH, SI⟩ := rW jw.out dw p1123 q1123; have SK := HY; have SL := Hz; cases e1123; replace Hz := hc_ HB Hz; replace HY := hc_ HB HY; have SN := aa.mk SI; have HC1123_1 := aa.mk SH; clear SI SH; replace q1123 := eq_true q1123; refine kL (n := 10) (S := fun w' => w'.cell? ⟨bS, 0, none⟩ = some (.int .i64 ((ag af dw).f0)) ∧ w'.cell? ⟨bS, 1, none⟩ = some (.int .i64 ((ag af dw).f1)) ∧ w'.cell? ⟨bS, 2, none⟩ = some (.int .i64 ((ag af dw).f2)) ∧ w'.cell? ⟨bS, 3, none⟩ = some (.int .i64 ((ag af dw).f3)) ∧ w'.cell? ⟨bS, 4, none⟩ = some (.slice xY ((ag af dw).f4).length xZ) ∧ w'.cell? ⟨yK, 0, none⟩ = some (.int .i64 bf) ∧ w'.cell? ⟨yK, 1, none⟩ = some (.slice (some Og) aC.length dE) ∧ w'.cell? (Og.add ((dw).toNat * 2)) = some (.int .i64 ((bq aC dw).f0)) ∧ w'.cell? ⟨(Og.add ((dw).toNat * 2)).block, (Og.add ((dw).toNat * 2)).off + 1, none⟩ = some (.slice Xw ((bq aC dw).f1).length Xx)) (ds := []) #[false, false, false, false, false, false, false, false, false, false] (by kernel_rfl) rfl rfl ⟨ci_ jh, ci_ jh, ci_ jh, ci_ jh, ci_ jh, ci_ iZ, ci_ iZ, (hc_ HB SL), (hc_ HB SK)⟩ (fun hHeld => ?_); refine iG bn.KX bn.Gd (fun HT_ HW_ => ?_)
             generalize w39.drew = w40 at jE iZ jh HB SN Hz HY hHeld ⊢
             refine pu_ HT_ 0 41 (bm 10 1) ?_
             refine pu_ HT_ 2 43 (bm 10 5) ?_
             refine pu_ HT_ 4 45 (bm 10 21) ?_
             refine ta_ HT_ HW_ 1 42 (bm 10 23) hHeld ?_
             refine ta_ HT_ HW_ 3 44 (bm 10 31) hHeld ?_
             refine pu_ HT_ 5 46 (bm 10 63) ?_
             refine ta_ HT_ HW_ 6 47 (bm 10 127) hHeld ?_
             refine jW (i := 7) (N := some 48) #[true, true, true, true, true, true, true, true, false, false] rfl rfl (fB HT_.out (by kernel_rfl)) (by decide) (fun K hK => ?_)
             refine mf Tryd.func87 (by kernel_rfl) rfl #[.agg (t5_ ((ag af dw).f0) ((ag af dw).f1) ((ag af dw).f2) ((ag af dw).f3) xY ((ag af dw).f4).length xZ), .agg (t2_ ((bq aC dw).f0) Xw ((bq aC dw).f1).length Xx)] (by rfl) rfl rfl mp_ ?_
             with_reducible refine (ih k2 (by have := HJ14.out; have := HK2.out; omega) ((ag af dw).f0) ((ag af dw).f1) ((ag af dw).f2) ((ag af dw).f3) _ _ ((ag af dw).f4) ((bq aC dw).f0) _ _ ((bq aC dw).f1) Ao _ ?au ?av ?bO ?bQ A29.out).mono ?_
             (case au => exact cb_ (Kd.aV HR1122_4.out HB.out))
             (case av => exact HC1122_4.out)
             (case bO => exact cb_ (Kd.aV SN.out HB.out))
             (case bQ => exact HC1123_1.out)
             rintro e w41 ⟨rfl, hb⟩
             refine ⟨_, rfl, ?_⟩
             replace jE := kb_ jE hb; replace iZ := kb_ iZ hb; replace jh := kb_ jh hb; replace HB := aa.mk (ax bl_ hb); refine hK.out _ _ ⟨ci_ jh, ci_ jh, ci_ jh, ci_ jh, ci_ jh, ci_ iZ, ci_ iZ, (hc_ HB SL), (hc_ HB SK)⟩ (fun hHeld => ?_)
             clear hK K; refine jd (a' := ?_) ?_ ?_
             rotate_left
             ·show Act.put _ (some 48) _ = _
              simp only [Act.put, List.setIfInBounds_toArray, List.set_cons_zero, List.set_cons_succ, gM, iE]; rfl
             refine pu_ HT_ 8 49 (bm 10 511) ?_
             refine pu_ HT_ 9 5 #[true, true, true, true, true, true, true, true, true, true] ?_
             refine mH (jT HT_.out (by kernel_rfl)) ?_
             try go_wp2
            ·go_roundg k2
             case measure => have := HJ14.out; have := HK2.out; omega
             case rel => exact ⟨((gq ++ (⟨#[44, 32]⟩ : ByteArray)) ++ Ao), (wrap64 (dw + 1)), rs_, rs_, H', ⟨by have := HJ14.out; have := HK2.out; omega⟩, ⟨bk_⟩, ⟨bk_⟩, ⟨bl_⟩⟩
            ·go_roundg k2
             case measure => have := HJ14.out; have := HK2.out; omega
             case rel => exact ⟨(gq ++ Ao), (wrap64 (dw + 1)), rs_, rs_, H', ⟨by have := HJ14.out; have := HK2.out; omega⟩, ⟨bk_⟩, ⟨bk_⟩, ⟨bl_⟩⟩
           ·rw [if_neg c26] at H; exact absurd H (by simp)
          ·rw [if_neg c25] at H; exact absurd H (by simp)
         ·rw [if_neg c24] at H; obtain ⟨Ah, MW⟩ := bn_ c24; by_cases c55 : dw > 0
          focus
           rw [if_pos c55] at H; have c55b0 : decide (0 < dw) = true := decide_eq_true c55; clear c55; by_cases c56 : gq.size + 2 ≤ 9223372036854775807
           rotate_left
           ·rw [if_neg c56] at H; exact absurd H (by simp)
           rw [if_pos c56] at H; try have c56b2 : (9223372036854775807 < gq.size + 2) = False := eq_false (Nat.not_lt.2 c56)
          rotate_left
          focus
           rw [if_neg c55] at H; have c55b0 : decide (0 < dw) = false := decide_eq_false c55; clear c55
          rotate_left
          all_goals
           by_cases c57 : 0 ≤ dw
           rotate_left
           ·rw [if_neg c57] at H; exact absurd H (by simp)
           rw [if_pos c57] at H; have c57b0 := decide_eq_true c57; clear c57; replace H := Option.bind_eq_some_iff.mp H; obtain ⟨Ap, A580, H⟩ := H; have A58 := aa.mk A580; clear A580
          focus
           by_cases c59 : (gq ++ (⟨#[44, 32]⟩ : ByteArray)).size + Ap.size ≤ 9223372036854775807
           rotate_left
           ·rw [if_neg c59] at H; exact absurd H (by simp)
           rw [if_pos c59] at H; try skip
           have c59b9 : (9223372036854775807 < gq.size + 2 + Ap.size) = False := by have h := c59; simp only [ByteArray.size_append, CG, List.size_toArray, List.length_cons, List.length_nil] at h; exact eq_false (by omega)
          rotate_left
          focus
           by_cases c59 : gq.size + Ap.size ≤ 9223372036854775807
           rotate_left
           ·rw [if_neg c59] at H; exact absurd H (by simp)
           rw [if_pos c59] at H; try have c73b2 : (9223372036854775807 < gq.size + Ap.size) = False := eq_false (Nat.not_lt.2 c59)
          rotate_left
          all_goals
           have H' := aa.mk H; clear H; obtain ⟨_, hcz61_1, _, _⟩ := dS iZ.out; obtain ⟨_, _, _, _, U7, _, _, _, _, _⟩ := bE jE.out; have p1120 : 0 ≤ (0 : Int) := (by omega); have q1120 : 0 < (af.length : Int) := dt_; obtain ⟨yL, kC, kD, e1120, xB, xC, xD, xE, xG, Hw, Hy⟩ := gu bT.out 0 p1120 q1120; cases e1120; have qi1120 : (0 < af.length) = True := eq_true (by omega); (try simp only [z0_, Nat.zero_mul, Addr.add_zero'] at xB xC xD xE xG)
           replace xB := hc_ HB xB; replace xC := hc_ HB xC; replace xD := hc_ HB xD; replace xE := hc_ HB xE; replace xG := hc_ HB xG; have HR1120_4 := aa.mk Hy; have HC1120_4 := aa.mk Hw; clear Hy Hw; try go_wp2_with (((with_reducible refine aM (N := 7) rfl ?_); refine bx_ ((t5_ 0 0 0 0 none 0 0)) 24 ?_; intro bS hg w63 jh AQ HB hb; have GE1121 := AQ; have jF := nl_ jE hg; have jG := nl_ iZ hg; have El := ng_ iZ hg; replace jE := kb_ jE hb; replace iZ := kb_ iZ hb; clear hb hg; have hnc64 := jF.out; have hnb65 := El.out; have hnc65 := jG.out; obtain ⟨JV, JW, Ph, JX, Pj, hfz66_0, hfz66_1, hfz66_2, hfz66_3, hfz66_4⟩ := bE jh.out; obtain ⟨WK, _, _, _, _, _, _, _, _, _⟩ := bE jE.out))
           have n0_ : aa ((((((w63.setCell ⟨bS, 0, none⟩ (.int .i64 ((ag af 0).f0))).setCell ⟨bS, 1, none⟩ (.int .i64 ((ag af 0).f1))).setCell ⟨bS, 2, none⟩ (.int .i64 ((ag af 0).f2))).setCell ⟨bS, 3, none⟩ (.int .i64 ((ag af 0).f3))).setCell ⟨bS, 4, none⟩ (.slice kC ((ag af 0).f4).length kD)).heap[Ja]? = some (.cells (t5_ ah ak aj ai (some yL) af.length aT) 24 (0, 0))) := ⟨by refine bP ?_ jF.out _; refine bP ?_ jF.out _; refine bP ?_ jF.out _; refine bP ?_ jF.out _; refine bP ?_ jF.out _; exact jE.out⟩; have n1_ : aa ((((((w63.setCell ⟨bS, 0, none⟩ (.int .i64 ((ag af 0).f0))).setCell ⟨bS, 1, none⟩ (.int .i64 ((ag af 0).f1))).setCell ⟨bS, 2, none⟩ (.int .i64 ((ag af 0).f2))).setCell ⟨bS, 3, none⟩ (.int .i64 ((ag af 0).f3))).setCell ⟨bS, 4, none⟩ (.slice kC ((ag af 0).f4).length kD)).heap[yK]? = some (.cells (t2_ bf dW aC.length dE) 51 (0, 0))) := ⟨by refine bP ?_ jG.out _; refine bP ?_ jG.out _; refine bP ?_ jG.out _; refine bP ?_ jG.out _; refine bP ?_ jG.out _; exact iZ.out⟩; have n2_ : aa ((((((w63.setCell ⟨bS, 0, none⟩ (.int .i64 ((ag af 0).f0))).setCell ⟨bS, 1, none⟩ (.int .i64 ((ag af 0).f1))).setCell ⟨bS, 2, none⟩ (.int .i64 ((ag af 0).f2))).setCell ⟨bS, 3, none⟩ (.int .i64 ((ag af 0).f3))).setCell ⟨bS, 4, none⟩ (.slice kC ((ag af 0).f4).length kD)).heap[bS]? = some (.cells (t5_ ((ag af 0).f0) ((ag af 0).f1) ((ag af 0).f2) ((ag af 0).f3) kC ((ag af 0).f4).length kD) 24 (0, 0))) := ⟨by refine eP (cs := (t5_ ((ag af 0).f0) ((ag af 0).f1) ((ag af 0).f2) ((ag af 0).f3) none 0 0)) ?_ 4 _ rfl; refine eP (cs := (t5_ ((ag af 0).f0) ((ag af 0).f1) ((ag af 0).f2) 0 none 0 0)) ?_ 3 _ rfl; refine eP (cs := (t5_ ((ag af 0).f0) ((ag af 0).f1) 0 0 none 0 0)) ?_ 2 _ rfl; refine eP (cs := (t5_ ((ag af 0).f0) 0 0 0 none 0 0)) ?_ 1 _ rfl; refine eP (cs := (t5_ 0 0 0 0 none 0 0)) ?_ 0 _ rfl; exact jh.out⟩; have n3_ : aa (Below w.heap.size w (((((w63.setCell ⟨bS, 0, none⟩ (.int .i64 ((ag af 0).f0))).setCell ⟨bS, 1, none⟩ (.int .i64 ((ag af 0).f1))).setCell ⟨bS, 2, none⟩ (.int .i64 ((ag af 0).f2))).setCell ⟨bS, 3, none⟩ (.int .i64 ((ag af 0).f3))).setCell ⟨bS, 4, none⟩ (.slice kC ((ag af 0).f4).length kD))) := ⟨bl_⟩; generalize (((((w63.setCell ⟨bS, 0, none⟩ (.int .i64 ((ag af 0).f0))).setCell ⟨bS, 1, none⟩ (.int .i64 ((ag af 0).f1))).setCell ⟨bS, 2, none⟩ (.int .i64 ((ag af 0).f2))).setCell ⟨bS, 3, none⟩ (.int .i64 ((ag af 0).f3))).setCell ⟨bS, 4, none⟩ (.slice kC ((ag af 0).f4).length kD)) = w68 at n0_ n1_ n2_ n3_ ⊢
           have jE := n0_; have iZ := n1_; have jh := n2_; have HB := n3_; clear n0_ n1_ n2_ n3_; replace jE := aa.mk (dz jE.out); replace iZ := aa.mk (dz iZ.out); replace jh := aa.mk (dz jh.out); replace HB := aa.mk (eX HB.out); have p1127 : 0 ≤ (dw : Int) := dt_; have q1127 : dw < (aC.length : Int) := dt_; obtain ⟨Oh, Xy, Xz, e1127, HZ, H5, SQ, SS⟩ := rW jw.out dw p1127 q1127; have SV := H5; have SX := HZ; cases e1127; replace HZ := hc_ HB HZ; replace H5 := hc_ HB H5; have SY := aa.mk SS; have HC1127_1 := aa.mk SQ; clear SS SQ; replace p1127 := eq_true p1127; replace q1127 := eq_true q1127; refine kL (n := 10) (S := fun w' => w'.cell? ⟨bS, 0, none⟩ = some (.int .i64 ((ag af 0).f0)) ∧ w'.cell? ⟨bS, 1, none⟩ = some (.int .i64 ((ag af 0).f1)) ∧ w'.cell? ⟨bS, 2, none⟩ = some (.int .i64 ((ag af 0).f2)) ∧ w'.cell? ⟨bS, 3, none⟩ = some (.int .i64 ((ag af 0).f3)) ∧ w'.cell? ⟨bS, 4, none⟩ = some (.slice kC ((ag af 0).f4).length kD) ∧ w'.cell? ⟨yK, 0, none⟩ = some (.int .i64 bf) ∧ w'.cell? ⟨yK, 1, none⟩ = some (.slice (some Oh) aC.length dE) ∧ w'.cell? (Oh.add ((dw).toNat * 2)) = some (.int .i64 ((bq aC dw).f0)) ∧ w'.cell? ⟨(Oh.add ((dw).toNat * 2)).block, (Oh.add ((dw).toNat * 2)).off + 1, none⟩ = some (.slice Xy ((bq aC dw).f1).length Xz)) (ds := []) #[false, false, false, false, false, false, false, false, false, false] (by kernel_rfl) rfl rfl ⟨ci_ jh, ci_ jh, ci_ jh, ci_ jh, ci_ jh, ci_ iZ, ci_ iZ, (hc_ HB SX), (hc_ HB SV)⟩ (fun hHeld => ?_); refine iG bn.KX bn.Gd (fun HT_ HW_ => ?_)
           generalize w68.drew = w69 at jE iZ jh HB SY HZ H5 hHeld ⊢
           refine pu_ HT_ 0 41 (bm 10 1) ?_
           refine pu_ HT_ 2 43 (bm 10 5) ?_
           refine pu_ HT_ 4 45 (bm 10 21) ?_
           refine ta_ HT_ HW_ 1 42 (bm 10 23) hHeld ?_
           refine ta_ HT_ HW_ 3 44 (bm 10 31) hHeld ?_
           refine pu_ HT_ 5 46 (bm 10 63) ?_
           refine ta_ HT_ HW_ 6 47 (bm 10 127) hHeld ?_
           refine jW (i := 7) (N := some 48) #[true, true, true, true, true, true, true, true, false, false] rfl rfl (fB HT_.out (by kernel_rfl)) (by decide) (fun K hK => ?_)
           refine mf Tryd.func87 (by kernel_rfl) rfl #[.agg (t5_ ((ag af 0).f0) ((ag af 0).f1) ((ag af 0).f2) ((ag af 0).f3) kC ((ag af 0).f4).length kD), .agg (t2_ ((bq aC dw).f0) Xy ((bq aC dw).f1).length Xz)] (by rfl) rfl rfl mp_ ?_
           with_reducible refine (ih k2 (by have := HJ14.out; have := HK2.out; omega) ((ag af 0).f0) ((ag af 0).f1) ((ag af 0).f2) ((ag af 0).f3) _ _ ((ag af 0).f4) ((bq aC dw).f0) _ _ ((bq aC dw).f1) Ap _ ?au ?av ?bO ?bQ A58.out).mono ?_
           (case au => exact cb_ (Kd.aV HR1120_4.out HB.out))
           (case av => exact HC1120_4.out)
           (case bO => exact cb_ (Kd.aV SY.out HB.out))
           (case bQ => exact HC1127_1.out)
           rintro e w70 ⟨rfl, hb⟩
           refine ⟨_, rfl, ?_⟩
           replace jE := kb_ jE hb; replace iZ := kb_ iZ hb; replace jh := kb_ jh hb; replace HB := aa.mk (ax bl_ hb); refine hK.out _ _ ⟨ci_ jh, ci_ jh, ci_ jh, ci_ jh, ci_ jh, ci_ iZ, ci_ iZ, (hc_ HB SX), (hc_ HB SV)⟩ (fun hHeld => ?_)
           clear hK K; refine jd (a' := ?_) ?_ ?_
           rotate_left
           ·show Act.put _ (some 48) _ = _
            simp only [Act.put, List.setIfInBounds_toArray, List.set_cons_zero, List.set_cons_succ, gM, iE]; rfl
           refine pu_ HT_ 8 49 (bm 10 511) ?_
           refine pu_ HT_ 9 5 #[true, true, true, true, true, true, true, true, true, true] ?_
           refine mH (jT HT_.out (by kernel_rfl)) ?_
           try go_wp2
          ·go_roundg k2
           case measure => have := HJ14.out; have := HK2.out; omega
           case rel => exact ⟨((gq ++ (⟨#[44, 32]⟩ : ByteArray)) ++ Ap), (wrap64 (dw + 1)), rs_, rs_, H', ⟨by have := HJ14.out; have := HK2.out; omega⟩, ⟨bk_⟩, ⟨bk_⟩, ⟨bl_⟩⟩
          ·go_roundg k2
           case measure => have := HJ14.out; have := HK2.out; omega
           case rel => exact ⟨(gq ++ Ap), (wrap64 (dw + 1)), rs_, rs_, H', ⟨by have := HJ14.out; have := HK2.out; omega⟩, ⟨bk_⟩, ⟨bk_⟩, ⟨bl_⟩⟩
        ·rw [if_neg c23] at H; exact absurd H (by simp)
       ·rw [if_neg c22] at H; have c22b0 := decide_eq_false c22; clear c22; by_cases c85 : ah = 5
        focus
         rw [if_pos c85] at H; obtain ⟨c85b0, c85b1⟩ := bq_ c85; clear c85
        rotate_left
        focus
         rw [if_neg c85] at H; obtain ⟨c85b0, c85b1⟩ := bn_ c85
        rotate_left
        all_goals
         by_cases c86 : 1 + gq.size ≤ 9223372036854775807
         rotate_left
         ·rw [if_neg c86] at H; exact absurd H (by simp)
         rw [if_pos c86] at H; try have c86b2 : (9223372036854775807 < 1 + gq.size) = False := eq_false (Nat.not_lt.2 c86)
        focus
         by_cases c87 : ((⟨#[40]⟩ : ByteArray) ++ gq).size + 1 ≤ 9223372036854775807
         rotate_left
         ·rw [if_neg c87] at H; exact absurd H (by simp)
         rw [if_pos c87] at H; try skip
        rotate_left
        focus
         by_cases c87 : ((⟨#[91]⟩ : ByteArray) ++ gq).size + 1 ≤ 9223372036854775807
         rotate_left
         ·rw [if_neg c87] at H; exact absurd H (by simp)
         rw [if_pos c87] at H; try skip
        rotate_left
        all_goals
         have c87b9 : (9223372036854775807 < 1 + gq.size + 1) = False := by have h := c87; simp only [ByteArray.size_append, CG, List.size_toArray, List.length_cons, List.length_nil] at h; exact eq_false (by omega)
         obtain rfl := Option.some.inj H; obtain ⟨_, WB, _, _⟩ := dS iZ.out; obtain ⟨hcz90_0, _, _, _, _, _, _, _, _, _⟩ := bE jE.out; go_wp2; go_ret; exact ⟨re_, bl_⟩
    ·replace c21 := Bool.eq_false_iff.mpr c21; subst c21; have H1 : ((fG.f kj14 bf).bind fun Od => (some Od)) = some r := by rw [if_neg (show ¬ (false = true) by decide)] at H; exact H
     clear H; have H := H1; clear H1; replace H := Option.bind_eq_some_iff.mp H; obtain ⟨Od, A960, H⟩ := H; have A96 := aa.mk A960; clear A960; obtain rfl := Option.some.inj H; obtain ⟨hcz98_0, _, _, _⟩ := dS iZ.out; go_wp2_with (((with_reducible refine ay (f := 92) rfl ?_); refine gl_ (some 61) Tryd.func92 #[.int .i64 bf] ?_; (with_reducible refine (fG.calls kj14 bf Od _ A96.out).mono ?_); rintro e w99 ⟨rfl, hb⟩; refine ⟨_, rfl, ?_⟩; replace HB := aa.mk (ax bl_ hb)))
     go_ret; exact ⟨re_, bl_⟩


/-! ### iT: function 67 -/
def iT.f (k : Nat) (ah ak aj ai : Int) (af : List (S24)) (bf : Int) (aC : List (S51)) : Option (ByteArray × Int) := (dR.f k ah ak aj ai af bf aC).bind fun D9 => (if D9 = 0 then ((bn.f k ah ak aj ai af bf aC).bind fun Oi => (some (Oi, 0))) else (some ((⟨#[]⟩ : ByteArray), D9)))
set_option maxHeartbeats 8000000 in
set_option maxRecDepth 100000 in
theorem iT.calls (k : Nat) (ah ak aj ai : Int) (aY : Option Addr) (aT : Nat) (af : List (S24)) (bf : Int) (dW : Option Addr) (dE : Nat) (aC : List (S51)) (r1 : ByteArray) (r2 : Int) (w : World) (dD : Kd.C k24 w aY af.length af) (dX : af.length ≤ aT) (iW : Kd.C k51 w dW aC.length aC) (jB : aC.length ≤ dE) (h : iT.f k ah ak aj ai af bf aC = some (r1, r2)) :
  Calls Tryd.prog 67 #[.agg #[.int .i64 ah, .int .i64 ak, .int .i64 aj, .int .i64 ai, .slice aY af.length aT], .agg #[.int .i64 bf, .slice dW aC.length dE]] w fun e w' => e = .returned (.tuple #[.string r1, .int .i64 r2]) ∧ Below w.heap.size w w' := by
 have bT := aa.mk dD; have ed := aa.mk dX; clear dD dX; have jw := aa.mk iW; have lK := aa.mk jB; clear iW jB; have HB := aa.mk (Below.refl w.heap.size w); have H : ((dR.f k ah ak aj ai af bf aC).bind fun D9 => (if D9 = 0 then ((bn.f k ah ak aj ai af bf aC).bind fun Oi => (some (Oi, 0))) else (some ((⟨#[]⟩ : ByteArray), D9)))) = some (r1, r2) := h; clear h; replace H := Option.bind_eq_some_iff.mp H; obtain ⟨D9, A30, H⟩ := H; have A3 := aa.mk A30; clear A30; by_cases c4 : D9 = 0
 focus
  rw [if_pos c4] at H; obtain ⟨kN, oZ⟩ := bq_ c4; clear c4; replace H := Option.bind_eq_some_iff.mp H; obtain ⟨Oi, A50, H⟩ := H; have A5 := aa.mk A50; clear A50
 rotate_left
 focus
  rw [if_neg c4] at H; obtain ⟨kN, oZ⟩ := bn_ c4
 rotate_left
 all_goals
  simp only [Option.some.injEq, Prod.mk.injEq] at H; obtain ⟨rfl, rfl⟩ := H; go_enter Tryd.func67, Tryd.ntmps67; go_wp2_with (first | ((with_reducible refine aM (N := 2) rfl ?_); refine bx_ ((t5_ ah ak aj ai aY af.length aT)) 24 ?_; intro gb1132 hg w6 Gj _ HB hb; clear hb hg) | ((with_reducible refine aM (N := 3) rfl ?_); refine bx_ ((t2_ bf dW aC.length dE)) 51 ?_; intro gb1133 hg w7 Oj _ HB hb; replace Gj := kb_ Gj hb; clear hb hg; obtain ⟨qy, uY, AJ, Fh, CQ, _, _, _, _, _⟩ := bE Gj.out; obtain ⟨o8, ql, _, _⟩ := dS Oj.out) | ((with_reducible refine ay (f := 29) rfl ?_); refine gl_ (some 9) Tryd.func29 #[.agg (t5_ ah ak aj ai aY af.length aT), .agg (t2_ bf dW aC.length dE)] ?_; (with_reducible refine (dR.calls k ah ak aj ai _ _ af bf _ _ aC D9 _ ?au ?av ?bO ?bQ A3.out).mono ?_); (case au => exact cb_ (Kd.aV bT.out HB.out)); (case av => exact ed.out); (case bO => exact cb_ (Kd.aV jw.out HB.out)); (case bQ => exact lK.out); rintro e w11 ⟨rfl, hb⟩; refine ⟨_, rfl, ?_⟩; replace Gj := kb_ Gj hb; replace Oj := kb_ Oj hb; replace HB := aa.mk (ax bl_ hb); (try (obtain ⟨pq, rZ, Ci, Cj, zm, _, _, _, _, _⟩ := bE Gj.out; obtain ⟨zF, zG, _, _⟩ := dS Oj.out))) | ((with_reducible refine ay (f := 87) rfl ?_); refine gl_ (some 15) Tryd.func87 #[.agg (t5_ ah ak aj ai aY af.length aT), .agg (t2_ bf dW aC.length dE)] ?_; (with_reducible refine (bn.calls k ah ak aj ai _ _ af bf _ _ aC Oi _ ?au ?av ?bO ?bQ A5.out).mono ?_); (case au => exact cb_ (Kd.aV bT.out HB.out)); (case av => exact ed.out); (case bO => exact cb_ (Kd.aV jw.out HB.out)); (case bQ => exact lK.out); rintro e w14 ⟨rfl, hb⟩; refine ⟨_, rfl, ?_⟩; replace HB := aa.mk (ax bl_ hb)))
  go_ret2; exact ⟨re_, bl_⟩


/-! ### aQ: function 36 -/
mutual
def aQ.j0 : Nat → List Int → Bool → Int → Int → Int → Int → List (S24) → Int → List (S51) → Int → List (S51) → Option (Bool)
 | 0, _, _, _, _, _, _, _, _, _, _, _ => none
 | k + 1, x3, x46, lY, lZ, l5, l6, l7, ng, ni, vH, vI => if x46 = true then (none) else ((eZ.f k lY lZ l5 l6 l7 ng ni).bind fun Jb => ((fP.f k lY lZ l5 l6 l7 ng ni).bind fun Jc => (if Jb.2 = Jc.2 then ((bD.f k Jb.1 Jc.1).bind fun Le => (aQ.j1 k x3 (!Le) lY lZ l5 l6 l7 ng ni vH vI)) else (aQ.j1 k x3 true lY lZ l5 l6 l7 ng ni vH vI))))
def aQ.j1 : Nat → List Int → Bool → Int → Int → Int → Int → List (S24) → Int → List (S51) → Int → List (S51) → Option (Bool)
 | 0, _, _, _, _, _, _, _, _, _, _, _ => none
 | k + 1, x3, x67, lY, lZ, l5, l6, l7, ng, ni, vH, vI => if x67 = true then (none) else ((eY.f k lY lZ l5 l6 l7 x3).bind fun Dn => ((fV.f k lY lZ l5 l6 l7 x3).bind fun Dp => (if Dn.2.2 = Dp.2.2 then ((bI.f k Dn.1 Dn.2.1 Dp.1 Dp.2.1).bind fun Lf => (aQ.j2 k (!Lf) lY lZ l5 l6 l7 ng ni vH vI)) else (aQ.j2 k true lY lZ l5 l6 l7 ng ni vH vI))))
def aQ.j2 : Nat → Bool → Int → Int → Int → Int → List (S24) → Int → List (S51) → Int → List (S51) → Option (Bool)
 | 0, _, _, _, _, _, _, _, _, _, _ => none
 | k + 1, x88, lY, lZ, l5, l6, l7, ng, ni, vH, vI => if x88 = true then (none) else ((kI.f k lY lZ l5 l6 l7 ng ni vH vI).bind fun Jd => ((ek.f k lY lZ l5 l6 l7 ng ni vH vI).bind fun Je => (if Jd.2 = Je.2 then (aQ.j3 k (Jd.1 != Je.1) lY lZ l5 l6 l7 ng ni) else (aQ.j3 k true lY lZ l5 l6 l7 ng ni))))
def aQ.j3 : Nat → Bool → Int → Int → Int → Int → List (S24) → Int → List (S51) → Option (Bool)
 | 0, _, _, _, _, _, _, _, _ => none
 | k + 1, x110, lY, lZ, l5, l6, l7, ng, ni => if x110 = true then (none) else ((lW.f k lY lZ l5 l6 l7 ng ni).bind fun Jf => ((iT.f k lY lZ l5 l6 l7 ng ni).bind fun Jg => (if Jf.2 = Jg.2 then (some (Jf.1.toList == Jg.1.toList)) else (none))))
end
def aQ.f (k : Nat) (ah ak aj ai : Int) (af : List (S24)) (bf : Int) (aC : List (S51)) (iN : Int) (gQ : List (S51)) (l3 : List Int) : Option (Bool) := (oO.f k ah ak aj ai af).bind fun Dq => ((jO.f k ah ak aj ai af).bind fun Dr => (if Dq.2.2 = Dr.2.2 then ((bI.f k Dq.1 Dq.2.1 Dr.1 Dr.2.1).bind fun Ol => (if Ol = true then ((gX.f k ah ak aj ai af bf aC).bind fun Ea => ((dR.f k ah ak aj ai af bf aC).bind fun Eb => (aQ.j0 k l3 (Ea != Eb) ah ak aj ai af bf aC iN gQ))) else (aQ.j0 k l3 true ah ak aj ai af bf aC iN gQ))) else (aQ.j0 k l3 true ah ak aj ai af bf aC iN gQ)))
def aQ.T3 : Bool × List (List Nat × List Nat) := (true, [([], []), ([], []), ([0, 1], [0, 1]), ([2], [2]), ([3], [3]), ([3], [3]), ([4, 5, 3, 3], [3, 4, 5]), ([6, 3], [3, 6]), ([3, 7], [3, 7]), ([8, 6], [8]), ([9], [9]), ([9], [9]), ([10, 11, 9, 9], [9, 10, 11]), ([9], [9]), ([9], [9]), ([13, 14, 12, 9], [9, 13, 14]), ([12, 15, 9], [9, 12, 15]), ([9, 16], [9, 16])])
def aQ.B3 : List Nat := [0, 0, 3, 7, 15, 15, 63, 127, 255, 511, 1023, 1023, 4095, 1023, 1023, 32767, 65535, 131071]
theorem aQ.tab3 : jX .any (opsOf Tryd.f36 3) = aQ.T3 := by kernel_rfl
theorem aQ.bits3 : jK aQ.T3.2 aQ.B3 = true := by kernel_rfl
set_option maxHeartbeats 8000000 in
set_option maxRecDepth 100000 in
theorem aQ.calls (k : Nat) (ah ak aj ai : Int) (aY : Option Addr) (aT : Nat) (af : List (S24)) (bf : Int) (dW : Option Addr) (dE : Nat) (aC : List (S51)) (iN : Int) (nQ : Option Addr) (nR : Nat) (gQ : List (S51)) (A3 : Option Addr) (c3 : Nat) (l3 : List Int) (r : Bool) (w : World) (dD : Kd.C k24 w aY af.length af) (dX : af.length ≤ aT) (iW : Kd.C k51 w dW aC.length aC) (jB : aC.length ≤ dE) (DR : Kd.C k51 w nQ gQ.length gQ) (DT : gQ.length ≤ nR) (hr3 : Kd.C (Kd.int .i64) w A3 l3.length l3) (hc3 : l3.length ≤ c3) (h : aQ.f k ah ak aj ai af bf aC iN gQ l3 = some r) (htab : qx w.heap.size w) :
  Calls Tryd.prog 36 #[.agg #[.int .i64 ah, .int .i64 ak, .int .i64 aj, .int .i64 ai, .slice aY af.length aT], .agg #[.int .i64 bf, .slice dW aC.length dE], .agg #[.int .i64 iN, .slice nQ gQ.length nR], .slice A3 l3.length c3] w fun e w' => e = .returned (.bool r) ∧ Below w.heap.size w w' := by
 have HTAB := aa.mk htab; clear htab; have bT := aa.mk dD; have ed := aa.mk dX; clear dD dX; have jw := aa.mk iW; have lK := aa.mk jB; clear iW jB; have GU := aa.mk DR; have GV := aa.mk DT; clear DR DT; have HR3 := aa.mk hr3; have HC3 := aa.mk hc3; clear hr3 hc3; have HB := aa.mk (Below.refl w.heap.size w); have H : ((oO.f k ah ak aj ai af).bind fun Dq => ((jO.f k ah ak aj ai af).bind fun Dr => (if Dq.2.2 = Dr.2.2 then ((bI.f k Dq.1 Dq.2.1 Dr.1 Dr.2.1).bind fun Ol => (if Ol = true then ((gX.f k ah ak aj ai af bf aC).bind fun Ea => ((dR.f k ah ak aj ai af bf aC).bind fun Eb => (aQ.j0 k l3 (Ea != Eb) ah ak aj ai af bf aC iN gQ))) else (aQ.j0 k l3 true ah ak aj ai af bf aC iN gQ))) else (aQ.j0 k l3 true ah ak aj ai af bf aC iN gQ)))) = some r := h; clear h; replace H := Option.bind_eq_some_iff.mp H; obtain ⟨⟨uS, mV, t1143⟩, A50, H⟩ := H; (try dsimp only at H)
 have A5 := aa.mk A50; clear A50; replace H := Option.bind_eq_some_iff.mp H; obtain ⟨⟨mW, j6, t1149⟩, A60, H⟩ := H; (try dsimp only at H)
 have A6 := aa.mk A60; clear A60; have HC7 := aa.mk H; clear H; go_enter Tryd.func36, Tryd.ntmps36; go_upto_region 3 with (first | ((with_reducible refine aM (N := 4) rfl ?_); refine bx_ ((t5_ ah ak aj ai aY af.length aT)) 24 ?_; intro sZ hg w8 dZ GW1136 HB hb; clear hb hg) | ((with_reducible refine aM (N := 5) rfl ?_); refine bx_ ((t2_ bf dW aC.length dE)) 51 ?_; intro kX hg w9 fH GW1137 HB hb; replace dZ := kb_ dZ hb; clear hb hg) | ((with_reducible refine aM (N := 6) rfl ?_); refine bx_ ((t2_ iN nQ gQ.length nR)) 51 ?_; intro lN hg w10 iC GW1138 HB hb; replace dZ := kb_ dZ hb; replace fH := kb_ fH hb; clear hb hg; obtain ⟨zF, zG, Xt, Xu, Xv, _, _, _, _, _⟩ := bE dZ.out) | ((with_reducible refine ay (f := 63) rfl ?_); refine gl_ (some 21) Tryd.func63 #[.agg (t5_ ah ak aj ai aY af.length aT)] ?_; (with_reducible refine (oO.calls k ah ak aj ai _ _ af uS mV t1143 _ ?au ?av A5.out).mono ?_); (case au => exact cb_ (Kd.aV bT.out HB.out)); (case av => exact ed.out); rintro e w14 ⟨v1141, rfl, ho0, hb⟩; refine ⟨_, rfl, ?_⟩; have kS := aa.mk (Kd.bN (Kd.iY (Kd.iY ho0 (g := kX) (o := .cells (t2_ bf dW aC.length dE) 51 (0, 0)) bk_) (g := lN) (o := .cells (t2_ iN nQ gQ.length nR) 51 (0, 0)) bk_) (aI bl_)); replace dZ := kb_ dZ hb; replace fH := kb_ fH hb; replace iC := kb_ iC hb; replace HB := aa.mk (ax bl_ hb)) | ((with_reducible refine aM (N := 9) rfl ?_); refine bx_ ((t2_ 0 none 0 0)) 51 ?_; intro gm hg w15 gB GW1144 HB hb; have GE1144 := GW1144; have TH := nl_ dZ hg; have TI := ng_ dZ hg; have LB := nl_ fH hg; have LC := ng_ fH hg; have LD := nl_ iC hg; have LF := ng_ iC hg; replace kS := aa.mk (Kd.dH (Kd.lU (pR_ kS.out) gm (Nat.le_of_eq hg.symm)) hb); replace dZ := kb_ dZ hb; replace fH := kb_ fH hb; replace iC := kb_ iC hb; clear hb hg; have hnc16 := TH.out; have hnb17 := LC.out; have hnc17 := LB.out; have hnb18 := LF.out; have hnc18 := LD.out; obtain ⟨Cv, Qn, Xk, Xl⟩ := dS gB.out; obtain ⟨og, oh, zN⟩ := Kd.bF kS.out; subst zN; obtain ⟨ES, ET, JZ, PR, PL, _, _, _, _, _⟩ := bE dZ.out) | ((with_reducible refine ay (f := 64) rfl ?_); refine gl_ (some 26) Tryd.func64 #[.agg (t5_ ah ak aj ai aY af.length aT)] ?_; (with_reducible refine (jO.calls k ah ak aj ai _ _ af mW j6 t1149 _ ?au ?av A6.out).mono ?_); (case au => exact Kd.aV bT.out bl_); (case av => exact ed.out); rintro e w22 ⟨v1147, rfl, ho0, hb⟩; refine ⟨_, rfl, ?_⟩; have mE := aa.mk (Kd.bN (Kd.iY (Kd.iY (Kd.iY (Kd.eG ho0 (Kd.fK (by exact (Kd.aX (Kd.bL (p := ⟨gm, 1, none⟩) (Kd.bL (p := ⟨gm, 0, none⟩) (Kd.aX kS.out (fun k_ hk => (⟨hk, by exact hk.2⟩ : _ ∧ k_ ≠ gm))) (fun _ hk => hk.2) (.int .i64 uS)) (fun _ hk => hk.2) (.slice og mV.length oh)) (fun _ h_ => h_.1))))) (g := kX) (o := .cells (t2_ bf dW aC.length dE) 51 (0, 0)) b5_) (g := lN) (o := .cells (t2_ iN nQ gQ.length nR) 51 (0, 0)) b5_) (g := gm) (o := .cells (t2_ uS og mV.length oh) 51 (0, 0)) b5_) (aI bl_)); replace kS := aa.mk (Kd.fI (by exact (Kd.aX (Kd.bL (p := ⟨gm, 1, none⟩) (Kd.bL (p := ⟨gm, 0, none⟩) (Kd.aX kS.out (fun k_ hk => (⟨hk, by exact hk.2⟩ : _ ∧ k_ ≠ gm))) (fun _ hk => hk.2) (.int .i64 uS)) (fun _ hk => hk.2) (.slice og mV.length oh)) (fun _ h_ => h_.1))) (Kd.dI ho0) hb); replace dZ := aa.mk (gW (g := sZ) (o := .cells (t5_ ah ak aj ai aY af.length aT) 24 (0, 0)) b5_ hb); replace fH := aa.mk (gW (g := kX) (o := .cells (t2_ bf dW aC.length dE) 51 (0, 0)) b5_ hb); replace iC := aa.mk (gW (g := lN) (o := .cells (t2_ iN nQ gQ.length nR) 51 (0, 0)) b5_ hb); replace gB := aa.mk (gW (g := gm) (o := .cells (t2_ uS og mV.length oh) 51 (0, 0)) b5_ hb); replace HB := aa.mk (ax bl_ hb)) | ((with_reducible refine aM (N := 11) rfl ?_); refine bx_ ((t2_ 0 none 0 0)) 51 ?_; intro eQ hg w23 ig GW1150 HB hb; have GE1150 := GW1150; have uI := nl_ dZ hg; have LG := ng_ dZ hg; have wL := nl_ fH hg; have TJ := ng_ fH hg; have wM := nl_ iC hg; have TK := ng_ iC hg; have wN := nl_ gB hg; have LH := ng_ gB hg; replace kS := aa.mk (Kd.dH (Kd.lU (pR_ kS.out) eQ (Nat.le_of_eq hg.symm)) hb); replace mE := aa.mk (Kd.dH (Kd.lU (pR_ mE.out) eQ (Nat.le_of_eq hg.symm)) hb); replace dZ := kb_ dZ hb; replace fH := kb_ fH hb; replace iC := kb_ iC hb; replace gB := kb_ gB hb; clear hb hg; obtain ⟨JY, Ck, hfz28_0, hfz28_1⟩ := dS ig.out; obtain ⟨mY, mP, eo29⟩ := Kd.bF mE.out; subst eo29))
 go_cut [46] (fun v46 wc => ∃ (kq : Nat) (x46_6 : Bool), v46 = .bool x46_6 ∧ aa (aQ.j0 kq l3 x46_6 ah ak aj ai af bf aC iN gQ = some r) ∧ aa (kq ≤ k) ∧ aa (Kd.R k51 51 wc w.heap.size (fun k_ => some k_ ≠ ((.slice mY j6.length mP) : Value).ownBlock ∧ k_ ≠ kX ∧ k_ ≠ lN ∧ k_ ≠ gm ∧ k_ ≠ eQ) (.slice og mV.length oh) mV) ∧ aa (Kd.R k51 51 wc w.heap.size (fun k_ => some k_ ≠ ((.slice og mV.length oh) : Value).ownBlock ∧ k_ ≠ kX ∧ k_ ≠ lN ∧ k_ ≠ gm ∧ k_ ≠ eQ) (.slice mY j6.length mP) j6) ∧ aa (wc.heap[sZ]? = some (.cells #[.int .i64 ah, .int .i64 ak, .int .i64 aj, .int .i64 ai, (.slice aY af.length aT)] 24 (0, 0))) ∧ aa (wc.heap[kX]? = some (.cells #[.int .i64 bf, (.slice dW aC.length dE)] 51 (0, 0))) ∧ aa (wc.heap[lN]? = some (.cells #[.int .i64 iN, (.slice nQ gQ.length nR)] 51 (0, 0))) ∧ aa (wc.heap[gm]? = some (.cells #[.int .i64 uS, (.slice og mV.length oh)] 51 (0, 0))) ∧ aa (wc.heap[eQ]? = some (.cells #[.int .i64 mW, (.slice mY j6.length mP)] 51 (0, 0))) ∧ aa (Below w.heap.size w wc))
 case first =>
  have H := HC7.out; clear HC7; by_cases c30 : t1143 = t1149
  focus
   rw [if_pos c30] at H; obtain ⟨DF, GA⟩ := bq_ c30; clear c30; (skip)
   replace H := Option.bind_eq_some_iff.mp H; obtain ⟨Ol, A310, H⟩ := H; have A31 := aa.mk A310; clear A310; by_cases c32 : Ol = true
   focus
    subst c32; have H1 : ((gX.f k ah ak aj ai af bf aC).bind fun Ea => ((dR.f k ah ak aj ai af bf aC).bind fun Eb => (aQ.j0 k l3 (Ea != Eb) ah ak aj ai af bf aC iN gQ))) = some r := by rw [if_pos rfl] at H; exact H
    clear H; have H := H1; clear H1; replace H := Option.bind_eq_some_iff.mp H; obtain ⟨Ea, A330, H⟩ := H; have A33 := aa.mk A330; clear A330; replace H := Option.bind_eq_some_iff.mp H; obtain ⟨Eb, A340, H⟩ := H; have A34 := aa.mk A340; clear A340
   rotate_left
   focus
    replace c32 := Bool.eq_false_iff.mpr c32; subst c32; have H1 : (aQ.j0 k l3 true ah ak aj ai af bf aC iN gQ) = some r := by rw [if_neg (show ¬ (false = true) by decide)] at H; exact H
    clear H; have H := H1; clear H1
   rotate_left
  rotate_left 2
  focus
   rw [if_neg c30] at H; obtain ⟨DF, GA⟩ := bn_ c30; (skip)
  rotate_left
  all_goals
   have H' := aa.mk H; clear H; try go_wp2
   have n0_ : aa (Kd.R k51 51 ((w23.setCell ⟨eQ, 0, none⟩ (.int .i64 mW)).setCell ⟨eQ, 1, none⟩ (.slice mY j6.length mP)) w.heap.size (fun k_ => some k_ ≠ (.slice mY j6.length mP : Value).ownBlock ∧ k_ ≠ kX ∧ k_ ≠ lN ∧ k_ ≠ gm ∧ k_ ≠ eQ) (.slice og mV.length oh) mV) := ⟨by exact Kd.aX (Kd.bL (p := ⟨eQ, 1, none⟩) (Kd.bL (p := ⟨eQ, 0, none⟩) (Kd.aX kS.out (fun k_ hk => (⟨hk, by exact hk.2⟩ : _ ∧ k_ ≠ eQ))) (fun _ hk => hk.2) (.int .i64 mW)) (fun _ hk => hk.2) (.slice mY j6.length mP)) (fun _ hk => ⟨hk.1.1.2, ⟨hk.1.1.1.1.1.2, ⟨hk.1.1.1.1.2, ⟨hk.1.1.1.2, hk.1.2⟩⟩⟩⟩)⟩; have n1_ : aa (Kd.R k51 51 ((w23.setCell ⟨eQ, 0, none⟩ (.int .i64 mW)).setCell ⟨eQ, 1, none⟩ (.slice mY j6.length mP)) w.heap.size (fun k_ => some k_ ≠ (.slice og mV.length oh : Value).ownBlock ∧ k_ ≠ kX ∧ k_ ≠ lN ∧ k_ ≠ gm ∧ k_ ≠ eQ) (.slice mY j6.length mP) j6) := ⟨by exact Kd.aX (Kd.bL (p := ⟨eQ, 1, none⟩) (Kd.bL (p := ⟨eQ, 0, none⟩) (Kd.aX mE.out (fun k_ hk => (⟨hk, by exact hk.2⟩ : _ ∧ k_ ≠ eQ))) (fun _ hk => hk.2) (.int .i64 mW)) (fun _ hk => hk.2) (.slice mY j6.length mP)) (fun _ hk => ⟨hk.1.1.1.1.1.2, ⟨hk.1.1.1.1.2, ⟨hk.1.1.1.2, ⟨hk.1.1.2, hk.1.2⟩⟩⟩⟩)⟩; have n2_ : aa (((w23.setCell ⟨eQ, 0, none⟩ (.int .i64 mW)).setCell ⟨eQ, 1, none⟩ (.slice mY j6.length mP)).heap[sZ]? = some (.cells (t5_ ah ak aj ai aY af.length aT) 24 (0, 0))) := ⟨by refine bP ?_ uI.out _; refine bP ?_ uI.out _; exact dZ.out⟩; have n3_ : aa (((w23.setCell ⟨eQ, 0, none⟩ (.int .i64 mW)).setCell ⟨eQ, 1, none⟩ (.slice mY j6.length mP)).heap[kX]? = some (.cells (t2_ bf dW aC.length dE) 51 (0, 0))) := ⟨by refine bP ?_ wL.out _; refine bP ?_ wL.out _; exact fH.out⟩; have n4_ : aa (((w23.setCell ⟨eQ, 0, none⟩ (.int .i64 mW)).setCell ⟨eQ, 1, none⟩ (.slice mY j6.length mP)).heap[lN]? = some (.cells (t2_ iN nQ gQ.length nR) 51 (0, 0))) := ⟨by refine bP ?_ wM.out _; refine bP ?_ wM.out _; exact iC.out⟩; have n5_ : aa (((w23.setCell ⟨eQ, 0, none⟩ (.int .i64 mW)).setCell ⟨eQ, 1, none⟩ (.slice mY j6.length mP)).heap[gm]? = some (.cells (t2_ uS og mV.length oh) 51 (0, 0))) := ⟨by refine bP ?_ wN.out _; refine bP ?_ wN.out _; exact gB.out⟩; have n6_ : aa (((w23.setCell ⟨eQ, 0, none⟩ (.int .i64 mW)).setCell ⟨eQ, 1, none⟩ (.slice mY j6.length mP)).heap[eQ]? = some (.cells (t2_ mW mY j6.length mP) 51 (0, 0))) := ⟨by refine eP (cs := (t2_ mW none 0 0)) ?_ 1 _ rfl; refine eP (cs := (t2_ 0 none 0 0)) ?_ 0 _ rfl; exact ig.out⟩; have n7_ : aa (Below w.heap.size w ((w23.setCell ⟨eQ, 0, none⟩ (.int .i64 mW)).setCell ⟨eQ, 1, none⟩ (.slice mY j6.length mP))) := ⟨bl_⟩
   generalize ((w23.setCell ⟨eQ, 0, none⟩ (.int .i64 mW)).setCell ⟨eQ, 1, none⟩ (.slice mY j6.length mP)) = w35 at n0_ n1_ n2_ n3_ n4_ n5_ n6_ n7_ ⊢
   have kS := n0_; have mE := n1_; have dZ := n2_; have fH := n3_; have iC := n4_; have gB := n5_; have ig := n6_; have HB := n7_; clear n0_ n1_ n2_ n3_ n4_ n5_ n6_ n7_; replace kS := aa.mk (Kd.oQ kS.out); replace mE := aa.mk (Kd.oQ mE.out); replace dZ := aa.mk (dz dZ.out); replace fH := aa.mk (dz fH.out); replace iC := aa.mk (dz iC.out); replace gB := aa.mk (dz gB.out); replace ig := aa.mk (dz ig.out); replace HB := aa.mk (eX HB.out)
  rotate_left 2
  ·refine kL (n := 18) (S := fun w' => True) (ds := []) #[false, false, false, false, false, false, false, false, false, false, false, false, false, false, false, false, false, false] (by kernel_rfl) rfl rfl trivial (fun hHeld => ?_); refine iG aQ.tab3 aQ.bits3 (fun HT_ HW_ => ?_)
   generalize w35.drew = w44 at kS mE dZ fH iC gB ig HB hHeld ⊢
   refine pu_ HT_ 0 29 (bm 18 1) ?_
   refine pu_ HT_ 1 30 (bm 18 3) ?_
   refine pu_ HT_ 2 31 (bm 18 7) ?_
   refine pu_ HT_ 3 32 (bm 18 15) ?_
   refine pf_ HT_ 4 33 (bm 18 31) ?_
   refine pf_ HT_ 5 34 (bm 18 63) ?_
   refine pf_ HT_ 6 35 (bm 18 127) ?_
   refine pf_ HT_ 7 36 (bm 18 255) ?_
   refine pu_ HT_ 8 37 (bm 18 511) ?_
   refine pu_ HT_ 9 38 (bm 18 1023) ?_
   refine pf_ HT_ 10 39 (bm 18 2047) ?_
   refine pf_ HT_ 11 40 (bm 18 4095) ?_
   refine pf_ HT_ 12 41 (bm 18 8191) ?_
   refine pf_ HT_ 13 42 (bm 18 16383) ?_
   refine pf_ HT_ 14 43 (bm 18 32767) ?_
   refine pf_ HT_ 15 44 (bm 18 65535) ?_
   refine pf_ HT_ 16 45 (bm 18 131071) ?_
   refine pu_ HT_ 17 46 #[true, true, true, true, true, true, true, true, true, true, true, true, true, true, true, true, true, true] ?_
   refine mH (jT HT_.out (by kernel_rfl)) ?_
   try go_wp2
   go_meet
   case rel => exact ⟨_, (true), rs_, H', ⟨by omega⟩, ⟨pR_ kS.out⟩, ⟨pR_ mE.out⟩, ⟨bk_⟩, ⟨bk_⟩, ⟨bk_⟩, ⟨bk_⟩, ⟨bk_⟩, ⟨bl_⟩⟩
  focus
   refine kL (n := 18) (S := fun w' => w'.cell? ⟨gm, 0, none⟩ = some (.int .i64 uS) ∧ w'.cell? ⟨gm, 1, none⟩ = some (.slice og mV.length oh) ∧ w'.cell? ⟨eQ, 0, none⟩ = some (.int .i64 mW) ∧ w'.cell? ⟨eQ, 1, none⟩ = some (.slice mY j6.length mP) ∧ w'.cell? ⟨sZ, 0, none⟩ = some (.int .i64 ah) ∧ w'.cell? ⟨sZ, 1, none⟩ = some (.int .i64 ak) ∧ w'.cell? ⟨sZ, 2, none⟩ = some (.int .i64 aj) ∧ w'.cell? ⟨sZ, 3, none⟩ = some (.int .i64 ai) ∧ w'.cell? ⟨sZ, 4, none⟩ = some (.slice aY af.length aT) ∧ w'.cell? ⟨kX, 0, none⟩ = some (.int .i64 bf) ∧ w'.cell? ⟨kX, 1, none⟩ = some (.slice dW aC.length dE)) (ds := []) #[false, false, false, false, false, false, false, false, false, false, false, false, false, false, false, false, false, false] (by kernel_rfl) rfl rfl ⟨ci_ gB, ci_ gB, ci_ ig, ci_ ig, ci_ dZ, ci_ dZ, ci_ dZ, ci_ dZ, ci_ dZ, ci_ fH, ci_ fH⟩ (fun hHeld => ?_); refine iG aQ.tab3 aQ.bits3 (fun HT_ HW_ => ?_)
  rotate_left
  focus
   refine kL (n := 18) (S := fun w' => w'.cell? ⟨gm, 0, none⟩ = some (.int .i64 uS) ∧ w'.cell? ⟨gm, 1, none⟩ = some (.slice og mV.length oh) ∧ w'.cell? ⟨eQ, 0, none⟩ = some (.int .i64 mW) ∧ w'.cell? ⟨eQ, 1, none⟩ = some (.slice mY j6.length mP)) (ds := []) #[false, false, false, false, false, false, false, false, false, false, false, false, false, false, false, false, false, false] (by kernel_rfl) rfl rfl ⟨ci_ gB, ci_ gB, ci_ ig, ci_ ig⟩ (fun hHeld => ?_); refine iG aQ.tab3 aQ.bits3 (fun HT_ HW_ => ?_)
  rotate_left
  all_goals
   generalize w35.drew = w36 at kS mE dZ fH iC gB ig HB hHeld ⊢
   refine pu_ HT_ 0 29 (bm 18 1) ?_
   refine pu_ HT_ 1 30 (bm 18 3) ?_
   refine pu_ HT_ 2 31 (bm 18 7) ?_
   refine pu_ HT_ 3 32 (bm 18 15) ?_
   refine ta_ HT_ HW_ 4 33 (bm 18 31) hHeld ?_
   refine ta_ HT_ HW_ 5 34 (bm 18 63) hHeld ?_
   refine jW (i := 6) (N := some 35) #[true, true, true, true, true, true, true, false, false, false, false, false, false, false, false, false, false, false] rfl rfl (fB HT_.out (by kernel_rfl)) (by decide) (fun K hK => ?_)
   refine mf Tryd.func33 (by kernel_rfl) rfl #[.agg (t2_ uS og mV.length oh), .agg (t2_ mW mY j6.length mP)] (by rfl) rfl rfl mp_ ?_
  focus
   with_reducible refine (bI.calls k uS _ _ mV mW _ _ j6 true _ ?au ?av ?bO ?bQ A31.out).mono ?_
   (case au => exact cb_ ((Kd.aZ kS.out).2.2))
   (case av => exact (Kd.aZ kS.out).2.1)
   (case bO => exact cb_ ((Kd.aZ mE.out).2.2))
   (case bQ => exact (Kd.aZ mE.out).2.1)
  rotate_left
  focus
   with_reducible refine (bI.calls k uS _ _ mV mW _ _ j6 false _ ?au ?av ?bO ?bQ A31.out).mono ?_
   (case au => exact cb_ ((Kd.aZ kS.out).2.2))
   (case av => exact (Kd.aZ kS.out).2.1)
   (case bO => exact cb_ ((Kd.aZ mE.out).2.2))
   (case bQ => exact (Kd.aZ mE.out).2.1)
  rotate_left
  all_goals
   rintro e w37 ⟨rfl, hb⟩
   refine ⟨_, rfl, ?_⟩
   replace kS := aa.mk (Kd.dH (pR_ kS.out) hb); replace mE := aa.mk (Kd.dH (pR_ mE.out) hb); replace dZ := kb_ dZ hb; replace fH := kb_ fH hb; replace iC := kb_ iC hb; replace gB := kb_ gB hb; replace ig := kb_ ig hb; replace HB := aa.mk (ax bl_ hb)
  focus
   refine hK.out _ _ ⟨ci_ gB, ci_ gB, ci_ ig, ci_ ig, ci_ dZ, ci_ dZ, ci_ dZ, ci_ dZ, ci_ dZ, ci_ fH, ci_ fH⟩ (fun hHeld => ?_)
  rotate_left
  focus
   refine hK.out _ _ ⟨ci_ gB, ci_ gB, ci_ ig, ci_ ig⟩ (fun hHeld => ?_)
  rotate_left
  all_goals
   clear hK K; refine jd (a' := ?_) ?_ ?_
   rotate_left
   ·show Act.put _ (some 35) _ = _
    simp only [Act.put, List.setIfInBounds_toArray, List.set_cons_zero, List.set_cons_succ, gM, iE]; rfl
   refine pu_ HT_ 7 36 (bm 18 255) ?_
   refine pu_ HT_ 8 37 (bm 18 511) ?_
   refine pu_ HT_ 9 38 (bm 18 1023) ?_
  focus
   refine ta_ HT_ HW_ 10 39 (bm 18 2047) hHeld ?_
   refine ta_ HT_ HW_ 11 40 (bm 18 4095) hHeld ?_
   refine ta_ HT_ HW_ 13 42 (bm 18 12287) hHeld ?_
   refine ta_ HT_ HW_ 14 43 (bm 18 28671) hHeld ?_
   refine jW (i := 12) (N := some 41) #[true, true, true, true, true, true, true, true, true, true, true, true, true, true, true, false, false, false] rfl rfl (fB HT_.out (by kernel_rfl)) (by decide) (fun K hK => ?_)
   refine mf Tryd.func61 (by kernel_rfl) rfl #[.agg (t5_ ah ak aj ai aY af.length aT), .agg (t2_ bf dW aC.length dE)] (by rfl) rfl rfl mp_ ?_
   with_reducible refine (gX.calls k ah ak aj ai _ _ af bf _ _ aC Ea _ ?au ?av ?bO ?bQ A33.out).mono ?_
   (case au => exact cb_ (Kd.aV bT.out HB.out))
   (case av => exact ed.out)
   (case bO => exact cb_ (Kd.aV jw.out HB.out))
   (case bQ => exact lK.out)
   rintro e w38 ⟨rfl, hb⟩
   refine ⟨_, rfl, ?_⟩
   replace kS := aa.mk (Kd.dH (pR_ kS.out) hb); replace mE := aa.mk (Kd.dH (pR_ mE.out) hb); replace dZ := kb_ dZ hb; replace fH := kb_ fH hb; replace iC := kb_ iC hb; replace gB := kb_ gB hb; replace ig := kb_ ig hb; replace HB := aa.mk (ax bl_ hb); refine hK.out _ _ ⟨ci_ gB, ci_ gB, ci_ ig, ci_ ig, ci_ dZ, ci_ dZ, ci_ dZ, ci_ dZ, ci_ dZ, ci_ fH, ci_ fH⟩ (fun hHeld => ?_)
   clear hK K; refine jd (a' := ?_) ?_ ?_
   rotate_left
   ·show Act.put _ (some 41) _ = _
    simp only [Act.put, List.setIfInBounds_toArray, List.set_cons_zero, List.set_cons_succ, gM, iE]; rfl
   refine jW (i := 15) (N := some 44) #[true, true, true, true, true, true, true, true, true, true, true, true, true, true, true, true, false, false] rfl rfl (fB HT_.out (by kernel_rfl)) (by decide) (fun K hK => ?_)
   refine mf Tryd.func29 (by kernel_rfl) rfl #[.agg (t5_ ah ak aj ai aY af.length aT), .agg (t2_ bf dW aC.length dE)] (by rfl) rfl rfl mp_ ?_
   with_reducible refine (dR.calls k ah ak aj ai _ _ af bf _ _ aC Eb _ ?au ?av ?bO ?bQ A34.out).mono ?_
   (case au => exact cb_ (Kd.aV bT.out HB.out))
   (case av => exact ed.out)
   (case bO => exact cb_ (Kd.aV jw.out HB.out))
   (case bQ => exact lK.out)
   rintro e w39 ⟨rfl, hb⟩
   refine ⟨_, rfl, ?_⟩
   replace kS := aa.mk (Kd.dH (pR_ kS.out) hb); replace mE := aa.mk (Kd.dH (pR_ mE.out) hb); replace dZ := kb_ dZ hb; replace fH := kb_ fH hb; replace iC := kb_ iC hb; replace gB := kb_ gB hb; replace ig := kb_ ig hb; replace HB := aa.mk (ax bl_ hb); refine hK.out _ _ ⟨ci_ gB, ci_ gB, ci_ ig, ci_ ig, ci_ dZ, ci_ dZ, ci_ dZ, ci_ dZ, ci_ dZ, ci_ fH, ci_ fH⟩ (fun hHeld => ?_)
   clear hK K; refine jd (a' := ?_) ?_ ?_
   rotate_left
   ·show Act.put _ (some 44) _ = _
    simp only [Act.put, List.setIfInBounds_toArray, List.set_cons_zero, List.set_cons_succ, gM, iE]; rfl
   refine pu_ HT_ 16 45 (bm 18 131071) ?_
  rotate_left
  focus
   refine pf_ HT_ 10 39 (bm 18 2047) ?_
   refine pf_ HT_ 11 40 (bm 18 4095) ?_
   refine pf_ HT_ 12 41 (bm 18 8191) ?_
   refine pf_ HT_ 13 42 (bm 18 16383) ?_
   refine pf_ HT_ 14 43 (bm 18 32767) ?_
   refine pf_ HT_ 15 44 (bm 18 65535) ?_
   refine pf_ HT_ 16 45 (bm 18 131071) ?_
  rotate_left
  all_goals
   refine pu_ HT_ 17 46 #[true, true, true, true, true, true, true, true, true, true, true, true, true, true, true, true, true, true] ?_
   refine mH (jT HT_.out (by kernel_rfl)) ?_
   try go_wp2
  ·go_meet
   case rel => exact ⟨_, ((Ea != Eb)), rs_, H', ⟨by omega⟩, ⟨pR_ kS.out⟩, ⟨pR_ mE.out⟩, ⟨bk_⟩, ⟨bk_⟩, ⟨bk_⟩, ⟨bk_⟩, ⟨bk_⟩, ⟨bl_⟩⟩
  ·go_meet
   case rel => exact ⟨_, (true), rs_, H', ⟨by omega⟩, ⟨pR_ kS.out⟩, ⟨pR_ mE.out⟩, ⟨bk_⟩, ⟨bk_⟩, ⟨bk_⟩, ⟨bk_⟩, ⟨bk_⟩, ⟨bl_⟩⟩
 case rest =>
  clear HC7; (try clear c1); (try clear c2); (try clear p2); (try clear c3); (try clear c6); (try clear c29); (try clear c30); (try clear DF); (try clear GA); (try clear c32); (try clear c33); obtain ⟨kq, x46_6, rfl, HA, HJ6, jq, jr, dZ, fH, iC, gB, ig, HB⟩ := hcut; cases kq with
  | zero => exact absurd HA.out (by simp [aQ.j0])
  | succ kj6 =>
   have H := HA.out; clear HA; simp only [aQ.j0] at H; by_cases c45 : x46_6 = true
   ·subst c45; have H1 : (none) = some r := by rw [if_pos rfl] at H; exact H
    clear H; have H := H1; clear H1; exact absurd H (by simp)
   ·replace c45 := Bool.eq_false_iff.mpr c45; subst c45; have H1 : ((eZ.f kj6 ah ak aj ai af bf aC).bind fun Jb => ((fP.f kj6 ah ak aj ai af bf aC).bind fun Jc => (if Jb.2 = Jc.2 then ((bD.f kj6 Jb.1 Jc.1).bind fun Le => (aQ.j1 kj6 l3 (!Le) ah ak aj ai af bf aC iN gQ)) else (aQ.j1 kj6 l3 true ah ak aj ai af bf aC iN gQ)))) = some r := by rw [if_neg (show ¬ (false = true) by decide)] at H; exact H
    clear H; have H := H1; clear H1; replace H := Option.bind_eq_some_iff.mp H; obtain ⟨⟨t1154, t1157⟩, A460, H⟩ := H; (try dsimp only at H)
    have A46 := aa.mk A460; clear A460; replace H := Option.bind_eq_some_iff.mp H; obtain ⟨⟨t1158, t1161⟩, A470, H⟩ := H; (try dsimp only at H)
    have A47 := aa.mk A470; clear A470; have HC48 := aa.mk H; clear H; obtain ⟨Kw, Ky, QB, QC, QD, _, _, _, _, _⟩ := bE dZ.out; obtain ⟨Ce, Cf, _, _⟩ := dS fH.out; go_upto_region 7 with (first | ((with_reducible refine ay (f := 57) rfl ?_); refine gl_ (some 50) Tryd.func57 #[.agg (t5_ ah ak aj ai aY af.length aT), .agg (t2_ bf dW aC.length dE)] ?_; (with_reducible refine (eZ.calls kj6 ah ak aj ai _ _ af bf _ _ aC t1154 t1157 _ ?au ?av ?bO ?bQ A46.out).mono ?_); (case au => exact cb_ (Kd.aV bT.out HB.out)); (case av => exact ed.out); (case bO => exact cb_ (Kd.aV jw.out HB.out)); (case bQ => exact lK.out); rintro e w58 ⟨v1155, rfl, ho0, hb⟩; refine ⟨_, rfl, ?_⟩; have Gl := aa.mk (Kd.bN ho0 (aI bl_)); replace jq := aa.mk (Kd.dH (pR_ jq.out) hb); replace jr := aa.mk (Kd.dH (pR_ jr.out) hb); replace dZ := kb_ dZ hb; replace fH := kb_ fH hb; replace iC := kb_ iC hb; replace gB := kb_ gB hb; replace ig := kb_ ig hb; replace HB := aa.mk (ax bl_ hb); obtain ⟨Cg, EJ, EK, EL, Ch, _, _, _, _, _⟩ := bE dZ.out; obtain ⟨Lg, Lh, _, _⟩ := dS fH.out) | ((with_reducible refine ay (f := 37) rfl ?_); refine gl_ (some 56) Tryd.func37 #[.agg (t5_ ah ak aj ai aY af.length aT), .agg (t2_ bf dW aC.length dE)] ?_; (with_reducible refine (fP.calls kj6 ah ak aj ai _ _ af bf _ _ aC t1158 t1161 _ ?au ?av ?bO ?bQ A47.out).mono ?_); (case au => exact cb_ (Kd.aV bT.out HB.out)); (case av => exact ed.out); (case bO => exact cb_ (Kd.aV jw.out HB.out)); (case bQ => exact lK.out); rintro e w61 ⟨v1159, rfl, ho0, hb⟩; refine ⟨_, rfl, ?_⟩; have S9 := aa.mk (Kd.bN (Kd.eG ho0 (Kd.fK (pR_ Gl.out))) (aI bl_)); replace jq := aa.mk (Kd.dH (pR_ jq.out) hb); replace jr := aa.mk (Kd.dH (pR_ jr.out) hb); replace Gl := aa.mk (Kd.fI (pR_ Gl.out) (Kd.dI ho0) hb); replace dZ := kb_ dZ hb; replace fH := kb_ fH hb; replace iC := kb_ iC hb; replace gB := kb_ gB hb; replace ig := kb_ ig hb; replace HB := aa.mk (ax bl_ hb)))
    go_cut [67] (fun v67 wc => ∃ (kq : Nat) (Om : Bool), v67 = .bool Om ∧ aa (aQ.j1 kq l3 Om ah ak aj ai af bf aC iN gQ = some r) ∧ aa (kq ≤ kj6) ∧ aa (Kd.R k51 51 wc w.heap.size (fun k_ => some k_ ≠ ((.slice mY j6.length mP) : Value).ownBlock ∧ k_ ≠ kX ∧ k_ ≠ lN ∧ k_ ≠ gm ∧ k_ ≠ eQ) (.slice og mV.length oh) mV) ∧ aa (Kd.R k51 51 wc w.heap.size (fun k_ => some k_ ≠ ((.slice og mV.length oh) : Value).ownBlock ∧ k_ ≠ kX ∧ k_ ≠ lN ∧ k_ ≠ gm ∧ k_ ≠ eQ) (.slice mY j6.length mP) j6) ∧ aa (wc.heap[sZ]? = some (.cells #[.int .i64 ah, .int .i64 ak, .int .i64 aj, .int .i64 ai, (.slice aY af.length aT)] 24 (0, 0))) ∧ aa (wc.heap[kX]? = some (.cells #[.int .i64 bf, (.slice dW aC.length dE)] 51 (0, 0))) ∧ aa (wc.heap[lN]? = some (.cells #[.int .i64 iN, (.slice nQ gQ.length nR)] 51 (0, 0))) ∧ aa (wc.heap[gm]? = some (.cells #[.int .i64 uS, (.slice og mV.length oh)] 51 (0, 0))) ∧ aa (wc.heap[eQ]? = some (.cells #[.int .i64 mW, (.slice mY j6.length mP)] 51 (0, 0))) ∧ aa (Below w.heap.size w wc))
    case first =>
     have H := HC48.out; clear HC48; by_cases c62 : t1157 = t1161
     ·rw [if_pos c62] at H; obtain ⟨c62b0, NJ⟩ := bq_ c62; clear c62; (skip)
      replace H := Option.bind_eq_some_iff.mp H; obtain ⟨Le, A630, H⟩ := H; have A63 := aa.mk A630; clear A630; have H' := aa.mk H; clear H; obtain ⟨Ao64, co64, eo64⟩ := Kd.bF Gl.out; subst eo64; obtain ⟨AY, zI, eo65⟩ := Kd.bF S9.out; subst eo65; go_wp2_with ((go_at_call 59; (with_reducible refine (bD.calls kj6 _ _ t1154 _ _ t1158 Le _ ?au ?av ?bO ?bQ A63.out).mono ?_); (case au => exact cb_ ((Kd.aZ Gl.out).2.2)); (case av => exact (Kd.aZ Gl.out).2.1); (case bO => exact cb_ ((Kd.aZ S9.out).2.2)); (case bQ => exact (Kd.aZ S9.out).2.1); rintro e w' ⟨rfl, ⟨nd, rfl⟩⟩))
      go_meet
      case rel => exact ⟨_, (!Le), rs_, H', ⟨by have := HJ6.out; omega⟩, ⟨pR_ jq.out⟩, ⟨pR_ jr.out⟩, ⟨bk_⟩, ⟨bk_⟩, ⟨bk_⟩, ⟨bk_⟩, ⟨bk_⟩, ⟨bl_⟩⟩
     ·rw [if_neg c62] at H; obtain ⟨c62b0, NJ⟩ := bn_ c62; (skip)
      have H' := aa.mk H; clear H; go_wp2; go_meet
      case rel => exact ⟨_, (true), rs_, H', ⟨by have := HJ6.out; omega⟩, ⟨pR_ jq.out⟩, ⟨pR_ jr.out⟩, ⟨bk_⟩, ⟨bk_⟩, ⟨bk_⟩, ⟨bk_⟩, ⟨bk_⟩, ⟨bl_⟩⟩
    case rest =>
     clear HC48; (try clear c1); (try clear c2); (try clear p2); (try clear c3); (try clear c4); (try clear c5); (try clear c6); (try clear c29); (try clear c30); (try clear DF); (try clear GA); (try clear c32); (try clear c33); (try clear c37); (try clear c45); (try clear c49); (try clear c50); (try clear c51); (try clear c52); (try clear c54); (try clear c55); (try clear c56); (try clear c57); (try clear c62); (try clear c62b0); (try clear NJ); (try clear Kw Ky QB QC QD); (try clear Ce Cf); (try clear Cg EJ EK EL Ch); (try clear Lg Lh); (try clear p2); obtain ⟨kq, Om, rfl, HA, HJ47, jq, jr, dZ, fH, iC, gB, ig, HB⟩ := hcut; cases kq with
     | zero => exact absurd HA.out (by simp [aQ.j1])
     | succ kj47 =>
      have H := HA.out; clear HA; simp only [aQ.j1] at H; by_cases c66 : Om = true
      ·subst c66; have H1 : (none) = some r := by rw [if_pos rfl] at H; exact H
       clear H; have H := H1; clear H1; exact absurd H (by simp)
      ·replace c66 := Bool.eq_false_iff.mpr c66; subst c66; have H1 : ((eY.f kj47 ah ak aj ai af l3).bind fun Dn => ((fV.f kj47 ah ak aj ai af l3).bind fun Dp => (if Dn.2.2 = Dp.2.2 then ((bI.f kj47 Dn.1 Dn.2.1 Dp.1 Dp.2.1).bind fun Lf => (aQ.j2 kj47 (!Lf) ah ak aj ai af bf aC iN gQ)) else (aQ.j2 kj47 true ah ak aj ai af bf aC iN gQ)))) = some r := by rw [if_neg (show ¬ (false = true) by decide)] at H; exact H
       clear H; have H := H1; clear H1; replace H := Option.bind_eq_some_iff.mp H; obtain ⟨⟨wo, oP, t1167⟩, A670, H⟩ := H; (try dsimp only at H)
       have A67 := aa.mk A670; clear A670; replace H := Option.bind_eq_some_iff.mp H; obtain ⟨⟨wY, pY, t1172⟩, A680, H⟩ := H; (try dsimp only at H)
       have A68 := aa.mk A680; clear A680; have HC69 := aa.mk H; clear H; have hnc72 := TI.out; have hnb73 := uI.out; have hnc73 := LG.out; obtain ⟨XA, XB, XC, XD, PO, _, _, _, _, _⟩ := bE dZ.out; go_upto_region 11 with (first | ((with_reducible refine ay (f := 58) rfl ?_); refine gl_ (some 71) Tryd.func58 #[.agg (t5_ ah ak aj ai aY af.length aT), .slice A3 l3.length c3] ?_; (with_reducible refine (eY.calls kj47 ah ak aj ai _ _ af _ _ l3 wo oP t1167 _ ?au ?av ?bO ?bQ A67.out).mono ?_); (case au => exact cb_ (Kd.aV bT.out HB.out)); (case av => exact ed.out); (case bO => exact cb_ (Kd.aV HR3.out HB.out)); (case bQ => exact HC3.out); rintro e w75 ⟨v1165, rfl, ho0, hb⟩; refine ⟨_, rfl, ?_⟩; have wO := aa.mk (Kd.bN (Kd.iY (Kd.iY (Kd.iY (Kd.iY (Kd.eG (Kd.eG ho0 (Kd.fK (pR_ jq.out))) (Kd.fK (pR_ jr.out))) (g := kX) (o := .cells (t2_ bf dW aC.length dE) 51 (0, 0)) bk_) (g := lN) (o := .cells (t2_ iN nQ gQ.length nR) 51 (0, 0)) bk_) (g := gm) (o := .cells (t2_ uS og mV.length oh) 51 (0, 0)) bk_) (g := eQ) (o := .cells (t2_ mW mY j6.length mP) 51 (0, 0)) bk_) (aI bl_)); replace jq := aa.mk (Kd.fI (pR_ jq.out) (Kd.dI ho0) hb); replace jr := aa.mk (Kd.fI (pR_ jr.out) (Kd.dI ho0) hb); replace dZ := kb_ dZ hb; replace fH := kb_ fH hb; replace iC := kb_ iC hb; replace gB := kb_ gB hb; replace ig := kb_ ig hb; replace HB := aa.mk (ax bl_ hb); have hnb76 := LC.out; have hnc76 := LB.out; have hnb77 := LF.out; have hnc77 := LD.out; have hnb78 := wN.out; have hnc78 := LH.out; obtain ⟨OQ, XE, OT, XF⟩ := dS gB.out; obtain ⟨rP, qJ, eo80⟩ := Kd.bF wO.out; subst eo80; obtain ⟨Qj, Qk, XG, XH, PQ, _, _, _, _, _⟩ := bE dZ.out) | ((with_reducible refine ay (f := 65) rfl ?_); refine gl_ (some 77) Tryd.func65 #[.agg (t5_ ah ak aj ai aY af.length aT), .slice A3 l3.length c3] ?_; (with_reducible refine (fV.calls kj47 ah ak aj ai _ _ af _ _ l3 wY pY t1172 _ ?au ?av ?bO ?bQ A68.out).mono ?_); (case au => exact Kd.aV bT.out bl_); (case av => exact ed.out); (case bO => exact Kd.aV HR3.out bl_); (case bQ => exact HC3.out); rintro e w82 ⟨v1170, rfl, ho0, hb⟩; refine ⟨_, rfl, ?_⟩; have Dt := aa.mk (Kd.bN (Kd.iY (Kd.iY (Kd.iY (Kd.iY (Kd.eG (Kd.eG (Kd.eG ho0 (Kd.fK (by exact (Kd.aX (Kd.bL (p := ⟨gm, 1, none⟩) (Kd.bL (p := ⟨gm, 0, none⟩) (Kd.aX jq.out (fun k_ hk => (⟨hk, by exact hk.1.2.2.2.1⟩ : _ ∧ k_ ≠ gm))) (fun _ hk => hk.2) (.int .i64 wo)) (fun _ hk => hk.2) (.slice rP oP.length qJ)) (fun _ h_ => h_.1))))) (Kd.fK (by exact (Kd.aX (Kd.bL (p := ⟨gm, 1, none⟩) (Kd.bL (p := ⟨gm, 0, none⟩) (Kd.aX jr.out (fun k_ hk => (⟨hk, by exact hk.1.2.2.2.1⟩ : _ ∧ k_ ≠ gm))) (fun _ hk => hk.2) (.int .i64 wo)) (fun _ hk => hk.2) (.slice rP oP.length qJ)) (fun _ h_ => h_.1))))) (Kd.fK (by exact (Kd.aX (Kd.bL (p := ⟨gm, 1, none⟩) (Kd.bL (p := ⟨gm, 0, none⟩) (Kd.aX wO.out (fun k_ hk => (⟨hk, by exact hk.1.2⟩ : _ ∧ k_ ≠ gm))) (fun _ hk => hk.2) (.int .i64 wo)) (fun _ hk => hk.2) (.slice rP oP.length qJ)) (fun _ h_ => h_.1))))) (g := kX) (o := .cells (t2_ bf dW aC.length dE) 51 (0, 0)) b5_) (g := lN) (o := .cells (t2_ iN nQ gQ.length nR) 51 (0, 0)) b5_) (g := gm) (o := .cells (t2_ wo rP oP.length qJ) 51 (0, 0)) b5_) (g := eQ) (o := .cells (t2_ mW mY j6.length mP) 51 (0, 0)) b5_) (aI bl_)); replace jq := aa.mk (Kd.fI (by exact (Kd.aX (Kd.bL (p := ⟨gm, 1, none⟩) (Kd.bL (p := ⟨gm, 0, none⟩) (Kd.aX jq.out (fun k_ hk => (⟨hk, by exact hk.1.2.2.2.1⟩ : _ ∧ k_ ≠ gm))) (fun _ hk => hk.2) (.int .i64 wo)) (fun _ hk => hk.2) (.slice rP oP.length qJ)) (fun _ h_ => h_.1))) (Kd.dI ho0) hb); replace jr := aa.mk (Kd.fI (by exact (Kd.aX (Kd.bL (p := ⟨gm, 1, none⟩) (Kd.bL (p := ⟨gm, 0, none⟩) (Kd.aX jr.out (fun k_ hk => (⟨hk, by exact hk.1.2.2.2.1⟩ : _ ∧ k_ ≠ gm))) (fun _ hk => hk.2) (.int .i64 wo)) (fun _ hk => hk.2) (.slice rP oP.length qJ)) (fun _ h_ => h_.1))) (Kd.dI ho0) hb); replace wO := aa.mk (Kd.fI (by exact (Kd.aX (Kd.bL (p := ⟨gm, 1, none⟩) (Kd.bL (p := ⟨gm, 0, none⟩) (Kd.aX wO.out (fun k_ hk => (⟨hk, by exact hk.1.2⟩ : _ ∧ k_ ≠ gm))) (fun _ hk => hk.2) (.int .i64 wo)) (fun _ hk => hk.2) (.slice rP oP.length qJ)) (fun _ h_ => h_.1))) (Kd.dI ho0) hb); replace dZ := aa.mk (gW (g := sZ) (o := .cells (t5_ ah ak aj ai aY af.length aT) 24 (0, 0)) b5_ hb); replace fH := aa.mk (gW (g := kX) (o := .cells (t2_ bf dW aC.length dE) 51 (0, 0)) b5_ hb); replace iC := aa.mk (gW (g := lN) (o := .cells (t2_ iN nQ gQ.length nR) 51 (0, 0)) b5_ hb); replace gB := aa.mk (gW (g := gm) (o := .cells (t2_ wo rP oP.length qJ) 51 (0, 0)) b5_ hb); replace ig := aa.mk (gW (g := eQ) (o := .cells (t2_ mW mY j6.length mP) 51 (0, 0)) b5_ hb); replace HB := aa.mk (ax bl_ hb); obtain ⟨XI, XJ, XK, XL⟩ := dS ig.out; obtain ⟨yM, xH, eo86⟩ := Kd.bF Dt.out; subst eo86))
       go_cut [88] (fun v88 wc => ∃ (kq : Nat) (Oo : Bool), v88 = .bool Oo ∧ aa (aQ.j2 kq Oo ah ak aj ai af bf aC iN gQ = some r) ∧ aa (kq ≤ kj47) ∧ aa (Kd.R k51 51 wc w.heap.size (fun k_ => some k_ ≠ ((.slice yM pY.length xH) : Value).ownBlock ∧ k_ ≠ kX ∧ k_ ≠ lN ∧ k_ ≠ gm ∧ k_ ≠ eQ) (.slice rP oP.length qJ) oP) ∧ aa (Kd.R k51 51 wc w.heap.size (fun k_ => some k_ ≠ ((.slice rP oP.length qJ) : Value).ownBlock ∧ k_ ≠ kX ∧ k_ ≠ lN ∧ k_ ≠ gm ∧ k_ ≠ eQ) (.slice yM pY.length xH) pY) ∧ aa (wc.heap[sZ]? = some (.cells #[.int .i64 ah, .int .i64 ak, .int .i64 aj, .int .i64 ai, (.slice aY af.length aT)] 24 (0, 0))) ∧ aa (wc.heap[kX]? = some (.cells #[.int .i64 bf, (.slice dW aC.length dE)] 51 (0, 0))) ∧ aa (wc.heap[lN]? = some (.cells #[.int .i64 iN, (.slice nQ gQ.length nR)] 51 (0, 0))) ∧ aa (wc.heap[gm]? = some (.cells #[.int .i64 wo, (.slice rP oP.length qJ)] 51 (0, 0))) ∧ aa (wc.heap[eQ]? = some (.cells #[.int .i64 wY, (.slice yM pY.length xH)] 51 (0, 0))) ∧ aa (Below w.heap.size w wc))
       case first =>
        have H := HC69.out; clear HC69; by_cases c87 : t1167 = t1172
        ·rw [if_pos c87] at H; obtain ⟨c87b0, c87b1⟩ := bq_ c87; clear c87; (skip)
         replace H := Option.bind_eq_some_iff.mp H; obtain ⟨Lf, A880, H⟩ := H; have A88 := aa.mk A880; clear A880; have H' := aa.mk H; clear H; have hnc92 := LH.out; obtain ⟨Px, XM, _, _⟩ := dS gB.out; have hnb94 := LG.out; have hnc94 := uI.out; have hnb95 := TJ.out; have hnc95 := wL.out; have hnb96 := TK.out; have hnc96 := wM.out; obtain ⟨_, _, _, _⟩ := dS ig.out; go_wp2_with ((go_at_call 33; (with_reducible refine (bI.calls kj47 wo _ _ oP wY _ _ pY Lf _ ?au ?av ?bO ?bQ A88.out).mono ?_); (case au => refine (Kd.aZ (e := 51) (base := w.heap.size) (ok := fun k_ => (((((((True ∧ some k_ ≠ (.slice og mV.length oh : Value).ownBlock) ∧ some k_ ≠ (.slice mY j6.length mP : Value).ownBlock) ∧ k_ ≠ kX) ∧ k_ ≠ lN) ∧ k_ ≠ gm) ∧ k_ ≠ eQ) ∧ some k_ ≠ (.slice yM pY.length xH : Value).ownBlock)) (n := oP.length) (c := qJ) ?_).2.2; exact (by exact (Kd.aX (Kd.bL (p := ⟨eQ, 1, none⟩) (Kd.bL (p := ⟨eQ, 0, none⟩) (Kd.aX wO.out (fun k_ hk => (⟨hk, by exact hk.1.2⟩ : _ ∧ k_ ≠ eQ))) (fun _ hk => hk.2) (.int .i64 wY)) (fun _ hk => hk.2) (.slice yM pY.length xH)) (fun _ h_ => h_.1)))); (case av => exact (Kd.aZ wO.out).2.1); (case bO => refine (Kd.aZ (e := 51) (base := w.heap.size) (ok := fun k_ => (((((((True ∧ some k_ ≠ (.slice og mV.length oh : Value).ownBlock) ∧ some k_ ≠ (.slice mY j6.length mP : Value).ownBlock) ∧ some k_ ≠ (.slice rP oP.length qJ : Value).ownBlock) ∧ k_ ≠ kX) ∧ k_ ≠ lN) ∧ k_ ≠ gm) ∧ k_ ≠ eQ)) (n := pY.length) (c := xH) ?_).2.2; exact (by exact (Kd.aX (Kd.bL (p := ⟨eQ, 1, none⟩) (Kd.bL (p := ⟨eQ, 0, none⟩) (Kd.aX Dt.out (fun k_ hk => (⟨hk, by exact hk.2⟩ : _ ∧ k_ ≠ eQ))) (fun _ hk => hk.2) (.int .i64 wY)) (fun _ hk => hk.2) (.slice yM pY.length xH)) (fun _ h_ => h_.1)))); (case bQ => exact (Kd.aZ Dt.out).2.1); rintro e w98 ⟨rfl, hb⟩; replace wO := aa.mk (Kd.dH (by exact (Kd.aX (Kd.bL (p := ⟨eQ, 1, none⟩) (Kd.bL (p := ⟨eQ, 0, none⟩) (Kd.aX wO.out (fun k_ hk => (⟨hk, by exact hk.1.2⟩ : _ ∧ k_ ≠ eQ))) (fun _ hk => hk.2) (.int .i64 wY)) (fun _ hk => hk.2) (.slice yM pY.length xH)) (fun _ h_ => h_.1))) hb); replace Dt := aa.mk (Kd.dH (by exact (Kd.aX (Kd.bL (p := ⟨eQ, 1, none⟩) (Kd.bL (p := ⟨eQ, 0, none⟩) (Kd.aX Dt.out (fun k_ hk => (⟨hk, by exact hk.2⟩ : _ ∧ k_ ≠ eQ))) (fun _ hk => hk.2) (.int .i64 wY)) (fun _ hk => hk.2) (.slice yM pY.length xH)) (fun _ h_ => h_.1))) hb); replace dZ := aa.mk (gW (g := sZ) (o := .cells (t5_ ah ak aj ai aY af.length aT) 24 (0, 0)) b5_ hb); replace fH := aa.mk (gW (g := kX) (o := .cells (t2_ bf dW aC.length dE) 51 (0, 0)) b5_ hb); replace iC := aa.mk (gW (g := lN) (o := .cells (t2_ iN nQ gQ.length nR) 51 (0, 0)) b5_ hb); replace gB := aa.mk (gW (g := gm) (o := .cells (t2_ wo rP oP.length qJ) 51 (0, 0)) b5_ hb); replace ig := aa.mk (gW (g := eQ) (o := .cells (t2_ wY yM pY.length xH) 51 (0, 0)) b5_ hb); replace HB := aa.mk (ax bl_ hb)))
         go_meet
         case rel => exact ⟨_, (!Lf), rs_, H', ⟨by have := HJ6.out; have := HJ47.out; omega⟩, ⟨by exact Kd.aX wO.out (fun _ hk => ⟨hk.2, ⟨hk.1.1.1.1.2, ⟨hk.1.1.1.2, ⟨hk.1.1.2, hk.1.2⟩⟩⟩⟩)⟩, ⟨by exact Kd.aX Dt.out (fun _ hk => ⟨hk.1.1.1.1.2, ⟨hk.1.1.1.2, ⟨hk.1.1.2, ⟨hk.1.2, hk.2⟩⟩⟩⟩)⟩, ⟨bk_⟩, ⟨bk_⟩, ⟨bk_⟩, ⟨bk_⟩, ⟨bk_⟩, ⟨bl_⟩⟩
        ·rw [if_neg c87] at H; obtain ⟨c87b0, c87b1⟩ := bn_ c87; (skip)
         have H' := aa.mk H; clear H; go_wp2; go_meet
         case rel => exact ⟨_, (true), rs_, H', ⟨by have := HJ6.out; have := HJ47.out; omega⟩, ⟨by exact Kd.aX (Kd.bL (p := ⟨eQ, 1, none⟩) (Kd.bL (p := ⟨eQ, 0, none⟩) (Kd.aX wO.out (fun k_ hk => (⟨hk, by exact hk.1.2⟩ : _ ∧ k_ ≠ eQ))) (fun _ hk => hk.2) (.int .i64 wY)) (fun _ hk => hk.2) (.slice yM pY.length xH)) (fun _ hk => ⟨hk.1.2, ⟨hk.1.1.1.1.1.2, ⟨hk.1.1.1.1.2, ⟨hk.1.1.1.2, hk.1.1.2⟩⟩⟩⟩)⟩, ⟨by exact Kd.aX (Kd.bL (p := ⟨eQ, 1, none⟩) (Kd.bL (p := ⟨eQ, 0, none⟩) (Kd.aX Dt.out (fun k_ hk => (⟨hk, by exact hk.2⟩ : _ ∧ k_ ≠ eQ))) (fun _ hk => hk.2) (.int .i64 wY)) (fun _ hk => hk.2) (.slice yM pY.length xH)) (fun _ hk => ⟨hk.1.1.1.1.1.2, ⟨hk.1.1.1.1.2, ⟨hk.1.1.1.2, ⟨hk.1.1.2, hk.1.2⟩⟩⟩⟩)⟩, ⟨by refine bP ?_ uI.out _; refine bP ?_ uI.out _; exact dZ.out⟩, ⟨by refine bP ?_ wL.out _; refine bP ?_ wL.out _; exact fH.out⟩, ⟨by refine bP ?_ wM.out _; refine bP ?_ wM.out _; exact iC.out⟩, ⟨by refine bP ?_ wN.out _; refine bP ?_ wN.out _; exact gB.out⟩, ⟨by refine eP (cs := (t2_ wY mY j6.length mP)) ?_ 1 _ rfl; refine eP (cs := (t2_ mW mY j6.length mP)) ?_ 0 _ rfl; exact ig.out⟩, ⟨bl_⟩⟩
       case rest =>
        clear HC69; (try clear c1); (try clear c2); (try clear p2); (try clear c3); (try clear c4); (try clear c5); (try clear c6); (try clear c7); (try clear c8); (try clear c9); (try clear c29); (try clear c30); (try clear DF); (try clear GA); (try clear c32); (try clear c33); (try clear c37); (try clear c45); (try clear c49); (try clear c50); (try clear c51); (try clear c52); (try clear c54); (try clear c55); (try clear c56); (try clear c57); (try clear c58); (try clear c62); (try clear c62b0); (try clear NJ); (try clear c65); (try clear c66); (try clear c70); (try clear c71); (try clear c72); (try clear c73); (try clear c76); (try clear c77); (try clear c78); (try clear c83); (try clear c84); (try clear c87); (try clear c87b0); (try clear c87b1); (try clear c89); (try clear c90); (try clear c91); (try clear c92); (try clear c94); (try clear c95); (try clear c96); (try clear Kw Ky QB QC QD); (try clear Ce Cf); (try clear Cg EJ EK EL Ch); (try clear Lg Lh); (try clear XA XB XC XD PO); (try clear OQ XE OT XF); (try clear Qj Qk XG XH PQ); (try clear XI XJ XK XL); (try clear Px XM); try skip
        (try clear p2); obtain ⟨kq, Oo, rfl, HA, HJ68, jq, jr, dZ, fH, iC, gB, ig, HB⟩ := hcut; cases kq with
        | zero => exact absurd HA.out (by simp [aQ.j2])
        | succ kj68 =>
         have H := HA.out; clear HA; simp only [aQ.j2] at H; by_cases c99 : Oo = true
         ·subst c99; have H1 : (none) = some r := by rw [if_pos rfl] at H; exact H
          clear H; have H := H1; clear H1; exact absurd H (by simp)
         ·replace c99 := Bool.eq_false_iff.mpr c99; subst c99; have H1 : ((kI.f kj68 ah ak aj ai af bf aC iN gQ).bind fun Jd => ((ek.f kj68 ah ak aj ai af bf aC iN gQ).bind fun Je => (if Jd.2 = Je.2 then (aQ.j3 kj68 (Jd.1 != Je.1) ah ak aj ai af bf aC) else (aQ.j3 kj68 true ah ak aj ai af bf aC)))) = some r := by rw [if_neg (show ¬ (false = true) by decide)] at H; exact H
          clear H; have H := H1; clear H1; replace H := Option.bind_eq_some_iff.mp H; obtain ⟨⟨t1174, t1175⟩, A1000, H⟩ := H; (try dsimp only at H)
          have zJ := aa.mk A1000; clear A1000; replace H := Option.bind_eq_some_iff.mp H; obtain ⟨⟨t1176, t1177⟩, A1010, H⟩ := H; (try dsimp only at H)
          have A101 := aa.mk A1010; clear A1010; have HC102 := aa.mk H; clear H; obtain ⟨LX, LY, hcz107_2, hcz107_3, hcz107_4, _, _, _, _, _⟩ := bE dZ.out; obtain ⟨Ta, Tc, _, _⟩ := dS fH.out; obtain ⟨hcz114_0, hcz114_1, _, _⟩ := dS iC.out; go_upto_region 15 with (first | ((with_reducible refine ay (f := 31) rfl ?_); refine gl_ (some 93) Tryd.func31 #[.agg (t5_ ah ak aj ai aY af.length aT), .agg (t2_ bf dW aC.length dE), .agg (t2_ iN nQ gQ.length nR)] ?_; (with_reducible refine (kI.calls kj68 ah ak aj ai _ _ af bf _ _ aC iN _ _ gQ t1174 t1175 _ ?au ?av ?bO ?bQ ?vP ?side6 zJ.out).mono ?_); (case au => exact cb_ (Kd.aV bT.out HB.out)); (case av => exact ed.out); (case bO => exact cb_ (Kd.aV jw.out HB.out)); (case bQ => exact lK.out); (case vP => exact cb_ (Kd.aV GU.out HB.out)); (case side6 => exact GV.out); rintro e w115 ⟨rfl, hb⟩; refine ⟨_, rfl, ?_⟩; replace jq := aa.mk (Kd.dH (pR_ jq.out) hb); replace jr := aa.mk (Kd.dH (pR_ jr.out) hb); replace dZ := kb_ dZ hb; replace fH := kb_ fH hb; replace iC := kb_ iC hb; replace gB := kb_ gB hb; replace ig := kb_ ig hb; replace HB := aa.mk (ax bl_ hb); obtain ⟨hcz116_0, hcz116_1, hcz116_2, hcz116_3, hcz116_4, _, _, _, _, _⟩ := bE dZ.out; obtain ⟨hcz117_0, hcz117_1, _, _⟩ := dS fH.out; obtain ⟨hcz118_0, hcz118_1, _, _⟩ := dS iC.out) | ((with_reducible refine ay (f := 66) rfl ?_); refine gl_ (some 100) Tryd.func66 #[.agg (t5_ ah ak aj ai aY af.length aT), .agg (t2_ bf dW aC.length dE), .agg (t2_ iN nQ gQ.length nR)] ?_; (with_reducible refine (ek.calls kj68 ah ak aj ai _ _ af bf _ _ aC iN _ _ gQ t1176 t1177 _ ?au ?av ?bO ?bQ ?vP ?side6 A101.out).mono ?_); (case au => exact cb_ (Kd.aV bT.out HB.out)); (case av => exact ed.out); (case bO => exact cb_ (Kd.aV jw.out HB.out)); (case bQ => exact lK.out); (case vP => exact cb_ (Kd.aV GU.out HB.out)); (case side6 => exact GV.out); rintro e w119 ⟨rfl, hb⟩; refine ⟨_, rfl, ?_⟩; replace jq := aa.mk (Kd.dH (pR_ jq.out) hb); replace jr := aa.mk (Kd.dH (pR_ jr.out) hb); replace dZ := kb_ dZ hb; replace fH := kb_ fH hb; replace iC := kb_ iC hb; replace gB := kb_ gB hb; replace ig := kb_ ig hb; replace HB := aa.mk (ax bl_ hb)))
          go_cut [110] (fun v110 wc => ∃ (kq : Nat) (H6 : Bool), v110 = .bool H6 ∧ aa (aQ.j3 kq H6 ah ak aj ai af bf aC = some r) ∧ aa (kq ≤ kj68) ∧ aa (Kd.R k51 51 wc w.heap.size (fun k_ => some k_ ≠ ((.slice yM pY.length xH) : Value).ownBlock ∧ k_ ≠ kX ∧ k_ ≠ lN ∧ k_ ≠ gm ∧ k_ ≠ eQ) (.slice rP oP.length qJ) oP) ∧ aa (Kd.R k51 51 wc w.heap.size (fun k_ => some k_ ≠ ((.slice rP oP.length qJ) : Value).ownBlock ∧ k_ ≠ kX ∧ k_ ≠ lN ∧ k_ ≠ gm ∧ k_ ≠ eQ) (.slice yM pY.length xH) pY) ∧ aa (wc.heap[sZ]? = some (.cells #[.int .i64 ah, .int .i64 ak, .int .i64 aj, .int .i64 ai, (.slice aY af.length aT)] 24 (0, 0))) ∧ aa (wc.heap[kX]? = some (.cells #[.int .i64 bf, (.slice dW aC.length dE)] 51 (0, 0))) ∧ aa (wc.heap[lN]? = some (.cells #[.int .i64 iN, (.slice nQ gQ.length nR)] 51 (0, 0))) ∧ aa (wc.heap[gm]? = some (.cells #[.int .i64 wo, (.slice rP oP.length qJ)] 51 (0, 0))) ∧ aa (wc.heap[eQ]? = some (.cells #[.int .i64 wY, (.slice yM pY.length xH)] 51 (0, 0))) ∧ aa (Below w.heap.size w wc))
          case first =>
           have H := HC102.out; clear HC102; by_cases c120 : t1175 = t1177
           ·rw [if_pos c120] at H; obtain ⟨c120b0, c120b1⟩ := bq_ c120; clear c120; (skip)
            have H' := aa.mk H; clear H; go_wp2; go_meet
            case rel => exact ⟨_, ((t1174 != t1176)), rs_, H', ⟨by have := HJ6.out; have := HJ47.out; have := HJ68.out; omega⟩, ⟨pR_ jq.out⟩, ⟨pR_ jr.out⟩, ⟨bk_⟩, ⟨bk_⟩, ⟨bk_⟩, ⟨bk_⟩, ⟨bk_⟩, ⟨bl_⟩⟩
           ·rw [if_neg c120] at H; obtain ⟨c120b0, c120b1⟩ := bn_ c120; (skip)
            have H' := aa.mk H; clear H; go_wp2; go_meet
            case rel => exact ⟨_, (true), rs_, H', ⟨by have := HJ6.out; have := HJ47.out; have := HJ68.out; omega⟩, ⟨pR_ jq.out⟩, ⟨pR_ jr.out⟩, ⟨bk_⟩, ⟨bk_⟩, ⟨bk_⟩, ⟨bk_⟩, ⟨bk_⟩, ⟨bl_⟩⟩
          case rest =>
           clear HC102; (try clear c1); (try clear c2); (try clear p2); (try clear c3); (try clear c4); (try clear c5); (try clear c6); (try clear c7); (try clear c8); (try clear c9); (try clear c10); (try clear c11); (try clear c12); (try clear c29); (try clear c30); (try clear DF); (try clear GA); (try clear c31); (try clear c32); (try clear c33); (try clear c37); (try clear c45); (try clear c49); (try clear c50); (try clear c51); (try clear c52); (try clear c54); (try clear c55); (try clear c56); (try clear c57); (try clear c58); (try clear c62); (try clear c62b0); (try clear NJ); (try clear c65); (try clear c66); (try clear c70); (try clear c71); (try clear c72); (try clear c73); (try clear c76); (try clear c77); (try clear c78); (try clear c83); (try clear c84); (try clear c87); (try clear c87b0); (try clear c87b1); (try clear c89); (try clear c90); (try clear c91); (try clear c92); (try clear c94); (try clear c95); (try clear c96); (try clear c99); (try clear c103); (try clear c104); (try clear c105); (try clear c106); (try clear c108); (try clear c109); (try clear c110); (try clear c112); (try clear c113); (try clear c120); (try clear c120b0); (try clear c120b1); (try clear LX LY hcz107_2 hcz107_3 hcz107_4); (try clear Ta Tc); (try clear hcz114_0 hcz114_1); (try clear hcz116_0 hcz116_1 hcz116_2 hcz116_3 hcz116_4); (try clear hcz117_0 hcz117_1); (try clear hcz118_0 hcz118_1); (try clear Kw Ky QB QC QD); (try clear Ce Cf); (try clear Cg EJ EK EL Ch); (try clear Lg Lh); (try clear XA XB XC XD PO); (try clear OQ XE OT XF); (try clear Qj Qk XG XH PQ); (try clear XI XJ XK XL); (try clear Px XM); try skip
           (try clear p2); obtain ⟨kq, H6, rfl, HA, HJ101, jq, jr, dZ, fH, iC, gB, ig, HB⟩ := hcut; cases kq with
           | zero => exact absurd HA.out (by simp [aQ.j3])
           | succ kj101 =>
            have H := HA.out; clear HA; simp only [aQ.j3] at H; by_cases c121 : H6 = true
            ·subst c121; have H1 : (none) = some r := by rw [if_pos rfl] at H; exact H
             clear H; have H := H1; clear H1; exact absurd H (by simp)
            ·replace c121 := Bool.eq_false_iff.mpr c121; subst c121; have H1 : ((lW.f kj101 ah ak aj ai af bf aC).bind fun Jf => ((iT.f kj101 ah ak aj ai af bf aC).bind fun Jg => (if Jf.2 = Jg.2 then (some (Jf.1.toList == Jg.1.toList)) else (none)))) = some r := by rw [if_neg (show ¬ (false = true) by decide)] at H; exact H
             clear H; have H := H1; clear H1; replace H := Option.bind_eq_some_iff.mp H; obtain ⟨⟨t1178, t1179⟩, A1220, H⟩ := H; (try dsimp only at H)
             have A122 := aa.mk A1220; clear A1220; replace H := Option.bind_eq_some_iff.mp H; obtain ⟨⟨t1180, t1181⟩, A1230, H⟩ := H; (try dsimp only at H)
             have A123 := aa.mk A1230; clear A1230; by_cases c124 : t1179 = t1181
             ·rw [if_pos c124] at H; obtain ⟨c124b0, c124b1⟩ := bq_ c124; clear c124; obtain rfl := Option.some.inj H; obtain ⟨hcz129_0, hcz129_1, hcz129_2, hcz129_3, hcz129_4, _, _, _, _, _⟩ := bE dZ.out; obtain ⟨hcz133_0, hcz133_1, _, _⟩ := dS fH.out; go_wp2_with (first | ((with_reducible refine ay (f := 32) rfl ?_); refine gl_ (some 114) Tryd.func32 #[.agg (t5_ ah ak aj ai aY af.length aT), .agg (t2_ bf dW aC.length dE)] ?_; (with_reducible refine (lW.calls kj101 ah ak aj ai _ _ af bf _ _ aC t1178 t1179 _ ?au ?av ?bO ?bQ A122.out ?tab).mono ?_); (case tab => exact ptab HTAB.out bl_); (case au => exact cb_ (Kd.aV bT.out HB.out)); (case av => exact ed.out); (case bO => exact cb_ (Kd.aV jw.out HB.out)); (case bQ => exact lK.out); rintro e w134 ⟨rfl, hb⟩; refine ⟨_, rfl, ?_⟩; replace dZ := kb_ dZ hb; replace fH := kb_ fH hb; replace HB := aa.mk (ax bl_ hb); obtain ⟨hcz135_0, hcz135_1, hcz135_2, hcz135_3, hcz135_4, _, _, _, _, _⟩ := bE dZ.out; obtain ⟨hcz136_0, hcz136_1, _, _⟩ := dS fH.out) | ((with_reducible refine ay (f := 67) rfl ?_); refine gl_ (some 120) Tryd.func67 #[.agg (t5_ ah ak aj ai aY af.length aT), .agg (t2_ bf dW aC.length dE)] ?_; (with_reducible refine (iT.calls kj101 ah ak aj ai _ _ af bf _ _ aC t1180 t1181 _ ?au ?av ?bO ?bQ A123.out).mono ?_); (case au => exact cb_ (Kd.aV bT.out HB.out)); (case av => exact ed.out); (case bO => exact cb_ (Kd.aV jw.out HB.out)); (case bQ => exact lK.out); rintro e w137 ⟨rfl, hb⟩; refine ⟨_, rfl, ?_⟩; replace HB := aa.mk (ax bl_ hb)))
              go_ret; exact ⟨re_, bl_⟩
             ·rw [if_neg c124] at H; obtain ⟨c124b0, c124b1⟩ := bn_ c124; exact absurd H (by simp)
end Go.Proofs.YtggelekooacmnaaDoor.Q
set_option linter.unusedVariables false
set_option linter.unusedSimpArgs false
namespace Go.Proofs.YtggelekooacmnaaDoor.Pure
open Go.RowKit Go.Proofs.YtggelekooacmnaaDoor.Q Go.Proofs.YtggelekooacmnaaDoorW.aJ Go.Proofs.YtggelekooacmnaaDoorW.bu Go.Proofs.YtggelekooacmnaaDoorW.bB
-- values: the printer's check and wrong are plain functions here
theorem Em {a1 a2 a3 : Int} {l : List S24} {i : Nat} (h : i < l.length) : jH.f 5 a1 a2 a3 l i = some ((l[i]).f0, (l[i]).f1, (l[i]).f2, (l[i]).f3, (l[i]).f4) := by
  unfold jH.f
  rw [if_neg (by decide), if_pos (by omega), if_pos (by omega), rdT h]
theorem En {a1 a2 a3 i : Int} {x : S24} : jH.f 6 a1 a2 a3 [x] i = some (x.f0, x.f1, x.f2, x.f3, x.f4) := by
  unfold jH.f
  rw [if_pos rfl, if_pos (by simp), rd1]
abbrev at2 {α : Type} (g : Nat → Int → Int → Int → Int → List S24 → Int → List S51 → Option α) (t : S24) (v : S51) : Nat → Option α := fun k => g k t.f0 t.f1 t.f2 t.f3 t.f4 v.f0 v.f1
theorem Mq (n : Nat) {t : S24} {v : S51} {m : Nat} (h : Vt 10 t) (h4 : t.f0 ≠ 4) (_ : Bv m v) (_ : 10 ≤ m) : Ev (fun _ => l8.f t.f0 t.f1 t.f2 t.f3 t.f4 v.f0 v.f1) (chk 10 t v) :=
  ⟨0, fun k _ => by show (if vtb 10 t = true then some (chk 10 t v) else none) = _; rw [if_pos (vt_vtb 10 h h4)]⟩
theorem Jh (n : Nat) {t : S24} {v : S51} {m : Nat} (h : Vt 10 t) (h4 : t.f0 ≠ 4) (_ : Bv m v) (_ : 10 ≤ m) : Ev (fun _ => jf.f t.f0 t.f1 t.f2 t.f3 t.f4 v.f0 v.f1) (chk 10 t v) :=
  ⟨0, fun k _ => by show (if vtb 10 t = true then some (chk 10 t v) else none) = _; rw [if_pos (vt_vtb 10 h h4)]⟩

-- values: zero, cells
/-- the zero -/
def zr (x : S24) : Int := if x.f0 = 2 then max x.f1 (min 0 x.f2) else 0
def zv : Nat → S24 → S51
  | 0, _ => ⟨0, []⟩
  | n + 1, t => if t.f0 = 2 then ⟨zr t, []⟩ else if t.f0 = 5 then ⟨0, t.f4.map (zv n)⟩ else ⟨0, []⟩
theorem etaV (v : S51) : (⟨v.f0, v.f1⟩ : S51) = v := by cases v; rfl
theorem zero_l0 (n : Nat) (l : List S24) (hl : l.length ≤ 4) (ih : ∀ t ∈ l, Ev (at_ dJ.f t) ((zv n t).f0, (zv n t).f1)) :
    ∀ (d i : Nat) (o : List S51), o.length ≤ i → i + d = l.length → Ev (fun k => dJ.l0 k l l.length i 0 o) ((0 : Int), o ++ (l.drop i).map (zv n)) := by
  intro d
  induction d with
  | zero =>
    intro i o ho hi
    refine ⟨1, fun k hk => ?_⟩
    obtain ⟨k, rfl⟩ : ∃ j, k = j + 1 := ⟨k - 1, by omega⟩
    simp only [dJ.l0]
    rw [if_neg (by omega), List.drop_eq_nil_of_le (by omega)]; simp
  | succ d IH =>
    intro i o ho hi
    have hlt : i < l.length := by omega
    obtain ⟨K1, e1⟩ := ih l[i] (List.getElem_mem hlt)
    obtain ⟨K2, e2⟩ := IH (i + 1) (o ++ [zv n l[i]]) (by rw [List.length_append, List.length_singleton]; omega) (by omega)
    refine ⟨max K1 K2 + 1, fun k hk => ?_⟩
    obtain ⟨k, rfl⟩ : ∃ j, k = j + 1 := ⟨k - 1, by omega⟩
    have e1' := e1 k (by omega)
    have e2' := e2 k (by omega)
    unfold at_ at e1'
    dsimp only at e1' e2'
    simp only [dJ.l0]
    rw [if_pos (by omega), if_pos (by omega), if_pos (by omega), rdT hlt, e1', Option.bind_some, if_pos (by omega), iJ (by omega), etaV, e2', List.append_assoc, List.drop_eq_getElem_cons hlt]
    rfl
theorem XN (n : Nat) : ∀ {t : S24}, Vt n t → Ev (at_ dJ.f t) ((zv n t).f0, (zv n t).f1) := by
  induction n with
  | zero => intro t h; cases h
  | succ n ih =>
    intro t h
    by_cases k5 : t.f0 = 5
    · cases h with
      | tup _ l h1 h2 h3 h4 =>
        obtain ⟨K, e⟩ := zero_l0 n l h2 (fun x hx => ih (h3 x hx)) l.length 0 [] (by simp) (by omega)
        refine ⟨K + 1, fun k hk => ?_⟩
        obtain ⟨k, rfl⟩ : ∃ j, k = j + 1 := ⟨k - 1, by omega⟩
        have e' := e k (by omega)
        simp only [at_, dJ.f, zv]
        simpa using e'
      | _ => simp at k5
    · refine ⟨1, fun k hk => ?_⟩
      obtain ⟨k, rfl⟩ : ∃ j, k = j + 1 := ⟨k - 1, by omega⟩
      simp only [at_, dJ.f, zv, zr]
      by_cases k2 : t.f0 = 2
      · simp only [if_pos k2, mx_eq, Ng]
      · simp only [if_neg k2, if_neg k5]
/-- the cells -/
def p8 (f : S24 → S51 → List Int) : List S24 → List S51 → List Int
  | t :: ts, v :: vs => f t v ++ p8 f ts vs
  | _, _ => []
def cel : Nat → S24 → S51 → List Int
  | 0, _, _ => []
  | n + 1, t, v => if t.f0 = 5 then p8 (cel n) t.f4 v.f1
    else if t.f0 = 6 then (v.f1.length : Int) :: (v.f1.map (fun x => x.f0) ++ List.replicate (t.f3.toNat - v.f1.length) (zr (ag t.f4 0)))
    else [v.f0]
theorem ck1_at {f : S24 → S51 → Int} : ∀ {ts : List S24} {vs : List S51}, ck1 f ts vs = 0 → ∀ (i : Nat) (h : i < ts.length) (h' : i < vs.length), f ts[i] vs[i] = 0
  | t :: ts, v :: vs, h, i, hi, hi' => by
    simp only [ck1] at h
    by_cases hc : f t v = 0
    · rw [if_pos hc] at h
      cases i with
      | zero => exact hc
      | succ i => exact ck1_at h i (by simpa using hi) (by simpa using hi')
    · rw [if_neg hc] at h; exact absurd h hc
  | [], _, _, i, hi, _ => by simp at hi
  | _ :: _, [], _, i, _, hi => by simp at hi
theorem ck2_at {f : S51 → Int} : ∀ {vs : List S51}, ck2 f vs = 0 → ∀ v ∈ vs, f v = 0
  | v :: vs, h, x, hx => by
    simp only [ck2] at h
    by_cases hc : f v = 0
    · rw [if_pos hc] at h
      rcases List.mem_cons.1 hx with rfl | hx
      · exact hc
      · exact ck2_at h x hx
    · rw [if_neg hc] at h; exact absurd h hc
  | [], _, x, hx => by simp at hx
/-- what a value of a valid type is -/
theorem wu {n : Nat} {l : List S24} {v : S51} (h : chk (n + 1) ⟨5, 0, 0, 0, l⟩ v = 0) : v.f0 = 0 ∧ v.f1.length = l.length ∧ ∀ (i : Nat) (h : i < l.length) (h' : i < v.f1.length), chk n l[i] v.f1[i] = 0 := by
  simp only [chk, if_pos] at h
  by_cases c : v.f0 ≠ 0 ∨ v.f1.length ≠ l.length
  · rw [if_pos c] at h; simp at h
  · rw [if_neg c] at h
    exact ⟨by omega, by omega, ck1_at h⟩
theorem wy {n : Nat} {m : Int} {x : S24} {v : S51} (h : chk (n + 1) ⟨6, 0, 0, m, [x]⟩ v = 0) : v.f0 = 0 ∧ (v.f1.length : Int) ≤ m ∧ ∀ y ∈ v.f1, chk n x y = 0 := by
  have hs : chk (n + 1) ⟨6, 0, 0, m, [x]⟩ v = (if v.f0 ≠ 0 ∨ (v.f1.length : Int) > m then 2 else ck2 (chk n x) v.f1) := by simp [chk, rd1]
  rw [hs] at h
  by_cases c : v.f0 ≠ 0 ∨ (v.f1.length : Int) > m
  · rw [if_pos c] at h; simp at h
  · rw [if_neg c] at h
    exact ⟨by omega, by omega, ck2_at h⟩
theorem uj {n : Nat} {t : S24} {v : S51} (h5 : t.f0 ≠ 5) (h6 : t.f0 ≠ 6) (h : chk (n + 1) t v = 0) : v.f1 = [] ∧ (t.f0 = 1 → 0 ≤ v.f0 ∧ v.f0 ≤ 1) ∧ (t.f0 = 3 → 0 ≤ v.f0) ∧ (t.f0 ≠ 1 → t.f0 ≠ 3 → t.f1 ≤ v.f0 ∧ v.f0 ≤ t.f2) := by
  simp only [chk, if_neg h5, if_neg h6] at h
  by_cases c : v.f1.length ≠ 0
  · rw [if_pos c] at h; simp at h
  · rw [if_neg c] at h
    refine ⟨List.eq_nil_of_length_eq_zero (by omega), ?_, ?_, ?_⟩
    · intro h1
      simp only [if_pos h1] at h
      split at h <;> omega
    · intro h3
      have h1 : t.f0 ≠ 1 := by omega
      simp only [if_neg h1, if_pos h3] at h
      split at h <;> omega
    · intro h1 h3
      simp only [if_neg h1, if_neg h3] at h
      split at h <;> omega
theorem Td {n : Nat} : ∀ {ts : List S24} {vs : List S51}, ts.length = vs.length → (∀ (i : Nat) (h : i < ts.length) (h' : i < vs.length), (cel n ts[i] vs[i]).length = (prt n ts[i]).length) → (p8 (cel n) ts vs).length = (ts.map (prt n)).flatten.length
  | [], [], _, _ => rfl
  | t :: ts, v :: vs, hl, h => by
    simp only [p8, List.length_append, List.map_cons, List.flatten_cons]
    have h0 := h 0 (by simp) (by simp)
    simp only [List.getElem_cons_zero] at h0
    rw [h0, Td (by simpa using hl) (fun i h1 h2 => h (i + 1) (Nat.succ_lt_succ h1) (Nat.succ_lt_succ h2))]
  | [], _ :: _, hl, _ => by simp at hl
  | _ :: _, [], hl, _ => by simp at hl
theorem uJ (n : Nat) : ∀ {t : S24} {v : S51}, Vt n t → chk n t v = 0 → (cel n t v).length = (prt n t).length := by
  induction n with
  | zero => intro t v h; cases h
  | succ n ih =>
    intro t v h hc
    cases h with
    | bool => simp [cel, prt]
    | int _ lo hi h1 h2 h3 => simp [cel, prt]
    | nat => simp [cel, prt]
    | real => simp [cel, prt]
    | tup _ l h1 h2 h3 h4 =>
      obtain ⟨_, hl, ha⟩ := wu hc
      rw [prt5, show cel (n + 1) ⟨5, 0, 0, 0, l⟩ v = p8 (cel n) l v.f1 from by simp [cel]]
      exact Td hl.symm (fun i h1 h2 => ih (h3 _ (List.getElem_mem h1)) (ha i h1 h2))
    | lst _ m x h1 h2 h3 h4 =>
      obtain ⟨_, hl, ha⟩ := wy hc
      rw [prt6, List.length_cons, J3, Nh h3 h4]
      simp [cel]; omega

end Go.Proofs.YtggelekooacmnaaDoor.Pure
set_option linter.unusedVariables false
set_option linter.unusedSimpArgs false
namespace Go.Proofs.YtggelekooacmnaaDoor.Pure
open Go.RowKit Go.Proofs.YtggelekooacmnaaDoor.Q Go.Proofs.YtggelekooacmnaaDoorW.aJ Go.Proofs.YtggelekooacmnaaDoorW.bu Go.Proofs.YtggelekooacmnaaDoorW.bB
-- flatten, read, Ji
theorem Vv.bd1 {n m : Nat} {v : S51} (hb : Bv (m + 1) v) (i : Nat) (h : i < v.f1.length) : Bv m v.f1[i] := hb.2 _ (List.getElem_mem h)
theorem flat_l0 (n : Nat) (ts : List S24) (vs : List S51) (hl : ts.length = vs.length) (h4 : ts.length ≤ 4) (B : Nat) (hB : B ≤ 10000000) (ih : ∀ (i : Nat) (h : i < ts.length) (h' : i < vs.length), Ev (at2 aN.f ts[i] vs[i]) (cel n ts[i] vs[i]) ∧ (cel n ts[i] vs[i]).length ≤ B) :
    ∀ (d i : Nat) (o : List Int), o.length ≤ i * B → i + d = vs.length → Ev (fun k => aN.l0 k o vs vs.length i 5 0 0 0 ts) (o ++ p8 (cel n) (ts.drop i) (vs.drop i)) := by
  intro d
  induction d with
  | zero =>
    intro i o ho hi
    refine ⟨1, fun k hk => ?_⟩
    obtain ⟨k, rfl⟩ : ∃ j, k = j + 1 := ⟨k - 1, by omega⟩
    simp only [aN.l0]
    rw [if_neg (by omega), List.drop_eq_nil_of_le (show vs.length ≤ i by omega), List.drop_eq_nil_of_le (show ts.length ≤ i by omega)]; simp [p8]
  | succ d IH =>
    intro i o ho hi
    have hlt : i < vs.length := by omega
    have hlt' : i < ts.length := by omega
    obtain ⟨⟨K1, e1⟩, hb⟩ := ih i hlt' hlt
    have hm : (o ++ cel n ts[i] vs[i]).length ≤ (i + 1) * B := by rw [List.length_append, Nat.add_mul]; omega
    have hm2 : (i + 1) * B ≤ 4 * B := Nat.mul_le_mul_right _ (by omega)
    obtain ⟨K2, e2⟩ := IH (i + 1) (o ++ cel n ts[i] vs[i]) hm (by omega)
    refine ⟨max K1 K2 + 1, fun k hk => ?_⟩
    obtain ⟨k, rfl⟩ : ∃ j, k = j + 1 := ⟨k - 1, by omega⟩
    have e1' := e1 k (by omega)
    have e2' := e2 k (by omega)
    dsimp only [at2] at e1' e2'
    rw [List.length_append] at hm
    simp only [aN.l0]
    rw [if_pos (by omega), if_pos (by omega), if_pos (by omega), if_pos (by omega), rdT hlt', rdV hlt, e1', Option.bind_some, if_pos (by omega), iJ (by omega), e2', List.append_assoc, List.drop_eq_getElem_cons hlt, List.drop_eq_getElem_cons hlt']
    rfl
theorem yc {t : S24} {v : S51} (h5 : t.f0 ≠ 5) (h6 : t.f0 ≠ 6) : Ev (at2 aN.f t v) [v.f0] := by
  refine ⟨1, fun k hk => ?_⟩
  obtain ⟨k, rfl⟩ : ∃ j, k = j + 1 := ⟨k - 1, by omega⟩
  simp only [at2, aN.f, if_neg h5, if_neg h6]
theorem flat_l2 (n : Nat) (x : S24) (m : Int) (hx : Vt n x) (hs : x.f0 = 1 ∨ x.f0 = 2) (N : Nat) (hN : N ≤ 4) :
    ∀ (d i : Nat) (o : List Int), o.length ≤ 100 + i → i + d = N → Ev (fun k => aN.l2 k o N i 6 0 0 m [x]) (o ++ List.replicate d (zr x)) := by
  intro d
  induction d with
  | zero =>
    intro i o ho hi
    refine ⟨1, fun k hk => ?_⟩
    obtain ⟨k, rfl⟩ : ∃ j, k = j + 1 := ⟨k - 1, by omega⟩
    simp only [aN.l2]
    rw [if_neg (by omega)]; simp
  | succ d IH =>
    intro i o ho hi
    obtain ⟨K1, e1⟩ := XN n hx
    have hz : (zv n x).f0 = zr x := by
      cases hx with
      | bool => simp [zv, zr]
      | int _ lo hi h1 h2 h3 => simp [zv]
      | _ => simp at hs
    obtain ⟨K3, e3⟩ := yc (t := x) (v := zv n x) (by omega) (by omega)
    obtain ⟨K2, e2⟩ := IH (i + 1) (o ++ [zr x]) (by rw [List.length_append, List.length_singleton]; omega) (by omega)
    refine ⟨max K1 (max K2 K3) + 1, fun k hk => ?_⟩
    obtain ⟨k, rfl⟩ : ∃ j, k = j + 1 := ⟨k - 1, by omega⟩
    have e1' := e1 k (by omega)
    have e2' := e2 k (by omega)
    have e3' := e3 k (by omega)
    unfold at_ at e1'
    dsimp only [at2] at e1' e2' e3'
    simp only [aN.l2]
    rw [if_pos (by omega), if_pos (by simp), rd1, e1', Option.bind_some, e3', Option.bind_some, if_pos (by rw [List.length_singleton]; omega), iJ (by omega), hz, e2', List.append_assoc]
    rfl
theorem flat_l1 (n : Nat) (x : S24) (m v0 : Int) (vs ws : List S51) (hs : x.f0 = 1 ∨ x.f0 = 2) (h4 : vs.length ≤ 4) (r : List Int → List Int)
    (fin : ∀ o : List Int, o.length ≤ 100 → Ev (fun k => aN.l2 k o (wrap64 (m - (ws.length : Int))) 0 6 0 0 m [x]) (r o)) :
    ∀ (d i : Nat) (o : List Int), o.length ≤ 1 + i → i + d = vs.length → Ev (fun k => aN.l1 k o vs vs.length i 6 0 0 m [x] v0 ws) (r (o ++ (vs.drop i).map (fun y => y.f0))) := by
  intro d
  induction d with
  | zero =>
    intro i o ho hi
    obtain ⟨K, e⟩ := fin o (by omega)
    refine ⟨K + 1, fun k hk => ?_⟩
    obtain ⟨k, rfl⟩ : ∃ j, k = j + 1 := ⟨k - 1, by omega⟩
    have e' := e k (by omega)
    dsimp only at e'
    simp only [aN.l1]
    rw [if_neg (by omega), e', List.drop_eq_nil_of_le (by omega)]; simp
  | succ d IH =>
    intro i o ho hi
    have hlt : i < vs.length := by omega
    obtain ⟨K3, e3⟩ := yc (t := x) (v := vs[i]) (by omega) (by omega)
    obtain ⟨K2, e2⟩ := IH (i + 1) (o ++ [vs[i].f0]) (by rw [List.length_append, List.length_singleton]; omega) (by omega)
    refine ⟨max K2 K3 + 1, fun k hk => ?_⟩
    obtain ⟨k, rfl⟩ : ∃ j, k = j + 1 := ⟨k - 1, by omega⟩
    have e2' := e2 k (by omega)
    have e3' := e3 k (by omega)
    dsimp only [at2] at e2' e3'
    simp only [aN.l1]
    rw [if_pos (by omega), if_pos (by omega), if_pos (by omega), if_pos (by simp), rd1, rdV hlt, e3', Option.bind_some, if_pos (by rw [List.length_singleton]; omega), iJ (by omega), e2', List.append_assoc, List.drop_eq_getElem_cons hlt]
    rfl
theorem H8 (n : Nat) : ∀ {t : S24} {v : S51} {m : Nat}, n ≤ 10 → Vt n t → Bv m v → n ≤ m → chk n t v = 0 → Ev (at2 aN.f t v) (cel n t v) := by
  induction n with
  | zero => intro t v m _ h; cases h
  | succ n ih =>
    intro t v m hn h hb hm hc
    obtain ⟨m, rfl⟩ : ∃ e, m = e + 1 := ⟨m - 1, by omega⟩
    cases h with
    | bool => simp only [cel]; exact yc (by decide) (by decide)
    | int _ lo hi h1 h2 h3 => simp only [cel]; exact yc (by simp) (by simp)
    | nat => simp only [cel]; exact yc (by decide) (by decide)
    | real => simp only [cel]; exact yc (by decide) (by decide)
    | tup _ l h1 h2 h3 h4 =>
      obtain ⟨_, hl, ha⟩ := wu hc
      have hp := pow5 (show n ≤ 9 by omega)
      obtain ⟨K, e⟩ := flat_l0 n l v.f1 hl.symm h2 (5 ^ n) (by omega) (fun i hi hi' => ⟨ih (by omega) (h3 _ (List.getElem_mem hi)) (Vv.bd1 (n := n) hb i hi') (by omega) (ha i hi hi'), by
        rw [uJ n (h3 _ (List.getElem_mem hi)) (ha i hi hi')]; exact (Co n (h3 _ (List.getElem_mem hi))).1⟩) v.f1.length 0 [] (by simp) (by omega)
      rw [show cel (n + 1) ⟨5, 0, 0, 0, l⟩ v = p8 (cel n) l v.f1 from by simp [cel]]
      refine ⟨K + 1, fun k hk => ?_⟩
      obtain ⟨k, rfl⟩ : ∃ j, k = j + 1 := ⟨k - 1, by omega⟩
      have e' := e k (by omega)
      simp only [at2, aN.f]
      simpa using e'
    | lst _ mm x h1 h2 h3 h4 =>
      obtain ⟨_, hl, ha⟩ := wy hc
      have hN : wrap64 (mm - (v.f1.length : Int)) = ((mm.toNat - v.f1.length : Nat) : Int) := by unfold wrap64; omega
      have fin : ∀ o : List Int, o.length ≤ 100 → Ev (fun k => aN.l2 k o (wrap64 (mm - (v.f1.length : Int))) 0 6 0 0 mm [x]) (o ++ List.replicate (mm.toNat - v.f1.length) (zr x)) := by
        intro o ho
        rw [hN]
        exact flat_l2 n x mm h3 h4 (mm.toNat - v.f1.length) (by omega) _ 0 o (by omega) (by omega)
      obtain ⟨K, e⟩ := flat_l1 n x mm v.f0 v.f1 v.f1 h4 (by omega) _ fin v.f1.length 0 [(v.f1.length : Int)] (by simp) (by omega)
      refine ⟨K + 1, fun k hk => ?_⟩
      obtain ⟨k, rfl⟩ : ∃ j, k = j + 1 := ⟨k - 1, by omega⟩
      have e' := e k (by omega)
      simp only [at2, aN.f, cel]
      simpa [rd1] using e'
theorem eq_l0 (l m : List Int) (hl : l.length = m.length) (hb : l.length ≤ 1000000000) : ∀ (d i : Nat), i + d = l.length → Ev (fun k => bW.l0 k l m l.length i) (decide (l.drop i = m.drop i)) := by
  intro d
  induction d with
  | zero =>
    intro i hi
    refine ⟨1, fun k hk => ?_⟩
    obtain ⟨k, rfl⟩ : ∃ j, k = j + 1 := ⟨k - 1, by omega⟩
    simp only [bW.l0]
    rw [if_neg (by omega), List.drop_eq_nil_of_le (show l.length ≤ i by omega), List.drop_eq_nil_of_le (show m.length ≤ i by omega)]; simp
  | succ d IH =>
    intro i hi
    have hlt : i < l.length := by omega
    have hlt' : i < m.length := by omega
    obtain ⟨K2, e2⟩ := IH (i + 1) (by omega)
    refine ⟨K2 + 1, fun k hk => ?_⟩
    obtain ⟨k, rfl⟩ : ∃ j, k = j + 1 := ⟨k - 1, by omega⟩
    have e2' := e2 k (by omega)
    dsimp only at e2'
    have r1 : rd l (i : Int) = l[i] := by simp [rd, List.getD, hlt]
    have r2 : rd m (i : Int) = m[i] := by simp [rd, List.getD, hlt']
    have hiff : (l.drop i = m.drop i) ↔ (l[i] = m[i] ∧ l.drop (i + 1) = m.drop (i + 1)) := by
      rw [List.drop_eq_getElem_cons hlt, List.drop_eq_getElem_cons hlt', List.cons.injEq]
    simp only [bW.l0]
    rw [if_pos (by omega), if_pos (by omega), if_pos (by omega), if_pos (by omega), r1, r2, iJ (by omega), e2']
    by_cases c : l[i] = m[i]
    · rw [if_pos c]; congr 1; rw [decide_eq_decide, hiff]; simp [c]
    · rw [if_neg c, decide_eq_false (fun h => c (hiff.1 h).1)]
theorem Te (l m : List Int) (hb : l.length ≤ 1000000000) : Ev (fun k => bW.f k l m) (decide (l = m)) := by
  unfold bW.f
  by_cases hl : l.length = m.length
  · simp only [if_pos (show (l.length : Int) = (m.length : Int) by omega)]
    simpa using eq_l0 l m hl hb l.length 0 (by omega)
  · simp only [if_neg (show ¬ (l.length : Int) = (m.length : Int) by omega)]
    rw [decide_eq_false (fun h => hl (by rw [h]))]
    exact Ev.now _
theorem same_l0 (l m : List Int) (hl : l.length = m.length) (hb : l.length ≤ 1000000000) : ∀ (d i : Nat), i + d = l.length → Ev (fun k => bD.l0 k l m i) (decide (l.drop i = m.drop i)) := by
  intro d
  induction d with
  | zero =>
    intro i hi
    refine ⟨1, fun k hk => ?_⟩
    obtain ⟨k, rfl⟩ : ∃ j, k = j + 1 := ⟨k - 1, by omega⟩
    simp only [bD.l0]
    rw [if_neg (by omega), List.drop_eq_nil_of_le (show l.length ≤ i by omega), List.drop_eq_nil_of_le (show m.length ≤ i by omega)]; simp
  | succ d IH =>
    intro i hi
    have hlt : i < l.length := by omega
    have hlt' : i < m.length := by omega
    obtain ⟨K2, e2⟩ := IH (i + 1) (by omega)
    refine ⟨K2 + 1, fun k hk => ?_⟩
    obtain ⟨k, rfl⟩ : ∃ j, k = j + 1 := ⟨k - 1, by omega⟩
    have e2' := e2 k (by omega)
    dsimp only at e2'
    have r1 : rd l (i : Int) = l[i] := by simp [rd, List.getD, hlt]
    have r2 : rd m (i : Int) = m[i] := by simp [rd, List.getD, hlt']
    have hiff : (l.drop i = m.drop i) ↔ (l[i] = m[i] ∧ l.drop (i + 1) = m.drop (i + 1)) := by
      rw [List.drop_eq_getElem_cons hlt, List.drop_eq_getElem_cons hlt', List.cons.injEq]
    simp only [bD.l0]
    rw [if_pos (by omega), if_pos (by omega), if_pos (by omega), r1, r2, iJ (by omega), e2']
    by_cases c : l[i] = m[i]
    · rw [if_pos c]; congr 1; rw [decide_eq_decide, hiff]; simp [c]
    · rw [if_neg c, decide_eq_false (fun h => c (hiff.1 h).1)]
theorem Eo (l m : List Int) (hb : l.length ≤ 1000000000) : Ev (fun k => bD.f k l m) (decide (l = m)) := by
  unfold bD.f
  by_cases hl : l.length = m.length
  · simp only [if_pos (show (l.length : Int) = (m.length : Int) by omega)]
    simpa using same_l0 l m hl hb l.length 0 (by omega)
  · simp only [if_neg (show ¬ (l.length : Int) = (m.length : Int) by omega)]
    rw [decide_eq_false (fun h => hl (by rw [h]))]
    exact Ev.now _

end Go.Proofs.YtggelekooacmnaaDoor.Pure
set_option linter.unusedVariables false
set_option linter.unusedSimpArgs false
namespace Go.Proofs.YtggelekooacmnaaDoor.Pure
open Go.RowKit Go.Proofs.YtggelekooacmnaaDoor.Q Go.Proofs.YtggelekooacmnaaDoorW.aJ Go.Proofs.YtggelekooacmnaaDoorW.bu Go.Proofs.YtggelekooacmnaaDoorW.bB
-- read, Ji on the cells of a value
theorem Rf {t : S24} (h5 : t.f0 ≠ 5) (h6 : t.f0 ≠ 6) (c : Int) (rest : List Int) : Ev (fun k => bJ.f k t.f0 t.f1 t.f2 t.f3 t.f4 (c :: rest)) (c, [], rest, true) := by
  refine ⟨1, fun k hk => ?_⟩
  obtain ⟨k, rfl⟩ : ∃ j, k = j + 1 := ⟨k - 1, by omega⟩
  simp only [bJ.f, if_neg h5, if_neg h6]
  rw [if_neg (by simp; omega), if_pos (by simp), if_pos (by simp; omega)]
  simp [rd]
theorem read_l0t (n : Nat) (ts : List S24) (vs : List S51) (hl : ts.length = vs.length) (h4 : ts.length ≤ 4) (rest : List Int)
    (ih : ∀ (i : Nat) (h : i < ts.length) (h' : i < vs.length) (r : List Int), (cel n ts[i] vs[i]).length + r.length ≤ 100000000 → Ev (fun k => bJ.f k (ts[i]).f0 (ts[i]).f1 (ts[i]).f2 (ts[i]).f3 (ts[i]).f4 (cel n ts[i] vs[i] ++ r)) ((vs[i]).f0, (vs[i]).f1, r, true)) :
    ∀ (d i : Nat) (o : List S51), o.length ≤ i → i + d = vs.length → (p8 (cel n) (ts.drop i) (vs.drop i)).length + rest.length ≤ 100000000 → Ev (fun k => bJ.l0 k (p8 (cel n) (ts.drop i) (vs.drop i) ++ rest) ts.length ts.length i 5 0 0 0 ts 0 o) (0, o ++ vs.drop i, rest, true) := by
  intro d
  induction d with
  | zero =>
    intro i o ho hi hq
    refine ⟨1, fun k hk => ?_⟩
    obtain ⟨k, rfl⟩ : ∃ j, k = j + 1 := ⟨k - 1, by omega⟩
    simp only [bJ.l0]
    rw [if_neg (by omega), if_neg (by decide), List.drop_eq_nil_of_le (show vs.length ≤ i by omega), List.drop_eq_nil_of_le (show ts.length ≤ i by omega)]; simp [p8]
  | succ d IH =>
    intro i o ho hi hq
    have hlt : i < vs.length := by omega
    have hlt' : i < ts.length := by omega
    rw [List.drop_eq_getElem_cons hlt, List.drop_eq_getElem_cons hlt', p8, List.length_append] at hq
    obtain ⟨K1, e1⟩ := ih i hlt' hlt (p8 (cel n) (ts.drop (i + 1)) (vs.drop (i + 1)) ++ rest) (by rw [List.length_append]; omega)
    obtain ⟨K2, e2⟩ := IH (i + 1) (o ++ [vs[i]]) (by rw [List.length_append, List.length_singleton]; omega) (by omega) (by omega)
    refine ⟨max K1 K2 + 1, fun k hk => ?_⟩
    obtain ⟨k, rfl⟩ : ∃ j, k = j + 1 := ⟨k - 1, by omega⟩
    have e1' := e1 k (by omega)
    have e2' := e2 k (by omega)
    dsimp only at e1' e2'
    have ec : p8 (cel n) (ts.drop i) (vs.drop i) ++ rest = cel n ts[i] vs[i] ++ (p8 (cel n) (ts.drop (i + 1)) (vs.drop (i + 1)) ++ rest) := by
      rw [List.drop_eq_getElem_cons hlt, List.drop_eq_getElem_cons hlt', p8, List.append_assoc]
    simp only [bJ.l0]
    rw [if_pos (by omega), Em hlt', Option.bind_some, ec, e1', Option.bind_some]
    dsimp only
    rw [if_pos rfl, if_pos (by omega), iJ (by omega), etaV, e2', List.append_assoc, List.drop_eq_getElem_cons hlt]
    rfl
theorem read_l0l (n : Nat) (x : S24) (m : Int) (hs : x.f0 = 1 ∨ x.f0 = 2) (vs : List S51) (hv : ∀ v ∈ vs, v.f1 = []) (h4 : vs.length ≤ 4) (hm : (vs.length : Int) ≤ m) (hm2 : m ≤ 4) (tail : List Int) (ht : m.toNat - vs.length ≤ tail.length) (hb : tail.length ≤ 1000000000) :
    ∀ (d i : Nat) (o : List S51), o.length ≤ i → i + d = vs.length → Ev (fun k => bJ.l0 k ((vs.drop i).map (fun y => y.f0) ++ tail) vs.length vs.length i 6 0 0 m [x] 0 o) (0, o ++ vs.drop i, tail.drop (m.toNat - vs.length), true) := by
  intro d
  induction d with
  | zero =>
    intro i o ho hi
    refine ⟨1, fun k hk => ?_⟩
    obtain ⟨k, rfl⟩ : ∃ j, k = j + 1 := ⟨k - 1, by omega⟩
    have hw : wrap64 (m - (vs.length : Int)) = ((m.toNat - vs.length : Nat) : Int) := by unfold wrap64; omega
    simp only [bJ.l0]
    rw [if_neg (by omega), if_pos trivial, List.drop_eq_nil_of_le (show vs.length ≤ i by omega), hw]
    simp only [List.map_nil, List.nil_append, List.append_nil]
    rw [if_neg (by omega), if_pos (by omega), if_pos (by omega)]
    simp
  | succ d IH =>
    intro i o ho hi
    have hlt : i < vs.length := by omega
    obtain ⟨K1, e1⟩ := Rf (t := x) (by omega) (by omega) vs[i].f0 ((vs.drop (i + 1)).map (fun y => y.f0) ++ tail)
    obtain ⟨K2, e2⟩ := IH (i + 1) (o ++ [vs[i]]) (by rw [List.length_append, List.length_singleton]; omega) (by omega)
    refine ⟨max K1 K2 + 1, fun k hk => ?_⟩
    obtain ⟨k, rfl⟩ : ∃ j, k = j + 1 := ⟨k - 1, by omega⟩
    have e1' := e1 k (by omega)
    have e2' := e2 k (by omega)
    dsimp only at e1' e2'
    have ec : (vs.drop i).map (fun y => y.f0) ++ tail = vs[i].f0 :: ((vs.drop (i + 1)).map (fun y => y.f0) ++ tail) := by
      rw [List.drop_eq_getElem_cons hlt]; rfl
    have hv' : (⟨vs[i].f0, []⟩ : S51) = vs[i] := by
      have := hv vs[i] (List.getElem_mem hlt)
      rw [← this, etaV]
    simp only [bJ.l0]
    rw [if_pos (by omega), En, Option.bind_some, ec, e1', Option.bind_some]
    dsimp only
    rw [if_pos rfl, if_pos (by omega), iJ (by omega), hv', e2', List.append_assoc, List.drop_eq_getElem_cons hlt]
    rfl
theorem read_ev (n : Nat) : ∀ {t : S24} {v : S51}, n ≤ 10 → Vt n t → chk n t v = 0 → ∀ rest : List Int, (cel n t v).length + rest.length ≤ 100000000 → Ev (fun k => bJ.f k t.f0 t.f1 t.f2 t.f3 t.f4 (cel n t v ++ rest)) (v.f0, v.f1, rest, true) := by
  induction n with
  | zero => intro t v _ h; cases h
  | succ n ih =>
    intro t v hn h hc rest hrest
    have hlen := uJ (n + 1) h hc
    have hpos := (Co (n + 1) h).2
    have leaf : t.f0 ≠ 5 → t.f0 ≠ 6 → Ev (fun k => bJ.f k t.f0 t.f1 t.f2 t.f3 t.f4 (cel (n + 1) t v ++ rest)) (v.f0, v.f1, rest, true) := by
      intro h5 h6
      rw [show cel (n + 1) t v = [v.f0] from by simp [cel, h5, h6], (uj h5 h6 hc).1]
      exact Rf h5 h6 v.f0 rest
    cases h with
    | bool => exact leaf (by decide) (by decide)
    | int _ lo hi h1 h2 h3 => exact leaf (by simp) (by simp)
    | nat => exact leaf (by decide) (by decide)
    | real => exact leaf (by decide) (by decide)
    | tup _ l h1 h2 h3 h4 =>
      obtain ⟨hz, hl, ha⟩ := wu hc
      have ec : cel (n + 1) ⟨5, 0, 0, 0, l⟩ v = p8 (cel n) l v.f1 := by simp [cel]
      rw [ec] at hlen hrest ⊢
      have hb : ∀ (i : Nat) (h : i < l.length) (h' : i < v.f1.length) (r : List Int), (cel n l[i] v.f1[i]).length + r.length ≤ 100000000 → Ev (fun k => bJ.f k (l[i]).f0 (l[i]).f1 (l[i]).f2 (l[i]).f3 (l[i]).f4 (cel n l[i] v.f1[i] ++ r)) ((v.f1[i]).f0, (v.f1[i]).f1, r, true) := fun i h h' r hr => ih (by omega) (h3 _ (List.getElem_mem h)) (ha i h h') r hr
      obtain ⟨K, e⟩ := read_l0t n l v.f1 hl.symm h2 rest hb v.f1.length 0 [] (by simp) (by omega) (by simpa using hrest)
      refine ⟨K + 2, fun k hk => ?_⟩
      obtain ⟨k, rfl⟩ : ∃ j, k = j + 2 := ⟨k - 2, by omega⟩
      have e' := e k (by omega)
      simp only [bJ.f]
      rw [if_neg (by rw [List.length_append]; omega), if_pos trivial]
      simp only [bJ.j0]
      rw [hz]
      simpa using e'
    | lst _ m x h1 h2 h3 h4 =>
      obtain ⟨hz, hl, ha⟩ := wy hc
      have ec : cel (n + 1) ⟨6, 0, 0, m, [x]⟩ v = (v.f1.length : Int) :: (v.f1.map (fun x => x.f0) ++ List.replicate (m.toNat - v.f1.length) (zr x)) := by simp [cel, rd1]
      rw [ec] at hlen hrest ⊢
      have hv : ∀ y ∈ v.f1, y.f1 = [] := by
        intro y hy
        have hq := ha y hy
        cases n with
        | zero => cases h3
        | succ n => exact (uj (by omega) (by omega) hq).1
      simp only [List.length_cons, List.length_append, List.length_map, List.length_replicate] at hrest
      obtain ⟨K, e⟩ := read_l0l n x m h4 v.f1 hv (by omega) hl h2 (List.replicate (m.toNat - v.f1.length) (zr x) ++ rest) (by simp) (by simp; omega) v.f1.length 0 [] (by simp) (by omega)
      refine ⟨K + 2, fun k hk => ?_⟩
      obtain ⟨k, rfl⟩ : ∃ j, k = j + 2 := ⟨k - 2, by omega⟩
      have e' := e k (by omega)
      have hr0 : rd ((v.f1.length : Int) :: (v.f1.map (fun x => x.f0) ++ List.replicate (m.toNat - v.f1.length) (zr x)) ++ rest) 0 = v.f1.length := by simp [rd]
      simp only [bJ.f]
      rw [if_neg (by simp; omega), if_neg (by decide), if_pos trivial, if_pos (by simp; omega), hr0, if_neg (by omega), if_neg (by omega), if_pos (by simp; omega)]
      simp only [bJ.j0]
      rw [hz]
      simpa using e'
theorem BL {t : S24} (hv : Vt 10 t) (hl : (prt 10 t).length ≤ 24) (h4 : t.f0 ≠ 4) : Ev (at_ fO.f t) 0 ∧ Ev (at_ fu.f t) 0 := by
  obtain ⟨⟨K1, e1⟩, ⟨K2, e2⟩⟩ := TC hv hl
  unfold at_ at e1 e2
  refine ⟨⟨K1, fun k hk => ?_⟩, ⟨K2, fun k hk => ?_⟩⟩
  · simp only [at_, fO.f]
    rw [e1 k hk, Option.bind_some, if_pos rfl, if_neg h4]
  · simp only [at_, fu.f]
    rw [e2 k hk, Option.bind_some, if_pos rfl, if_neg h4]
theorem Mr {t : S24} {v : S51} {m : Nat} (hv : Vt 10 t) (hl : (prt 10 t).length ≤ 24) (h4 : t.f0 ≠ 4) (hb : Bv m v) (hm : 10 ≤ m) : Ev (at2 gX.f t v) (chk 10 t v) ∧ Ev (at2 dR.f t v) (chk 10 t v) := by
  obtain ⟨⟨K1, e1⟩, ⟨K2, e2⟩⟩ := BL hv hl h4
  obtain ⟨K3, e3⟩ := Mq 10 hv h4 hb hm
  obtain ⟨K4, e4⟩ := Jh 10 hv h4 hb hm
  unfold at_ at e1 e2
  dsimp only [at2] at e3 e4
  refine ⟨⟨K1 + K3, fun k hk => ?_⟩, ⟨K2 + K4, fun k hk => ?_⟩⟩
  · simp only [at2, gX.f]
    rw [e1 k (by omega), Option.bind_some, if_pos rfl, e3 k (by omega), Option.bind_some]
  · simp only [at2, dR.f]
    rw [e2 k (by omega), Option.bind_some, if_pos rfl, e4 k (by omega), Option.bind_some]
theorem H9 {t : S24} {v : S51} {m : Nat} (hv : Vt 10 t) (hl : (prt 10 t).length ≤ 24) (h4 : t.f0 ≠ 4) (hb : Bv m v) (hm : 10 ≤ m) (hc : chk 10 t v = 0) : Ev (at2 eZ.f t v) (cel 10 t v, 0) := by
  obtain ⟨⟨K1, e1⟩, _⟩ := Mr hv hl h4 hb hm
  obtain ⟨K2, e2⟩ := H8 10 (by omega) hv hb hm hc
  dsimp only [at2] at e1 e2
  refine ⟨K1 + K2, fun k hk => ?_⟩
  simp only [at2, eZ.f]
  rw [e1 k (by omega), Option.bind_some, if_pos hc, e2 k (by omega), Option.bind_some]
theorem Tf {t : S24} {v : S51} {m : Nat} (hv : Vt 10 t) (hl : (prt 10 t).length ≤ 24) (h4 : t.f0 ≠ 4) (hb : Bv m v) (hm : 10 ≤ m) (hc : chk 10 t v = 0) :
    Ev (fun k => eY.f k t.f0 t.f1 t.f2 t.f3 t.f4 (cel 10 t v)) (v.f0, v.f1, 0) := by
  obtain ⟨⟨K1, e1⟩, _⟩ := BL hv hl h4
  have hcl := uJ 10 hv hc
  obtain ⟨K2, e2⟩ := read_ev 10 (by omega) hv hc [] (by simp; omega)
  obtain ⟨K3, e3⟩ := Mq 10 hv h4 hb hm
  obtain ⟨K4, e4⟩ := H8 10 (by omega) hv hb hm hc
  obtain ⟨K5, e5⟩ := Te (cel 10 t v) (cel 10 t v) (by omega)
  unfold at_ at e1
  dsimp only [at2] at e2 e3 e4 e5
  simp only [List.append_nil, decide_true] at e2 e5
  refine ⟨K1 + K2 + K3 + K4 + K5, fun k hk => ?_⟩
  simp only [eY.f]
  rw [e1 k (by omega), Option.bind_some, if_pos rfl, e2 k (by omega), Option.bind_some, if_pos rfl]
  rw [if_pos (by simp), e3 k (by omega), Option.bind_some, if_pos hc, e4 k (by omega), Option.bind_some, e5 k (by omega), Option.bind_some, if_pos rfl]

end Go.Proofs.YtggelekooacmnaaDoor.Pure
set_option linter.unusedVariables false
set_option linter.unusedSimpArgs false
namespace Go.Proofs.YtggelekooacmnaaDoor.Pure
open Go.RowKit Go.Proofs.YtggelekooacmnaaDoor.Q Go.Proofs.YtggelekooacmnaaDoorW.aJ Go.Proofs.YtggelekooacmnaaDoorW.bu Go.Proofs.YtggelekooacmnaaDoorW.bB
-- texts of types: one text, one type
/-- texts with ', ' between them -/
def oJ : List (List UInt8) → List UInt8
  | [] => []
  | [x] => x
  | x :: y :: l => x ++ 44 :: 32 :: oJ (y :: l)
end Go.Proofs.YtggelekooacmnaaDoor.Pure
namespace Go.Proofs.YtggelekooacmnaaDoor.Q
open Go.RowKit Go.Proofs.YtggelekooacmnaaDoorW.aJ Go.Proofs.YtggelekooacmnaaDoorW.bu Go.Proofs.YtggelekooacmnaaDoorW.bB
attribute [local go_sem] cZ dh dO dP bX bY dm dn   -- for this text's walks alone
set_option linter.unusedVariables false
set_option linter.unusedSimpArgs false

/-! ### types_format: function 44 -/

/-! ### types_Format: function 21 -/
end Go.Proofs.YtggelekooacmnaaDoor.Q
set_option linter.unusedVariables false
set_option linter.unusedSimpArgs false
namespace Go.Proofs.YtggelekooacmnaaDoor.Pure
open Go.RowKit Go.Proofs.YtggelekooacmnaaDoor.Q Go.Proofs.YtggelekooacmnaaDoorW.aJ Go.Proofs.YtggelekooacmnaaDoorW.bu Go.Proofs.YtggelekooacmnaaDoorW.bB
-- what types.Format says of a valid type: its text
theorem Rh : ∀ xs : List (List UInt8), Lib.join xs [44, 32] = oJ xs
  | [] => rfl
  | [x] => by rw [Lib.join_one]; rfl
  | x :: y :: l => by
    have ih := Rh (y :: l)
    rw [Lib.join_cons] at ih ⊢
    simp only [oJ, Lib.joinTail, List.map_cons, List.flatten_cons] at ih ⊢
    rw [← ih]; simp
theorem ba_eq {a : ByteArray} {l : List UInt8} (h : a.data.toList = l) : a = ⟨l.toArray⟩ := by cases a; subst h; simp
theorem qm (l : List UInt8) : (⟨l.toArray⟩ : ByteArray).size = l.length := by show l.toArray.size = l.length; simp
theorem Yi {a : Int} (h0 : -1000 ≤ a) (h1 : a ≤ 1000) : (Go.Lib.itoa a).length ≤ 21 := Lib.itoa_length_le a (by omega) (by omega)
theorem Ia {c : Nat} : ∀ xs : List (List UInt8), (∀ x ∈ xs, x.length ≤ c) → (oJ xs).length ≤ xs.length * (c + 2)
  | [], _ => by simp [oJ]
  | [x], h => by have := h x List.mem_cons_self; simp only [oJ, List.length_cons, List.length_nil]; omega
  | x :: y :: l, h => by
    have h1 := h x List.mem_cons_self
    have ih := Ia (y :: l) (fun z hz => h z (List.mem_cons_of_mem _ hz))
    simp only [oJ, List.length_append, List.length_cons] at ih ⊢
    rw [Nat.add_mul]
    omega
theorem itoa_f {a : Int} (h0 : -1000 ≤ a) (h1 : a ≤ 1000) : lM.f a = some ⟨(Go.Lib.itoa a).toArray⟩ := by
  unfold lM.f; rw [if_pos (by omega)]
theorem join_f (xs : List ByteArray) (h : xs.length ≤ 1000) (hb : (oJ (xs.map (·.data.toList))).length ≤ 100000000000) : strings_Join.f xs (⟨#[44, 32]⟩ : ByteArray) = some ⟨(oJ (xs.map (·.data.toList))).toArray⟩ := by
  unfold strings_Join.f
  have e : (⟨#[44, 32]⟩ : ByteArray).data.toList = [44, 32] := rfl
  rw [e, Rh, if_pos (by omega)]
end Go.Proofs.YtggelekooacmnaaDoor.Pure
set_option linter.unusedVariables false
set_option linter.unusedSimpArgs false
namespace Go.Proofs.YtggelekooacmnaaDoor.Pure
open Go.RowKit Go.Proofs.YtggelekooacmnaaDoor.Q Go.Proofs.YtggelekooacmnaaDoorW.aJ Go.Proofs.YtggelekooacmnaaDoorW.bu Go.Proofs.YtggelekooacmnaaDoorW.bB
-- values: one text, one value; one list of cells, one value
/-- a value's text -/
def txV : Nat → S24 → S51 → List UInt8
  | 0, _, _ => []
  | n + 1, t, v => if t.f0 = 5 then 40 :: (oJ (List.zipWith (txV n) t.f4 v.f1) ++ [41]) else if t.f0 = 6 then 91 :: (oJ (v.f1.map (txV n (ag t.f4 0))) ++ [93])
    else if t.f0 = 1 then (if v.f0 = 1 then [116, 114, 117, 101] else [102, 97, 108, 115, 101]) else Go.Lib.itoa v.f0
theorem veq {v w : S51} (h0 : v.f0 = w.f0) (h1 : v.f1 = w.f1) : v = w := by cases v; cases w; simp only at h0 h1; rw [h0, h1]
-- the lexicographic order of lists of numbers
def cmpL : List Int → List Int → Int
  | [], [] => 0
  | [], _ :: _ => -1
  | _ :: _, [] => 1
  | a :: l, b :: m => if a < b then -1 else if b < a then 1 else cmpL l m
end Go.Proofs.YtggelekooacmnaaDoor.Pure
set_option linter.unusedVariables false
set_option linter.unusedSimpArgs false
namespace Go.Proofs.YtggelekooacmnaaDoor.Pure
open Go.RowKit Go.Proofs.YtggelekooacmnaaDoor.Q Go.Proofs.YtggelekooacmnaaDoorW.aJ Go.Proofs.YtggelekooacmnaaDoorW.bu Go.Proofs.YtggelekooacmnaaDoorW.bB
-- the same, and Compare of values
theorem sameV_l0 (v0 w0 : Int) (vs : List S51) (hl : vs.length ≤ 1000) (ih : ∀ v ∈ vs, Ev (fun k => bI.f k v.f0 v.f1 v.f0 v.f1) true) : ∀ (d i : Nat), i + d = vs.length → Ev (fun k => bI.l0 k i v0 vs w0 vs) true := by
  intro d
  induction d with
  | zero =>
    intro i hi
    refine ⟨1, fun k hk => ?_⟩
    obtain ⟨k, rfl⟩ : ∃ j, k = j + 1 := ⟨k - 1, by omega⟩
    simp only [bI.l0]
    rw [if_neg (by omega)]
  | succ d IH =>
    intro i hi
    have hlt : i < vs.length := by omega
    obtain ⟨K1, e1⟩ := ih vs[i] (List.getElem_mem hlt)
    obtain ⟨K2, e2⟩ := IH (i + 1) (by omega)
    refine ⟨max K1 K2 + 1, fun k hk => ?_⟩
    obtain ⟨k, rfl⟩ : ∃ j, k = j + 1 := ⟨k - 1, by omega⟩
    have e1' := e1 k (by omega)
    have e2' := e2 k (by omega)
    dsimp only at e1' e2'
    simp only [bI.l0]
    rw [if_pos (by omega), if_pos (by omega), if_pos (by omega), rdV hlt, e1', Option.bind_some, if_pos rfl, iJ (by omega), e2']
theorem sameV (m : Nat) : ∀ {v : S51}, Bv m v → Ev (fun k => bI.f k v.f0 v.f1 v.f0 v.f1) true := by
  induction m with
  | zero => intro v h; exact h.elim
  | succ m ih =>
    intro v h
    obtain ⟨K, e⟩ := sameV_l0 v.f0 v.f0 v.f1 h.1 (fun x hx => ih (h.2 x hx)) v.f1.length 0 (by omega)
    refine ⟨K + 2, fun k hk => ?_⟩
    obtain ⟨k, rfl⟩ : ∃ j, k = j + 2 := ⟨k - 2, by omega⟩
    simp only [bI.f]
    rw [if_pos trivial, show ((v.f1.length : Int) != (v.f1.length : Int)) = false from by simp]
    simp only [bI.j0]
    rw [if_neg (by decide)]
    exact e k (by omega)
theorem cmp_f (a b : Int) : cmp_Compare_int.f a b = some (if a < b then -1 else if b < a then 1 else 0) := by
  unfold cmp_Compare_int.f cmp_isNaN_int.f
  simp only [bne_self_eq_false, Option.bind_some]
  rw [if_neg (by decide), if_neg (by decide)]
  split
  · rfl
  · split
    · rfl
    · rfl
theorem Yj (l m : List Int) (hb : l.length ≤ 1000) : ∀ (d i : Nat), i + d = l.length → i ≤ m.length → Ev (fun k => eT.l0 k l m l l.length i) (cmpL (l.drop i) (m.drop i)) := by
  intro d
  induction d with
  | zero =>
    intro i hi hm
    refine ⟨1, fun k hk => ?_⟩
    obtain ⟨k, rfl⟩ : ∃ j, k = j + 1 := ⟨k - 1, by omega⟩
    simp only [eT.l0]
    rw [if_neg (by omega), List.drop_eq_nil_of_le (show l.length ≤ i by omega)]
    by_cases h : i < m.length
    · rw [if_pos (by omega), List.drop_eq_getElem_cons h]; rfl
    · rw [if_neg (by omega), List.drop_eq_nil_of_le (by omega)]; rfl
  | succ d IH =>
    intro i hi hm
    have hlt : i < l.length := by omega
    by_cases h : i < m.length
    · obtain ⟨K2, e2⟩ := IH (i + 1) (by omega) (by omega)
      refine ⟨K2 + 1, fun k hk => ?_⟩
      obtain ⟨k, rfl⟩ : ∃ j, k = j + 1 := ⟨k - 1, by omega⟩
      have e2' := e2 k (by omega)
      dsimp only at e2'
      have r1 : rd l (i : Int) = l[i] := by simp [rd, List.getD, hlt]
      have r2 : rd m (i : Int) = m[i] := by simp [rd, List.getD, h]
      simp only [eT.l0]
      rw [if_pos (by omega), if_pos (by omega), if_pos (by omega), if_neg (by omega), if_pos (by omega), r1, r2, cmp_f, Option.bind_some, iJ (by omega), e2', List.drop_eq_getElem_cons hlt, List.drop_eq_getElem_cons h]
      simp only [cmpL]
      split
      · rw [if_neg (by decide)]
      · split
        · rw [if_neg (by decide)]
        · rw [if_pos rfl]
    · refine ⟨1, fun k hk => ?_⟩
      obtain ⟨k, rfl⟩ : ∃ j, k = j + 1 := ⟨k - 1, by omega⟩
      simp only [eT.l0]
      rw [if_pos (by omega), if_pos (by omega), if_pos (by omega), if_pos (by omega), List.drop_eq_getElem_cons hlt, List.drop_eq_nil_of_le (show m.length ≤ i by omega)]; rfl
theorem Yk {t : S24} {a b : S51} {m : Nat} (hv : Vt 10 t) (hl : (prt 10 t).length ≤ 24) (h4 : t.f0 ≠ 4) (ha : Bv m a) (hb : Bv m b) (hm : 10 ≤ m) (ca : chk 10 t a = 0) (cb : chk 10 t b = 0) :
    Ev (fun k => kI.f k t.f0 t.f1 t.f2 t.f3 t.f4 a.f0 a.f1 b.f0 b.f1) (cmpL (cel 10 t a) (cel 10 t b), 0) := by
  obtain ⟨K1, e1⟩ := H9 hv hl h4 ha hm ca
  obtain ⟨K2, e2⟩ := H9 hv hl h4 hb hm cb
  obtain ⟨K3, e3⟩ := Yj (cel 10 t a) (cel 10 t b) (by rw [uJ 10 hv ca]; omega) (cel 10 t a).length 0 (by omega) (by omega)
  dsimp only [at2] at e1 e2
  refine ⟨K1 + K2 + K3, fun k hk => ?_⟩
  have e3' := e3 k (by omega)
  simp only [List.drop_zero] at e3'
  simp only [kI.f]
  rw [e1 k (by omega), Option.bind_some, if_pos rfl, e2 k (by omega), Option.bind_some, if_pos rfl]
  simp only [eT.f]
  rw [show ((0 : Nat) : Int) = 0 from rfl] at e3'
  rw [e3', Option.bind_some]

end Go.Proofs.YtggelekooacmnaaDoor.Pure
set_option linter.unusedVariables false
set_option linter.unusedSimpArgs false
namespace Go.Proofs.YtggelekooacmnaaDoor.Pure
open Go.RowKit Go.Proofs.YtggelekooacmnaaDoor.Q Go.Proofs.YtggelekooacmnaaDoorW.aJ Go.Proofs.YtggelekooacmnaaDoorW.bu Go.Proofs.YtggelekooacmnaaDoorW.bB
-- what value.Format says of a value of a valid type: its text
def vB (n : Nat) (t : S24) (v : S51) : ByteArray := ⟨(txV n t v).toArray⟩
theorem txV_len (n : Nat) : ∀ {t : S24} {v : S51}, Vt n t → t.f0 ≠ 3 → t.f0 ≠ 4 → chk n t v = 0 → (txV n t v).length ≤ 100 * 5 ^ n := by
  induction n with
  | zero => intro t v h; cases h
  | succ n ih =>
    intro t v h h3' h4' hc
    have hp : 1 ≤ 5 ^ n := Nat.pos_of_ne_zero (by simp)
    have h5 : 5 ^ (n + 1) = 5 ^ n * 5 := Nat.pow_succ ..
    cases h with
    | bool => simp only [txV]; rw [if_neg (by omega), if_neg (by omega), if_pos trivial]; split <;> (simp only [List.length_cons, List.length_nil]; omega)
    | nat => exact absurd rfl h3'
    | real => exact absurd rfl h4'
    | int _ lo hi h1 h2 h3 =>
      obtain ⟨_, _, _, hr⟩ := uj (by simp) (by simp) hc
      have := hr (by simp) (by simp)
      dsimp only at this
      have a1 := Yi (a := v.f0) (by omega) (by omega)
      simp only [txV]; rw [if_neg (by omega), if_neg (by omega), if_neg (by omega)]
      omega
    | lst _ m x h1 h2 h3 h4 =>
      obtain ⟨_, hl, ha⟩ := wy hc
      have a1 := Ia (c := 100 * 5 ^ n) (v.f1.map (txV n x)) (by intro y hy; obtain ⟨z, hz, rfl⟩ := List.mem_map.1 hy; exact ih h3 (by omega) (by omega) (ha z hz))
      rw [List.length_map] at a1
      have a2 : v.f1.length * (100 * 5 ^ n + 2) ≤ 4 * (100 * 5 ^ n + 2) := Nat.mul_le_mul_right _ (by omega)
      simp only [txV]; rw [if_neg (by omega), if_pos trivial, rd1]
      simp only [List.length_cons, List.length_append, List.length_nil]; omega
    | tup _ l h1 h2 h3 h4 =>
      obtain ⟨_, hl, ha⟩ := wu hc
      have a1 := Ia (c := 100 * 5 ^ n) (List.zipWith (txV n) l v.f1) (by
        intro y hy
        obtain ⟨i, hi, e⟩ := List.getElem_of_mem hy
        rw [List.length_zipWith] at hi
        rw [List.getElem_zipWith] at e
        rw [← e]
        exact ih (h3 _ (List.getElem_mem (by omega))) (h4 _ (List.getElem_mem (by omega))).1 (h4 _ (List.getElem_mem (by omega))).2 (ha i (by omega) (by omega)))
      rw [List.length_zipWith] at a1
      have a2 : (min l.length v.f1.length) * (100 * 5 ^ n + 2) ≤ 4 * (100 * 5 ^ n + 2) := Nat.mul_le_mul_right _ (by omega)
      simp only [txV]; rw [if_pos trivial]
      simp only [List.length_cons, List.length_append, List.length_nil]; omega
theorem Ec {n : Nat} (hn : n ≤ 10) {t : S24} {v : S51} (h : Vt n t) (h3 : t.f0 ≠ 3) (h4 : t.f0 ≠ 4) (hc : chk n t v = 0) : (txV n t v).length ≤ 1000000000 :=
  Nat.le_trans (txV_len n h h3 h4 hc) (Nat.le_trans (Nat.mul_le_mul_left 100 (Nat.pow_le_pow_right (by omega) hn)) (by decide))
/-- the loop: texts laid one by one -/
theorem Tg (n : Nat) (q : Int) (hq : q = 5 ∨ q = 6) (a1 a2 a3 : Int) (ts : List S24) (vs : List S51) (hl : vs.length ≤ 4) (g : Nat → List UInt8) (hg : ∀ i, i < vs.length → (g i).length ≤ 1000000000)
    (ih : ∀ (i : Nat) (h : i < vs.length), ∃ x : S24, jH.f q a1 a2 a3 ts (i : Int) = some (x.f0, x.f1, x.f2, x.f3, x.f4) ∧ Ev (at2 cB.f x vs[i]) (⟨(g i).toArray⟩ : ByteArray)) :
    ∀ (d i : Nat), i + d = vs.length → Ev (fun k => cB.l0 k ((List.range vs.length).map fun j => if j < i then (⟨(g j).toArray⟩ : ByteArray) else ⟨#[]⟩) vs vs.length i q a1 a2 a3 ts) ⟨((if q = 5 then 40 else 91) :: (oJ ((List.range vs.length).map g) ++ [if q = 5 then 41 else 93])).toArray⟩ := by
  intro d
  induction d with
  | zero =>
    intro i hi
    refine ⟨1, fun k hk => ?_⟩
    obtain ⟨k, rfl⟩ : ∃ j, k = j + 1 := ⟨k - 1, by omega⟩
    have e0 : ((List.range vs.length).map fun j => if j < i then (⟨(g j).toArray⟩ : ByteArray) else ⟨#[]⟩) = (List.range vs.length).map fun j => (⟨(g j).toArray⟩ : ByteArray) :=
      List.map_congr_left fun j hj => by rw [if_pos (by have := List.mem_range.1 hj; omega)]
    have em : (((List.range vs.length).map fun j => (⟨(g j).toArray⟩ : ByteArray)).map (·.data.toList)) = (List.range vs.length).map g := by
      rw [List.map_map]; exact List.map_congr_left fun j _ => by simp
    have hs : (oJ ((List.range vs.length).map g)).length ≤ 10000000000 := by
      have a1 := Ia (c := 1000000000) ((List.range vs.length).map g) (by intro x hx; obtain ⟨y, hy, rfl⟩ := List.mem_map.1 hx; exact hg y (List.mem_range.1 hy))
      rw [List.length_map, List.length_range] at a1
      have a2 : vs.length * (1000000000 + 2) ≤ 4 * (1000000000 + 2) := Nat.mul_le_mul_right _ hl
      omega
    have hj := join_f ((List.range vs.length).map fun j => (⟨(g j).toArray⟩ : ByteArray)) (by rw [List.length_map, List.length_range]; omega) (by rw [em]; omega)
    rw [em] at hj
    have e2 : ∀ c : UInt8, ((⟨#[c]⟩ : ByteArray) ++ ⟨(oJ ((List.range vs.length).map g)).toArray⟩).size = 1 + (oJ ((List.range vs.length).map g)).length := by intro c; rw [ByteArray.size_append, qm]; rfl
    simp only [cB.l0]
    rw [if_neg (by omega), e0]
    rcases hq with rfl | rfl
    · rw [if_pos rfl, hj, Option.bind_some, qm, if_pos (by omega), if_pos (by rw [e2]; omega)]
      first | rfl | (refine congrArg some (ba_eq ?_); simp)
    · rw [if_neg (by decide), hj, Option.bind_some, qm, if_pos (by omega), if_pos (by rw [e2]; omega)]
      first | rfl | (refine congrArg some (ba_eq ?_); simp)
  | succ d IH =>
    intro i hi
    have hlt : i < vs.length := by omega
    obtain ⟨x, e0, K1, e1⟩ := ih i hlt
    obtain ⟨K2, e2⟩ := IH (i + 1) (by omega)
    refine ⟨max K1 K2 + 1, fun k hk => ?_⟩
    obtain ⟨k, rfl⟩ : ∃ j, k = j + 1 := ⟨k - 1, by omega⟩
    have e1' := e1 k (by omega)
    have e2' := e2 k (by omega)
    dsimp only [at2] at e1' e2'
    have hset : (((List.range vs.length).map fun j => if j < i then (⟨(g j).toArray⟩ : ByteArray) else ⟨#[]⟩).set i ⟨(g i).toArray⟩) = (List.range vs.length).map fun j => if j < i + 1 then (⟨(g j).toArray⟩ : ByteArray) else ⟨#[]⟩ := by
      apply List.ext_getElem (by simp)
      intro j h1 h2
      rw [List.getElem_set]
      simp only [List.getElem_map, List.getElem_range]
      by_cases e : i = j
      · subst e; rw [if_pos rfl, if_pos (by omega)]
      · rw [if_neg e]
        by_cases h3 : j < i
        · rw [if_pos h3, if_pos (by omega)]
        · rw [if_neg h3, if_neg (by omega)]
    simp only [cB.l0]
    rw [if_pos (by omega), if_pos (by omega), if_pos (by omega), e0, Option.bind_some]
    dsimp only
    rw [rdV hlt, e1', Option.bind_some, if_pos (by rw [List.length_map, List.length_range]; omega), Int.toNat_natCast, hset, iJ (by omega), e2']
theorem YD (f : S24 → S51 → List UInt8) (ts : List S24) (vs : List S51) (h : vs.length = ts.length) (g : Nat → List UInt8) (hg : ∀ (i : Nat) (h : i < ts.length) (h' : i < vs.length), g i = f ts[i] vs[i]) : (List.range vs.length).map g = List.zipWith f ts vs := by
  apply List.ext_getElem (by simp; omega)
  intro i h1 h2
  simp only [List.getElem_map, List.getElem_range, List.getElem_zipWith]
  exact hg i (by simp at h1; omega) (by simpa using h1)
theorem YE (f : S51 → List UInt8) (vs : List S51) (g : Nat → List UInt8) (hg : ∀ (i : Nat) (h : i < vs.length), g i = f vs[i]) : (List.range vs.length).map g = vs.map f := by
  apply List.ext_getElem (by simp)
  intro i h1 h2
  simp only [List.getElem_map, List.getElem_range]
  exact hg i (by simpa using h1)
theorem Ti {q a1 a2 a3 : Int} (hq : q = 5 ∨ q = 6) {ts : List S24} {v0 : Int} {vs : List S51} (hl : vs.length ≤ 4) {r : ByteArray} (h : Ev (fun k => cB.l0 k ((List.range vs.length).map fun j => if j < 0 then (⟨#[]⟩ : ByteArray) else ⟨#[]⟩) vs vs.length 0 q a1 a2 a3 ts) r) :
    Ev (fun k => cB.f k q a1 a2 a3 ts v0 vs) r := by
  obtain ⟨K, e⟩ := h
  refine ⟨K + 2, fun k hk => ?_⟩
  obtain ⟨k, rfl⟩ : ∃ j, k = j + 2 := ⟨k - 2, by omega⟩
  have e' := e k (by omega)
  have er : (List.replicate vs.length (⟨#[]⟩ : ByteArray)) = (List.range vs.length).map fun j => if j < 0 then (⟨#[]⟩ : ByteArray) else ⟨#[]⟩ := by
    apply List.ext_getElem (by simp)
    intro i h1 h2
    simp
  have hj : cB.j0 (k + 1) true q a1 a2 a3 ts v0 vs = some r := by
    simp only [cB.j0, if_true]
    rw [if_pos (by omega), Int.toNat_natCast, if_pos (by omega), er]
    exact e'
  simp only [cB.f]
  rcases hq with rfl | rfl
  · rw [if_pos rfl]; exact hj
  · rw [if_neg (by decide)]; exact hj
theorem vform_ev (n : Nat) : ∀ {t : S24} {v : S51}, n ≤ 10 → Vt n t → t.f0 ≠ 3 → t.f0 ≠ 4 → chk n t v = 0 → Ev (at2 cB.f t v) (vB n t v) := by
  induction n with
  | zero => intro t v _ h; cases h
  | succ n ih =>
    intro t v hn h h3' h4' hc
    obtain ⟨v0, vs⟩ := v
    cases h with
    | bool =>
      refine ⟨2, fun k hk => ?_⟩
      obtain ⟨k, rfl⟩ : ∃ j, k = j + 2 := ⟨k - 2, by omega⟩
      simp only [at2, cB.f, cB.j0, lS.f, kQ.f, vB, txV]
      by_cases h1 : v0 = 1
      · subst h1; simp
      · simp [h1]
    | nat => exact absurd rfl h3'
    | real => exact absurd rfl h4'
    | int _ lo hi h1 h2 h3 =>
      obtain ⟨_, _, _, hr⟩ := uj (by simp) (by simp) hc
      have := hr (by simp) (by simp)
      dsimp only at this
      refine ⟨2, fun k hk => ?_⟩
      obtain ⟨k, rfl⟩ : ∃ j, k = j + 2 := ⟨k - 2, by omega⟩
      simp only [at2, cB.f, cB.j0, vB, txV]
      simp [itoa_f (a := v0) (by omega) (by omega)]
    | lst _ m x h1 h2 h3 h4 =>
      obtain ⟨_, hl, ha⟩ := wy hc
      dsimp only at hl ha
      have hm : ∀ (i : Nat) (h : i < vs.length), chk n x vs[i] = 0 := fun i h => ha _ (List.getElem_mem h)
      have hr := Tg n 6 (.inr rfl) 0 0 m [x] vs (by omega) (fun i => txV n x (vs.getD i ⟨0, []⟩)) (fun i hi => by
          simp only [List.getD_eq_getElem?_getD, List.getElem?_eq_getElem hi, Option.getD_some]
          exact Ec (by omega) h3 (by omega) (by omega) (hm i hi)) (fun i hi => ⟨x, En, by
          simp only [List.getD_eq_getElem?_getD, List.getElem?_eq_getElem hi, Option.getD_some]
          exact ih (by omega) h3 (by omega) (by omega) (hm i hi)⟩) vs.length 0 (by omega)
      have er : (List.range vs.length).map (fun i => txV n x (vs.getD i ⟨0, []⟩)) = vs.map (txV n x) := YE _ _ _ fun i hi => by simp only [List.getD_eq_getElem?_getD, List.getElem?_eq_getElem hi, Option.getD_some]
      rw [er] at hr
      have e2 : (vB (n + 1) ⟨6, 0, 0, m, [x]⟩ ⟨v0, vs⟩) = ⟨((if (6 : Int) = 5 then 40 else 91) :: (oJ (vs.map (txV n x)) ++ [if (6 : Int) = 5 then 41 else 93])).toArray⟩ := by
        simp [vB, txV, rd1]
      rw [e2]
      refine Ti (vs := vs) (.inr rfl) (show vs.length ≤ 4 by omega) ?_
      simpa using hr
    | tup _ l h1 h2 h3 h4 =>
      obtain ⟨_, hl, ha⟩ := wu hc
      dsimp only at hl ha
      have hr := Tg n 5 (.inl rfl) 0 0 0 l vs (by omega) (fun i : Nat => txV n (ag l (i : Int)) (vs.getD i ⟨0, []⟩)) (fun i hi => by
          simp only [List.getD_eq_getElem?_getD, List.getElem?_eq_getElem hi, Option.getD_some]
          rw [rdT (by omega)]
          exact Ec (by omega) (h3 _ (List.getElem_mem _)) (h4 _ (List.getElem_mem _)).1 (h4 _ (List.getElem_mem _)).2 (ha i (by omega) hi)) (fun i hi => ⟨l[i]'(by omega), Em (by omega), by
          simp only [List.getD_eq_getElem?_getD, List.getElem?_eq_getElem hi, Option.getD_some]
          rw [rdT (by omega)]
          exact ih (by omega) (h3 _ (List.getElem_mem _)) (h4 _ (List.getElem_mem _)).1 (h4 _ (List.getElem_mem _)).2 (ha i (by omega) hi)⟩) vs.length 0 (by omega)
      have er : (List.range vs.length).map (fun i : Nat => txV n (ag l (i : Int)) (vs.getD i ⟨0, []⟩)) = List.zipWith (txV n) l vs := YD _ _ _ hl _ fun i hi hi' => by
        simp only [List.getD_eq_getElem?_getD, List.getElem?_eq_getElem hi', Option.getD_some]; rw [rdT hi]
      rw [er] at hr
      have e2 : (vB (n + 1) ⟨5, 0, 0, 0, l⟩ ⟨v0, vs⟩) = ⟨((if (5 : Int) = 5 then 40 else 91) :: (oJ (List.zipWith (txV n) l vs) ++ [if (5 : Int) = 5 then 41 else 93])).toArray⟩ := by
        simp [vB, txV]
      rw [e2]
      refine Ti (vs := vs) (.inl rfl) (show vs.length ≤ 4 by omega) ?_
      simpa using hr
end Go.Proofs.YtggelekooacmnaaDoor.Pure
set_option linter.unusedVariables false
set_option linter.unusedSimpArgs false
namespace Go.Proofs.YtggelekooacmnaaDoor.Pure
open Go.RowKit Go.Proofs.YtggelekooacmnaaDoor.Q Go.Proofs.YtggelekooacmnaaDoorW.aJ Go.Proofs.YtggelekooacmnaaDoorW.bu Go.Proofs.YtggelekooacmnaaDoorW.bB
def d4 (u : Nat) : List UInt8 :=
  if u < 10 then [UInt8.ofNat (48 + u)] else if u < 100 then [UInt8.ofNat (48 + u / 10), UInt8.ofNat (48 + u % 10)]
  else if u < 1000 then [UInt8.ofNat (48 + u / 100), UInt8.ofNat (48 + u / 10 % 10), UInt8.ofNat (48 + u % 10)]
  else [UInt8.ofNat (48 + u / 1000), UInt8.ofNat (48 + u / 100 % 10), UInt8.ofNat (48 + u / 10 % 10), UInt8.ofNat (48 + u % 10)]
def i4 (a : Int) : List UInt8 := if a < 0 then 45 :: d4 a.natAbs else d4 a.toNat
theorem d4_eq {u : Nat} (h : u < 10000) : Go.Lib.decDigits u = d4 u := by
  have a (v : Nat) (hv : v < 10) : Go.Lib.decDigits v = [UInt8.ofNat (48 + v)] := by rw [Go.Lib.decDigits, dif_pos hv]
  have b (v : Nat) (hv : ¬ v < 10) : Go.Lib.decDigits v = Go.Lib.decDigits (v / 10) ++ [UInt8.ofNat (48 + v % 10)] := by rw [Go.Lib.decDigits, dif_neg hv]
  unfold d4
  by_cases h1 : u < 10
  · rw [if_pos h1, a u h1]
  · rw [if_neg h1, b u h1]
    by_cases h2 : u < 100
    · rw [if_pos h2, a _ (by omega)]; rfl
    · rw [if_neg h2, b (u / 10) (by omega)]
      by_cases h3 : u < 1000
      · rw [if_pos h3, a _ (by omega), show u / 10 / 10 = u / 100 by omega]; rfl
      · rw [if_neg h3, b (u / 10 / 10) (by omega), a _ (by omega), show u / 10 / 10 / 10 = u / 1000 by omega, show u / 10 / 10 = u / 100 by omega]; rfl
theorem i4_eq {a : Int} (h0 : -1000 ≤ a) (h1 : a ≤ 1000) : Go.Lib.itoa a = i4 a := by
  unfold Go.Lib.itoa i4
  split <;> rw [d4_eq (by omega)]
def p9 (i : Int) : Bool := decide (((fG.f 20 i).map (·.data.toList)) = some (i4 i))
def pO (g : Int → Bool) (a : Int) : Nat → Bool
  | 0 => true
  | n + 1 => g (a + n) && pO g a n
theorem XO {g : Int → Bool} {a : Int} : ∀ {n : Nat}, pO g a n = true → ∀ i : Nat, i < n → g (a + i) = true
  | 0, _, i, hi => absurd hi (by omega)
  | n + 1, h, i, hi => by
    simp only [pO, Bool.and_eq_true] at h
    by_cases e : i = n
    · subst e; exact h.1
    · exact XO h.2 i (by omega)
set_option maxRecDepth 100000 in
theorem dec_0 : pO p9 (-1000) 100 = true := by kernel_rfl
set_option maxRecDepth 100000 in
theorem dec_1 : pO p9 (-900) 100 = true := by kernel_rfl
set_option maxRecDepth 100000 in
theorem dec_2 : pO p9 (-800) 100 = true := by kernel_rfl
set_option maxRecDepth 100000 in
theorem dec_3 : pO p9 (-700) 100 = true := by kernel_rfl
set_option maxRecDepth 100000 in
theorem dec_4 : pO p9 (-600) 100 = true := by kernel_rfl
set_option maxRecDepth 100000 in
theorem dec_5 : pO p9 (-500) 100 = true := by kernel_rfl
set_option maxRecDepth 100000 in
theorem dec_6 : pO p9 (-400) 100 = true := by kernel_rfl
set_option maxRecDepth 100000 in
theorem dec_7 : pO p9 (-300) 100 = true := by kernel_rfl
set_option maxRecDepth 100000 in
theorem dec_8 : pO p9 (-200) 100 = true := by kernel_rfl
set_option maxRecDepth 100000 in
theorem dec_9 : pO p9 (-100) 100 = true := by kernel_rfl
set_option maxRecDepth 100000 in
theorem dec_10 : pO p9 (0) 100 = true := by kernel_rfl
set_option maxRecDepth 100000 in
theorem dec_11 : pO p9 (100) 100 = true := by kernel_rfl
set_option maxRecDepth 100000 in
theorem dec_12 : pO p9 (200) 100 = true := by kernel_rfl
set_option maxRecDepth 100000 in
theorem dec_13 : pO p9 (300) 100 = true := by kernel_rfl
set_option maxRecDepth 100000 in
theorem dec_14 : pO p9 (400) 100 = true := by kernel_rfl
set_option maxRecDepth 100000 in
theorem dec_15 : pO p9 (500) 100 = true := by kernel_rfl
set_option maxRecDepth 100000 in
theorem dec_16 : pO p9 (600) 100 = true := by kernel_rfl
set_option maxRecDepth 100000 in
theorem dec_17 : pO p9 (700) 100 = true := by kernel_rfl
set_option maxRecDepth 100000 in
theorem dec_18 : pO p9 (800) 100 = true := by kernel_rfl
set_option maxRecDepth 100000 in
theorem dec_19 : pO p9 (900) 100 = true := by kernel_rfl
set_option maxRecDepth 100000 in
theorem dec_20 : pO p9 (1000) 1 = true := by kernel_rfl
theorem mQ {c : Int} {n : Nat} (h : pO p9 c n = true) (a : Int) (h0 : c ≤ a) (h1 : a < c + n) : p9 a = true := by
  have h := XO h (a - c).toNat (by omega)
  rwa [show c + ((a - c).toNat : Int) = a by omega] at h
theorem dec_all {a : Int} (h0 : -1000 ≤ a) (h1 : a ≤ 1000) : p9 a = true := by
  by_cases c0 : a < -900
  · exact mQ dec_0 a (by omega) (by simp; omega)
  by_cases c1 : a < -800
  · exact mQ dec_1 a (by omega) (by simp; omega)
  by_cases c2 : a < -700
  · exact mQ dec_2 a (by omega) (by simp; omega)
  by_cases c3 : a < -600
  · exact mQ dec_3 a (by omega) (by simp; omega)
  by_cases c4 : a < -500
  · exact mQ dec_4 a (by omega) (by simp; omega)
  by_cases c5 : a < -400
  · exact mQ dec_5 a (by omega) (by simp; omega)
  by_cases c6 : a < -300
  · exact mQ dec_6 a (by omega) (by simp; omega)
  by_cases c7 : a < -200
  · exact mQ dec_7 a (by omega) (by simp; omega)
  by_cases c8 : a < -100
  · exact mQ dec_8 a (by omega) (by simp; omega)
  by_cases c9 : a < 0
  · exact mQ dec_9 a (by omega) (by simp; omega)
  by_cases c10 : a < 100
  · exact mQ dec_10 a (by omega) (by simp; omega)
  by_cases c11 : a < 200
  · exact mQ dec_11 a (by omega) (by simp; omega)
  by_cases c12 : a < 300
  · exact mQ dec_12 a (by omega) (by simp; omega)
  by_cases c13 : a < 400
  · exact mQ dec_13 a (by omega) (by simp; omega)
  by_cases c14 : a < 500
  · exact mQ dec_14 a (by omega) (by simp; omega)
  by_cases c15 : a < 600
  · exact mQ dec_15 a (by omega) (by simp; omega)
  by_cases c16 : a < 700
  · exact mQ dec_16 a (by omega) (by simp; omega)
  by_cases c17 : a < 800
  · exact mQ dec_17 a (by omega) (by simp; omega)
  by_cases c18 : a < 900
  · exact mQ dec_18 a (by omega) (by simp; omega)
  by_cases c19 : a < 1000
  · exact mQ dec_19 a (by omega) (by simp; omega)
  exact mQ dec_20 a (by omega) (by simp; omega)
theorem Yl {a : Int} (h0 : -1000 ≤ a) (h1 : a ≤ 1000) : Ev (fun k => fG.f k a) ⟨(Go.Lib.itoa a).toArray⟩ := by
  have h2 := of_decide_eq_true (dec_all h0 h1)
  cases e : fG.f 20 a with
  | none => rw [e] at h2; cases h2
  | some r =>
    rw [e] at h2
    have h3 : r.data.toList = i4 a := by injection h2
    rw [i4_eq h0 h1, ← h3]
    refine Ev.of (fun k => fG.mono _ _) (k := 20) ?_
    rw [e]
end Go.Proofs.YtggelekooacmnaaDoor.Pure
set_option linter.unusedVariables false
set_option linter.unusedSimpArgs false
namespace Go.Proofs.YtggelekooacmnaaDoor.Pure
open Go.RowKit Go.Proofs.YtggelekooacmnaaDoor.Q Go.Proofs.YtggelekooacmnaaDoorW.aJ Go.Proofs.YtggelekooacmnaaDoorW.bu Go.Proofs.YtggelekooacmnaaDoorW.bB
theorem or_join (r lo : Nat) (hr : r < 4294967296) (hl : lo < 4294967296) : Go.bits .or .u64 (IntKind.u64.wrap ((r : Int) * 4294967296)) (IntKind.u64.wrap (lo : Int)) = ((r * 4294967296 + lo : Nat) : Int) := by
  have e1 : IntKind.u64.wrap ((r : Int) * 4294967296) = ((r * 4294967296 : Nat) : Int) := by rw [IntKind.wrap_u64]; omega
  have e2 : IntKind.u64.wrap (lo : Int) = (lo : Int) := by rw [IntKind.wrap_u64]; omega
  rw [e1, e2, u64_or_nat _ _ (by omega) (by omega), nat_join 32 (r * 4294967296) lo (by omega) (by omega)]
theorem lo_half (n : Nat) (h : n < 9223372036854775808) : (Go.bits .and .i64 (n : Int) 4294967295) % 4294967296 = ((n % 4294967296 : Nat) : Int) := by
  have h1 := bits_mask .i64 63 (by decide) (fun m h0 h1 => by rw [IntKind.wrap_i64]; omega) 32 (by decide) (n : Int) (by omega) (by omega)
  rw [show ((2 : Int) ^ 32 - 1) = 4294967295 by decide, show ((2 : Int) ^ 32) = 4294967296 by decide] at h1
  rw [h1]; omega
def lb (n : Nat) : List Int := if n = 0 then [] else if n < 4294967296 then [(n : Int)] else [((n % 4294967296 : Nat) : Int), ((n / 4294967296 : Nat) : Int)]
theorem trim0 (k : Nat) : aD.f (k + 1) [] = some [] := by simp [aD.f, aD.l0]
theorem trim1 (k : Nat) (a : Int) : aD.f (k + 2) [a] = some (if a = 0 then [] else [a]) := by
  by_cases h : a = 0
  · subst h; simp [aD.f, aD.l0, wrap64, rd]
  · simp [aD.f, aD.l0, wrap64, rd, h]
theorem trim2 (k : Nat) (a b : Int) : aD.f (k + 3) [a, b] = some (if b = 0 then (if a = 0 then [] else [a]) else [a, b]) := by
  by_cases hb : b = 0
  · subst hb
    by_cases h : a = 0
    · subst h; simp [aD.f, aD.l0, wrap64, rd]
    · simp [aD.f, aD.l0, wrap64, rd, h]
  · simp [aD.f, aD.l0, wrap64, rd, hb]
theorem uK (k n : Nat) (h : n < 18446744073709551616) : aD.f (k + 3) (lb n) = some (lb n) := by
  unfold lb
  by_cases h0 : n = 0
  · rw [if_pos h0]; exact trim0 _
  · rw [if_neg h0]
    by_cases h1 : n < 4294967296
    · rw [if_pos h1, trim1, if_neg (by omega)]
    · rw [if_neg h1, trim2, if_neg (by omega)]
theorem Ri (k n : Nat) (h : n < 18446744073709551616) : aD.f (k + 3) [((n % 4294967296 : Nat) : Int), ((n / 4294967296 : Nat) : Int)] = some (lb n) := by
  rw [trim2]
  unfold lb
  by_cases h0 : n = 0
  · subst h0; simp
  · rw [if_neg h0]
    by_cases h1 : n < 4294967296
    · rw [if_pos h1, if_pos (by omega), if_neg (by omega), Nat.mod_eq_of_lt h1]
    · rw [if_neg h1, if_neg (by omega)]
theorem tdivn (a b : Nat) : Int.tdiv (a : Int) (b : Int) = ((a / b : Nat) : Int) := rfl
theorem tmodn (a b : Nat) : Int.tmod (a : Int) (b : Int) = ((a % b : Nat) : Int) := rfl
theorem Ms (k : Nat) (x0 : List Int) (d : Nat) (hd : 1 ≤ d) (hd2 : d < 4294967296) (o : List Int) (r i : Nat) (hi : i < x0.length) (hio : i < o.length) (hi2 : i ≤ 1000) (lo : Nat) (hlo : rd x0 (i : Int) = lo) (hl : lo < 4294967296) (hr : r < 4294967296) :
    bR.l0 (k + 1) x0 d o r i = bR.l0 k x0 d (o.set i (((r * 4294967296 + lo) / d % 4294967296 : Nat) : Int)) (((r * 4294967296 + lo) % d : Nat) : Int) ((i : Int) - 1) := by
  have e1 : IntKind.u64.wrap (d : Int) = (d : Int) := by rw [IntKind.wrap_u64]; omega
  have e2 : wrap64 ((i : Int) - 1) = (i : Int) - 1 := by unfold wrap64; omega
  have e3 : ∀ q : Nat, IntKind.u64.wrap (q : Int) % 4294967296 = ((q % 4294967296 : Nat) : Int) := by intro q; rw [IntKind.wrap_u64]; omega
  simp only [bR.l0]
  rw [if_pos (by omega), if_pos (by omega), if_pos (by omega), e1, if_neg (by omega), if_pos (by omega), hlo, or_join r lo hr hl, tdivn, tmodn, e2, e3, Int.toNat_natCast]
theorem Jj (k : Nat) (x0 : List Int) (d : Int) (o : List Int) (r : Nat) (hr : r < 4294967296) (q : List Int) (hq : aD.f k o = some q) : bR.l0 (k + 1) x0 d o r (-1) = some (q, (r : Int)) := by
  simp only [bR.l0]
  rw [if_neg (by omega), hq, Option.bind_some, show (r : Int) % 4294967296 = r from by omega]
theorem Tj (k n d : Nat) (h : n < 18446744073709551616) (hd : 1 ≤ d) (hd2 : d < 4294967296) : bR.f (k + 6) (lb n) d = some (lb (n / d), ((n % d : Nat) : Int)) := by
  have hnd : n / d ≤ n := Nat.div_le_self n d
  have hmd : n % d < d := Nat.mod_lt _ hd
  simp only [bR.f]
  by_cases h0 : n = 0
  · subst h0
    rw [show lb 0 = [] from rfl, show wrap64 ((([] : List Int).length : Int) - 1) = -1 from by simp [wrap64], if_pos (by simp), if_pos (by simp)]
    rw [show k + 6 = (k + 5) + 1 from rfl, show (0 : Int) = ((0 : Nat) : Int) from rfl, Jj _ _ _ _ 0 (by omega) [] (by exact trim0 _)]
    simp [lb]
  · by_cases h1 : n < 4294967296
    · have e : lb n = [(n : Int)] := by unfold lb; rw [if_neg h0, if_pos h1]
      have e2 : wrap64 (([(n : Int)].length : Int) - 1) = ((0 : Nat) : Int) := by simp [wrap64]
      rw [e, e2, if_pos (by simp), if_pos (by simp), show k + 6 = (k + 5) + 1 from rfl, show (0 : Int) = ((0 : Nat) : Int) from rfl]
      rw [Ms (k + 5) [(n : Int)] d hd hd2 _ 0 0 (by simp) (by simp) (by omega) n (by simp [rd]) h1 (by omega)]
      have hq : aD.f (k + 4) [((n / d : Nat) : Int)] = some (lb (n / d)) := by
        rw [trim1]; unfold lb
        by_cases hz : n / d = 0
        · rw [if_pos hz, if_pos (by omega)]
        · rw [if_neg hz, if_neg (by omega), if_pos (by omega)]
      have es : (List.replicate (([(n : Int)].length : Int)).toNat (((0 : Nat) : Int))).set 0 (((0 * 4294967296 + n) / d % 4294967296 : Nat) : Int) = [((n / d : Nat) : Int)] := by
        rw [Nat.zero_mul, Nat.zero_add, Nat.mod_eq_of_lt (show n / d < 4294967296 by omega)]; rfl
      rw [es, show (((0 : Nat) : Int) - 1) = -1 from rfl, show k + 5 = (k + 4) + 1 from rfl, Jj _ _ _ _ _ (by rw [Nat.zero_mul, Nat.zero_add]; omega) _ hq, Nat.zero_mul, Nat.zero_add]
    · obtain ⟨hi, hhi⟩ : ∃ hi, hi = n / 4294967296 := ⟨_, rfl⟩
      obtain ⟨lo, hlo⟩ : ∃ lo, lo = n % 4294967296 := ⟨_, rfl⟩
      have e : lb n = [(lo : Int), (hi : Int)] := by unfold lb; rw [if_neg h0, if_neg h1, hhi, hlo]
      have hn : n = hi * 4294967296 + lo := by omega
      have b1 : hi < 4294967296 := by omega
      have b2 : lo < 4294967296 := by omega
      have hr : hi % d < d := Nat.mod_lt _ hd
      have hdm : d * (hi / d) + hi % d = hi := Nat.div_add_mod hi d
      have hq1 : hi / d ≤ hi := Nat.div_le_self hi d
      have hx : (hi % d * 4294967296 + lo) / d < 4294967296 := by
        refine (Nat.div_lt_iff_lt_mul hd).2 ?_
        have : (hi % d + 1) * 4294967296 ≤ d * 4294967296 := Nat.mul_le_mul_right _ hr
        rw [Nat.add_mul] at this
        rw [Nat.mul_comm]; omega
      have hsplit : n = d * (hi / d * 4294967296) + (hi % d * 4294967296 + lo) := by
        have h3 : d * (hi / d * 4294967296) = (d * (hi / d)) * 4294967296 := by rw [Nat.mul_assoc]
        rw [h3]
        generalize d * (hi / d) = A at hdm ⊢
        generalize hi % d = B at hdm ⊢
        rw [hn, ← hdm, Nat.add_mul, Nat.add_assoc]
      have hdiv : n / d = hi / d * 4294967296 + (hi % d * 4294967296 + lo) / d := by
        conv => lhs; rw [hsplit]
        rw [Nat.mul_add_div (by omega)]
      have hmod : n % d = (hi % d * 4294967296 + lo) % d := by
        conv => lhs; rw [hsplit]
        rw [Nat.mul_add_mod]
      have e2 : wrap64 (([(lo : Int), (hi : Int)].length : Int) - 1) = ((1 : Nat) : Int) := by simp [wrap64]
      rw [e, e2, if_pos (by simp), if_pos (by simp), show k + 6 = (k + 5) + 1 from rfl, show (0 : Int) = ((0 : Nat) : Int) from rfl]
      rw [Ms (k + 5) [(lo : Int), (hi : Int)] d hd hd2 _ 0 1 (by simp) (by simp) (by omega) hi (by simp [rd]) b1 (by omega)]
      rw [Nat.zero_mul, Nat.zero_add, show (((1 : Nat) : Int) - 1) = ((0 : Nat) : Int) from rfl, show k + 5 = (k + 4) + 1 from rfl]
      rw [Ms (k + 4) [(lo : Int), (hi : Int)] d hd hd2 _ (hi % d) 0 (by simp) (by simp) (by omega) lo (by simp [rd]) b2 (by omega)]
      have es : ((List.replicate (([(lo : Int), (hi : Int)].length : Int)).toNat (((0 : Nat) : Int))).set 1 ((hi / d % 4294967296 : Nat) : Int)).set 0 (((hi % d * 4294967296 + lo) / d % 4294967296 : Nat) : Int) = [((n / d % 4294967296 : Nat) : Int), ((n / d / 4294967296 : Nat) : Int)] := by
        have e5 : ∀ Q X : Nat, X < 4294967296 → (Q * 4294967296 + X) % 4294967296 = X ∧ (Q * 4294967296 + X) / 4294967296 = Q := by intro Q X h; omega
        have e3 : n / d % 4294967296 = (hi % d * 4294967296 + lo) / d := by rw [hdiv]; exact (e5 _ _ hx).1
        have e4 : n / d / 4294967296 = hi / d := by rw [hdiv]; exact (e5 _ _ hx).2
        rw [e3, e4, Nat.mod_eq_of_lt hx, Nat.mod_eq_of_lt (show hi / d < 4294967296 by omega)]; rfl
      have hq := Ri k (n / d) (by omega)
      rw [es, show (((0 : Nat) : Int) - 1) = -1 from rfl, show k + 4 = (k + 3) + 1 from rfl, Jj _ _ _ _ _ (by rw [← hmod]; omega) _ hq, hmod]
theorem lb1 : lb 1 = [1] := rfl
theorem cmp_lb (k n : Nat) (h : n < 18446744073709551616) (h0 : n ≠ 0) : ∃ c, 0 ≤ c ∧ dA.f (k + 4) (lb n) [1] = some c := by
  have e1 := uK (k + 1) n h
  have e2 := uK (k + 1) 1 (by omega)
  rw [lb1] at e2
  simp only [dA.f]
  rw [show k + 4 = k + 1 + 3 from rfl, e1, Option.bind_some, e2, Option.bind_some]
  unfold lb
  rw [if_neg h0]
  by_cases h1 : n < 4294967296
  · rw [if_pos h1]
    have e3 : wrap64 (([(n : Int)].length : Int) - 1) = 0 := by simp [wrap64]
    rw [if_pos (by simp), e3, show k + 1 + 3 = (k + 3) + 1 from rfl]
    have e5 : wrap64 ((0 : Int) - 1) = -1 := by unfold wrap64; omega
    simp only [dA.l0]
    rw [if_pos (by omega), if_pos (by omega), if_pos (by simp), if_pos (by simp)]
    simp only [rd, Int.toNat_zero, List.getD_cons_zero]
    rw [if_neg (by omega)]
    by_cases c : (n : Int) > 1
    · exact ⟨1, by omega, by rw [if_pos c]⟩
    · exact ⟨0, by omega, by rw [if_neg c, e5, if_neg (by omega)]⟩
  · rw [if_neg h1]
    exact ⟨1, by omega, by rw [if_neg (by simp), if_neg (by simp)]⟩
theorem cmp_lb0 (k : Nat) : dA.f (k + 4) [] [1] = some (-1) := by
  have e2 := uK (k + 1) 1 (by omega)
  rw [lb1] at e2
  simp only [dA.f]
  rw [show k + 4 = k + 1 + 3 from rfl, show aD.f (k + 1 + 3) [] = some [] from trim0 _, Option.bind_some, e2, Option.bind_some, if_neg (by simp), if_pos (by simp)]
theorem Jk (k n : Nat) (h : n < 18446744073709551616) : fe.f (k + 6) (lb n) [1] = some (lb n, [], 0) := by
  have e1 := uK (k + 3) n h
  have e2 := uK (k + 3) 1 (by omega)
  rw [lb1] at e2
  simp only [fe.f]
  rw [show k + 6 = k + 3 + 3 from rfl, e1, Option.bind_some, e2, Option.bind_some, if_neg (by simp)]
  by_cases h0 : n = 0
  · subst h0
    rw [show lb 0 = [] from rfl, show k + 3 + 3 = (k + 2) + 4 from rfl, cmp_lb0, Option.bind_some, if_pos (by omega)]
  · obtain ⟨c, hc, ec⟩ := cmp_lb (k + 2) n h h0
    have es := Tj k n 1 h (by omega) (by omega)
    rw [Nat.div_one, Nat.mod_one] at es
    rw [show k + 3 + 3 = (k + 2) + 4 from rfl, ec, Option.bind_some, if_neg (by omega), if_pos (by simp), if_pos (by simp)]
    rw [show rd [(1 : Int)] 0 = ((1 : Nat) : Int) from rfl, show k + 2 + 4 = k + 6 from rfl, es, Option.bind_some]
    dsimp only
    rw [show k + 6 = (k + 4) + 2 from rfl, trim1, Option.bind_some]
    simp
theorem gcd_lb (k n : Nat) (h : n < 18446744073709551616) : dK.f (k + 8) (lb n) [1] = some [1] := by
  have e1 := uK (k + 5) n h
  have e2 := uK (k + 5) 1 (by omega)
  rw [lb1] at e2
  simp only [dK.f]
  rw [show k + 8 = k + 5 + 3 from rfl, e1, Option.bind_some, e2, Option.bind_some, show k + 5 + 3 = (k + 1 + 6) + 1 from rfl]
  simp only [dK.l0]
  rw [if_pos (by simp), Jk _ n h, Option.bind_some]
  simp [dK.l0]
theorem norm_lb (k n : Nat) (h : n < 18446744073709551616) : ic.f (k + 8) false (lb n) [1] = some (false, lb n, [1]) := by
  have e2 := uK (k + 5) 1 (by omega)
  have e3 := Jk (k + 2) n h
  have e4 := Jk (k + 2) 1 (by omega)
  rw [lb1] at e2 e4
  simp only [ic.f, gU.f]
  rw [show k + 8 = k + 5 + 3 from rfl, e2, Option.bind_some, if_neg (by simp), show k + 5 + 3 = k + 8 from rfl, gcd_lb k n h, Option.bind_some, show k + 8 = k + 2 + 6 from rfl, e3, Option.bind_some, e4, Option.bind_some]
  simp
def yN (n : Nat) : List Int := if h : n = 0 then [] else ((48 + n % 10 : Nat) : Int) :: yN (n / 10)
  termination_by n
  decreasing_by omega
theorem rdig_len (d : Nat) : ∀ n : Nat, n < 10 ^ d → (yN n).length ≤ d := by
  induction d with
  | zero => intro n h; rw [show n = 0 by simpa using h]; unfold yN; simp
  | succ d ih =>
    intro n h
    unfold yN
    split
    · simp
    · have h2 : n / 10 < 10 ^ d := by rw [Nat.pow_succ] at h; omega
      simp only [List.length_cons]
      have := ih _ h2; omega
theorem rdig_rev (n : Nat) : n ≠ 0 → ((yN n).reverse.map fun x : Int => UInt8.ofNat x.toNat) = Go.Lib.decDigits n := by
  induction n using Nat.strongRecOn with
  | _ n ih =>
    intro h0
    rw [yN, dif_neg h0]
    rw [List.reverse_cons, List.map_append, List.map_cons, List.map_nil, Int.toNat_natCast]
    by_cases h : n < 10
    · rw [Go.Lib.decDigits, dif_pos h]
      rw [show n / 10 = 0 by omega, show n % 10 = n by omega]
      unfold yN; simp
    · rw [Go.Lib.decDigits, dif_neg h, ih (n / 10) (by omega) (by omega)]
def rvs (xs : List Int) (i : Nat) : List Int := (List.range xs.length).map fun j => if j < i ∨ xs.length - i ≤ j then xs.getD (xs.length - 1 - j) 0 else xs.getD j 0
theorem Li (xs : List Int) (i : Nat) : (rvs xs i).length = xs.length := by simp [rvs]
theorem rvs_zero (xs : List Int) : rvs xs 0 = xs := by
  apply List.ext_getElem (by simp [rvs])
  intro j h1 h2
  simp only [rvs, List.getElem_map, List.getElem_range]
  rw [if_neg (by omega)]
  simp [List.getD, h2]
theorem XP (xs : List Int) (i : Nat) (h : xs.length ≤ 2 * i + 1) : rvs xs i = xs.reverse := by
  apply List.ext_getElem (by simp [rvs])
  intro j h1 h2
  have hj : j < xs.length := by simpa using h2
  simp only [rvs, List.getElem_map, List.getElem_range, List.getElem_reverse]
  by_cases c : j < i ∨ xs.length - i ≤ j
  · rw [if_pos c]; simp [List.getD, show xs.length - 1 - j < xs.length by omega]
  · rw [if_neg c]
    have : j = xs.length - 1 - j := by omega
    simp only [List.getD, List.getElem?_eq_getElem hj, Option.getD_some]
    congr 1
theorem rvs_rd (xs : List Int) (i j : Nat) (hj : j < xs.length) (h : ¬ (j < i ∨ xs.length - i ≤ j)) : rd (rvs xs i) (j : Int) = xs.getD j 0 := by
  have : j < (rvs xs i).length := by rw [Li]; exact hj
  rw [rd, List.getD, Int.toNat_natCast, List.getElem?_eq_getElem this]
  simp only [rvs, List.getElem_map, List.getElem_range, Option.getD_some]
  rw [if_neg h]
theorem rvs_set (xs : List Int) (i : Nat) (h : 2 * i + 1 < xs.length) : ((rvs xs i).set i (xs.getD (xs.length - 1 - i) 0)).set (xs.length - 1 - i) (xs.getD i 0) = rvs xs (i + 1) := by
  apply List.ext_getElem (by simp [rvs])
  intro j h1 h2
  have hj : j < xs.length := by rw [Li] at h2; exact h2
  rw [List.getElem_set, List.getElem_set]
  simp only [rvs, List.getElem_map, List.getElem_range]
  by_cases a : xs.length - 1 - i = j
  · rw [if_pos a, if_pos (by omega)]
    congr 1; omega
  · rw [if_neg a]
    by_cases b : i = j
    · rw [if_pos b, if_pos (by omega), b]
    · rw [if_neg b]
      by_cases c : j < i ∨ xs.length - i ≤ j
      · rw [if_pos c, if_pos (by omega)]
      · rw [if_neg c, if_neg (by omega)]
theorem lbf_l1 (xs : List Int) (hb : xs.length ≤ 1000) : ∀ (d i : Nat), xs.length ≤ 2 * i + 1 + 2 * d → i ≤ xs.length → Ev (fun k => aU.l1 k (rvs xs i) i ((xs.length : Int) - 1 - i)) (strOfNums xs.reverse) := by
  intro d
  induction d with
  | zero =>
    intro i hi h2
    refine ⟨1, fun k hk => ?_⟩
    obtain ⟨k, rfl⟩ : ∃ j, k = j + 1 := ⟨k - 1, by omega⟩
    simp only [aU.l1]
    rw [if_neg (by omega), XP xs i (by omega)]
  | succ d IH =>
    intro i hi h2
    by_cases c : (i : Int) < (xs.length : Int) - 1 - i
    · obtain ⟨K, e⟩ := IH (i + 1) (by omega) (by omega)
      refine ⟨K + 1, fun k hk => ?_⟩
      obtain ⟨k, rfl⟩ : ∃ j, k = j + 1 := ⟨k - 1, by omega⟩
      have e' := e k (by omega)
      dsimp only at e'
      have hq : (xs.length : Int) - 1 - i = ((xs.length - 1 - i : Nat) : Int) := by omega
      have hw : wrap64 ((xs.length : Int) - 1 - i - 1) = (xs.length : Int) - 1 - ((i + 1 : Nat) : Int) := by unfold wrap64; omega
      simp only [aU.l1]
      rw [if_pos c, if_pos (by omega), if_pos (by rw [Li]; omega), if_pos (by omega), if_pos (by rw [Li]; omega), hw, iJ (by omega), hq, rvs_rd xs i (xs.length - 1 - i) (by omega) (by omega), rvs_rd xs i i (by omega) (by omega), Int.toNat_natCast, Int.toNat_natCast, rvs_set xs i (by omega)]
      exact e'
    · refine ⟨1, fun k hk => ?_⟩
      obtain ⟨k, rfl⟩ : ∃ j, k = j + 1 := ⟨k - 1, by omega⟩
      simp only [aU.l1]
      rw [if_neg c, XP xs i (by omega)]
theorem lbf_l0 (n : Nat) : ∀ (ds : List Int), n < 18446744073709551616 → ds.length + (yN n).length ≤ 1000 → Ev (fun k => aU.l0 k (lb n) ds) (strOfNums (ds ++ yN n).reverse) := by
  induction n using Nat.strongRecOn with
  | _ n ih =>
    intro ds hn hl
    by_cases h0 : n = 0
    · subst h0
      obtain ⟨K, e⟩ := lbf_l1 ds (by omega) ds.length 0 (by omega) (by omega)
      refine ⟨K + 1, fun k hk => ?_⟩
      obtain ⟨k, rfl⟩ : ∃ j, k = j + 1 := ⟨k - 1, by omega⟩
      have e' := e k (by omega)
      dsimp only at e'
      have hw : wrap64 ((ds.length : Int) - 1) = (ds.length : Int) - 1 - ((0 : Nat) : Int) := by unfold wrap64; omega
      simp only [aU.l0]
      rw [show lb 0 = [] from rfl, if_neg (by simp), hw]
      rw [rvs_zero] at e'
      rw [show yN 0 = [] by unfold yN; simp, List.append_nil]
      exact e'
    · have hr : yN n = ((48 + n % 10 : Nat) : Int) :: yN (n / 10) := by rw [yN, dif_neg h0]
      rw [hr, List.length_cons] at hl
      obtain ⟨K, e⟩ := ih (n / 10) (by omega) (ds ++ [((48 + n % 10 : Nat) : Int)]) (by omega) (by rw [List.length_append, List.length_singleton]; omega)
      refine ⟨K + 7, fun k hk => ?_⟩
      obtain ⟨k, rfl⟩ : ∃ j, k = j + 7 := ⟨k - 7, by omega⟩
      have e' := e (k + 6) (by omega)
      have es := Tj k n 10 hn (by omega) (by omega)
      dsimp only at e'
      have hp : (lb n).length > 0 := by
        unfold lb; rw [if_neg h0]; split <;> simp
      rw [show k + 7 = (k + 6) + 1 from rfl]
      generalize k + 6 = m at e' es ⊢
      simp only [aU.l0]
      rw [if_pos (by omega), show (10 : Int) = ((10 : Nat) : Int) from rfl, es, Option.bind_some]
      dsimp only
      rw [if_pos (by omega), show ((48 + ((n % 10 : Nat) : Int)) % 4294967296) % 256 = ((48 + n % 10 : Nat) : Int) by omega, e', hr, List.append_assoc]
      rfl
theorem Rj (n : Nat) (h : n < 18446744073709551616) : Ev (fun k => aU.f k (lb n)) ⟨(Go.Lib.decDigits n).toArray⟩ := by
  by_cases h0 : n = 0
  · subst h0
    refine ⟨3, fun k hk => ?_⟩
    obtain ⟨k, rfl⟩ : ∃ j, k = j + 3 := ⟨k - 3, by omega⟩
    simp only [aU.f]
    rw [uK k 0 h, Option.bind_some, if_pos (by rfl), show Go.Lib.decDigits 0 = [48] from by rw [Go.Lib.decDigits]; rfl]
  · have hl := rdig_len 20 n (by omega)
    obtain ⟨K, e⟩ := lbf_l0 n [] h (by simp only [List.length_nil]; omega)
    refine ⟨K + 3, fun k hk => ?_⟩
    obtain ⟨k, rfl⟩ : ∃ j, k = j + 3 := ⟨k - 3, by omega⟩
    have e' := e (k + 3) (by omega)
    dsimp only at e'
    have hp : (lb n).length > 0 := by
      unfold lb; rw [if_neg h0]; split <;> simp
    simp only [aU.f]
    rw [uK k n h, Option.bind_some, if_neg (by omega), e', List.nil_append]
    refine congrArg some (ba_eq ?_)
    rw [strOfNums_data, rdig_rev n h0]
theorem TL {a : Int} (h0 : 0 ≤ a) (h1 : a ≤ 9223372036854775807) : Ev (fun k => fG.f k a) ⟨(Go.Lib.itoa a).toArray⟩ := by
  obtain ⟨n, rfl⟩ : ∃ n : Nat, a = n := ⟨a.toNat, by omega⟩
  obtain ⟨K1, e1⟩ := Rj n (by omega)
  obtain ⟨K2, e2⟩ := Rj 1 (by omega)
  dsimp only at e1 e2
  rw [lb1] at e2
  refine ⟨K1 + K2 + 8, fun k hk => ?_⟩
  obtain ⟨k, rfl⟩ : ∃ j, k = j + 8 := ⟨k - 8, by omega⟩
  have e1' := e1 (k + 8) (by omega)
  have e2' := e2 (k + 8) (by omega)
  have e3 : (Go.Lib.decDigits 1) = [49] := by rw [Go.Lib.decDigits]; rfl
  have e4 : (n : Int) / 4294967296 % 4294967296 = ((n / 4294967296 : Nat) : Int) := by omega
  simp only [fG.f, iV.f, gG.f]
  rw [if_pos (by omega), if_neg (by omega), lo_half n (by omega), e4, show k + 8 = k + 5 + 3 from rfl, Ri (k + 5) n (by omega)]
  simp only [Option.bind_some, gV.f]
  rw [show k + 5 + 3 = k + 8 from rfl, norm_lb k n (by omega), Option.bind_some]
  dsimp only
  rw [e1', Option.bind_some, if_neg (by decide), e2', Option.bind_some, e3, if_pos (by rw [Lib.toList_data]), Option.bind_some]
  rw [show Go.Lib.itoa (n : Int) = Go.Lib.decDigits n from by unfold Go.Lib.itoa; rw [if_neg (by omega), Int.toNat_natCast]]
end Go.Proofs.YtggelekooacmnaaDoor.Pure
set_option linter.unusedVariables false
set_option linter.unusedSimpArgs false
namespace Go.Proofs.YtggelekooacmnaaDoor.Pure
open Go.RowKit Go.Proofs.YtggelekooacmnaaDoor.Q Go.Proofs.YtggelekooacmnaaDoorW.aJ Go.Proofs.YtggelekooacmnaaDoorW.bu Go.Proofs.YtggelekooacmnaaDoorW.bB
theorem rcmp_l0 (l m : List Int) (hb : l.length ≤ 1000) : ∀ (d i : Nat), i + d = l.length → i ≤ m.length → Ev (fun k => bU.l0 k l m i) (cmpL (l.drop i) (m.drop i)) := by
  have fin : ∀ (i : Nat), (i = l.length ∨ i = m.length) → i ≤ l.length → i ≤ m.length → ∀ k, bU.j1 (k + 1) l m i false = some (cmpL (l.drop i) (m.drop i)) := by
    intro i hi h1 h2 k
    simp only [bU.j1]
    rw [if_neg (by decide)]
    by_cases c1 : i = l.length
    · by_cases c2 : i = m.length
      · rw [if_neg (by omega), if_neg (by omega), List.drop_eq_nil_of_le (by omega), List.drop_eq_nil_of_le (by omega)]; rfl
      · rw [if_pos (by omega), List.drop_eq_nil_of_le (show l.length ≤ i by omega), List.drop_eq_getElem_cons (show i < m.length by omega)]; rfl
    · rw [if_neg (by omega), if_pos (by omega), List.drop_eq_nil_of_le (show m.length ≤ i by omega), List.drop_eq_getElem_cons (show i < l.length by omega)]; rfl
  intro d
  induction d with
  | zero =>
    intro i hi hm
    refine ⟨2, fun k hk => ?_⟩
    obtain ⟨k, rfl⟩ : ∃ j, k = j + 2 := ⟨k - 2, by omega⟩
    simp only [bU.l0]
    rw [if_neg (by omega), fin i (by omega) (by omega) hm]
  | succ d IH =>
    intro i hi hm
    have hlt : i < l.length := by omega
    by_cases h : i < m.length
    · obtain ⟨K2, e2⟩ := IH (i + 1) (by omega) (by omega)
      refine ⟨K2 + 2, fun k hk => ?_⟩
      obtain ⟨k, rfl⟩ : ∃ j, k = j + 2 := ⟨k - 2, by omega⟩
      have e2' := e2 k (by omega)
      dsimp only at e2'
      have r1 : rd l (i : Int) = l[i] := by simp [rd, List.getD, hlt]
      have r2 : rd m (i : Int) = m[i] := by simp [rd, List.getD, h]
      simp only [bU.l0]
      rw [if_pos (by omega), decide_eq_true (show (i : Int) < (m.length : Int) by omega)]
      simp only [bU.j1]
      rw [if_pos trivial, if_pos (by omega), if_pos (by omega), if_pos (by omega), r1, r2, iJ (by omega), e2', List.drop_eq_getElem_cons hlt, List.drop_eq_getElem_cons h]
      simp only [cmpL]
      split
      · rfl
      · split <;> rfl
    · refine ⟨2, fun k hk => ?_⟩
      obtain ⟨k, rfl⟩ : ∃ j, k = j + 2 := ⟨k - 2, by omega⟩
      simp only [bU.l0]
      rw [if_pos (by omega), decide_eq_false (show ¬ (i : Int) < (m.length : Int) by omega), fin i (by omega) (by omega) hm]
def tlV (G : List (List UInt8)) : List UInt8 := (G.map (fun x => 44 :: 32 :: x)).flatten
theorem tlV_cons (x : List UInt8) (G : List (List UInt8)) : tlV (x :: G) = 44 :: 32 :: (x ++ tlV G) := by simp [tlV]
theorem Tk : ∀ (x : List UInt8) (G : List (List UInt8)), oJ (x :: G) = x ++ tlV G
  | x, [] => by simp [oJ, tlV]
  | x, y :: G => by
    have ih := Tk y G
    simp only [oJ] at ih ⊢
    rw [ih]
    simp [tlV]
theorem rtext_l0 (q : Int) (hq : q = 5 ∨ q = 6) (a1 a2 a3 : Int) (ts : List S24) (vs : List S51) (v0 : Int) (hts : 0 < ts.length) (hl5 : q = 5 → vs.length = ts.length) (h4 : vs.length ≤ 4) (G : List (List UInt8)) (hG : G.length = vs.length) (hb : ∀ x ∈ G, x.length ≤ 1000000000)
    (ih : ∀ (i : Nat) (h : i < vs.length) (h' : i < G.length), Ev (at2 bn.f (if q = 5 then ag ts (i : Int) else ag ts 0) vs[i]) ⟨G[i].toArray⟩) :
    ∀ (d i : Nat) (p : List UInt8), 1 ≤ i → p.length ≤ i * 2000000000 → i + d = vs.length → Ev (fun k => bn.l0 k ⟨p.toArray⟩ i q a1 a2 a3 ts v0 vs) ⟨((if q = 5 then 40 else 91) :: (p ++ tlV (G.drop i) ++ [if q = 5 then 41 else 93])).toArray⟩ := by
  intro d
  induction d with
  | zero =>
    intro i p h1 hp hi
    refine ⟨1, fun k hk => ?_⟩
    obtain ⟨k, rfl⟩ : ∃ j, k = j + 1 := ⟨k - 1, by omega⟩
    simp only [bn.l0]
    rw [if_neg (by omega), List.drop_eq_nil_of_le (by omega)]
    have e : ∀ c : UInt8, ((⟨#[c]⟩ : ByteArray) ++ ⟨p.toArray⟩).size = 1 + p.length := by intro c; rw [ByteArray.size_append, qm]; rfl
    rcases hq with rfl | rfl
    · rw [if_pos rfl, qm, if_pos (by omega), e, if_pos (by omega)]
      refine congrArg some (ba_eq ?_)
      simp [tlV]
    · rw [if_neg (by decide), qm, if_pos (by omega), e, if_pos (by omega)]
      refine congrArg some (ba_eq ?_)
      simp [tlV]
  | succ d IH =>
    intro i p h1 hp hi
    have hlt : i < vs.length := by omega
    have hltG : i < G.length := by omega
    obtain ⟨K1, e1⟩ := ih i hlt hltG
    have hx := hb _ (List.getElem_mem hltG)
    obtain ⟨K2, e2⟩ := IH (i + 1) (p ++ 44 :: 32 :: G[i]) (by omega) (by simp only [List.length_append, List.length_cons]; rw [Nat.add_mul]; omega) (by omega)
    refine ⟨max K1 K2 + 1, fun k hk => ?_⟩
    obtain ⟨k, rfl⟩ : ∃ j, k = j + 1 := ⟨k - 1, by omega⟩
    have e1' := e1 k (by omega)
    have e2' := e2 k (by omega)
    dsimp only [at2] at e1' e2'
    have hp2 : ((⟨p.toArray⟩ : ByteArray) ++ (⟨#[44, 32]⟩ : ByteArray)) ++ (⟨G[i].toArray⟩ : ByteArray) = ⟨(p ++ 44 :: 32 :: G[i]).toArray⟩ := ba_eq (by simp)
    have hs2 : ((⟨p.toArray⟩ : ByteArray) ++ (⟨#[44, 32]⟩ : ByteArray)).size = p.length + 2 := by rw [ByteArray.size_append, qm]; rfl
    have ht : tlV (G.drop i) = 44 :: 32 :: (G[i] ++ tlV (G.drop (i + 1))) := by
      rw [List.drop_eq_getElem_cons hltG, tlV_cons]
    rw [ht]
    simp only [bn.l0]
    rcases hq with rfl | rfl
    · have hl5 := hl5 rfl
      rw [if_pos rfl] at e1'
      rw [if_pos (by omega), if_pos (by omega), if_pos rfl, if_pos (by omega), if_pos (by omega), if_pos (by omega), qm, if_pos (by omega), rdV hlt, e1', Option.bind_some, hs2, qm, if_pos (by omega), hp2, iJ (by omega), e2']
      simp only [List.append_assoc, List.cons_append]
    · rw [if_neg (by decide)] at e1'
      rw [if_pos (by omega), if_pos (by omega), if_neg (by decide), if_pos (by omega), qm, if_pos (by omega), if_pos (by omega), rdV hlt, e1', Option.bind_some, hs2, qm, if_pos (by omega), hp2, iJ (by omega), e2']
      simp only [List.append_assoc, List.cons_append]
theorem Tm (q : Int) (hq : q = 5 ∨ q = 6) (a1 a2 a3 : Int) (ts : List S24) (vs : List S51) (v0 : Int) (hts : 0 < ts.length) (hl5 : q = 5 → vs.length = ts.length) (h4 : vs.length ≤ 4) (G : List (List UInt8)) (hG : G.length = vs.length) (hb : ∀ x ∈ G, x.length ≤ 1000000000)
    (ih : ∀ (i : Nat) (h : i < vs.length) (h' : i < G.length), Ev (at2 bn.f (if q = 5 then ag ts (i : Int) else ag ts 0) vs[i]) ⟨G[i].toArray⟩) :
    Ev (fun k => bn.f k q a1 a2 a3 ts v0 vs) ⟨((if q = 5 then 40 else 91) :: (oJ G ++ [if q = 5 then 41 else 93])).toArray⟩ := by
  have main : Ev (fun k => bn.l0 k ⟨#[]⟩ 0 q a1 a2 a3 ts v0 vs) ⟨((if q = 5 then 40 else 91) :: (oJ G ++ [if q = 5 then 41 else 93])).toArray⟩ := by
    by_cases h0 : vs.length = 0
    · have hg : G = [] := List.eq_nil_of_length_eq_zero (by omega)
      refine ⟨1, fun k hk => ?_⟩
      obtain ⟨k, rfl⟩ : ∃ j, k = j + 1 := ⟨k - 1, by omega⟩
      simp only [bn.l0]
      have e0 : ((⟨#[]⟩ : ByteArray)).size = 0 := rfl
      have e : ∀ c : UInt8, ((⟨#[c]⟩ : ByteArray) ++ ⟨#[]⟩).size = 1 := by intro c; rfl
      rw [if_neg (by omega), hg]
      rcases hq with rfl | rfl
      · rw [if_pos rfl, e0, if_pos (by omega), e, if_pos (by omega)]
        refine congrArg some (ba_eq ?_)
        simp [oJ]
      · rw [if_neg (by decide), e0, if_pos (by omega), e, if_pos (by omega)]
        refine congrArg some (ba_eq ?_)
        simp [oJ]
    · have hlt : 0 < vs.length := by omega
      have hltG : 0 < G.length := by omega
      obtain ⟨K1, e1⟩ := ih 0 hlt hltG
      have hx := hb _ (List.getElem_mem hltG)
      obtain ⟨K2, e2⟩ := rtext_l0 q hq a1 a2 a3 ts vs v0 hts hl5 h4 G hG hb ih (vs.length - 1) 1 G[0] (by omega) (by omega) (by omega)
      refine ⟨max K1 K2 + 1, fun k hk => ?_⟩
      obtain ⟨k, rfl⟩ : ∃ j, k = j + 1 := ⟨k - 1, by omega⟩
      have e1' := e1 k (by omega)
      have e2' := e2 k (by omega)
      dsimp only [at2] at e1' e2'
      have hg : oJ G = G[0] ++ tlV (G.drop 1) := by
        have : G = G[0] :: G.drop 1 := by
          have h := List.drop_eq_getElem_cons hltG
          rwa [List.drop_zero] at h
        conv => lhs; rw [this]
        exact Tk _ _
      have hp2 : (⟨#[]⟩ : ByteArray) ++ (⟨G[0].toArray⟩ : ByteArray) = ⟨G[0].toArray⟩ := ba_eq (by simp)
      have e0 : ((⟨#[]⟩ : ByteArray)).size = 0 := rfl
      have hw : wrap64 (0 + 1) = ((1 : Nat) : Int) := by unfold wrap64; omega
      have hr : bq vs 0 = vs[0] := rdV0 hlt
      simp only [bn.l0]
      rw [hg]
      rcases hq with rfl | rfl
      · have hl5 := hl5 rfl
        rw [if_pos rfl] at e1'
        rw [show (((0 : Nat) : Int)) = 0 from rfl] at e1'
        rw [if_pos (by omega), if_pos (by omega), if_pos rfl, if_pos (by omega), if_pos (by omega), if_neg (by omega), hr, e1', Option.bind_some, e0, qm, if_pos (by omega), hp2, hw, e2']
      · rw [if_neg (by decide)] at e1'
        rw [if_pos (by omega), if_pos (by omega), if_neg (by decide), if_neg (by omega), if_pos (by omega), hr, e1', Option.bind_some, e0, qm, if_pos (by omega), hp2, hw, e2']
  obtain ⟨K, e⟩ := main
  refine ⟨K + 2, fun k hk => ?_⟩
  obtain ⟨k, rfl⟩ : ∃ j, k = j + 2 := ⟨k - 2, by omega⟩
  have e' := e k (by omega)
  dsimp only at e'
  have hj : bn.j0 (k + 1) true q a1 a2 a3 ts v0 vs = _ := (by simp only [bn.j0, if_true]; exact e')
  simp only [bn.f]
  rcases hq with rfl | rfl
  · rw [if_neg (by decide), if_pos rfl]; exact hj
  · rw [if_neg (by decide), if_neg (by decide)]; exact hj
theorem rtext_ev (n : Nat) : ∀ {t : S24} {v : S51}, n ≤ 10 → Vt n t → t.f0 ≠ 3 → t.f0 ≠ 4 → chk n t v = 0 → Ev (at2 bn.f t v) (vB n t v) := by
  induction n with
  | zero => intro t v _ h; cases h
  | succ n ih =>
    intro t v hn h h3' h4' hc
    obtain ⟨v0, vs⟩ := v
    cases h with
    | bool =>
      refine ⟨1, fun k hk => ?_⟩
      obtain ⟨k, rfl⟩ : ∃ j, k = j + 1 := ⟨k - 1, by omega⟩
      simp only [at2, bn.f, vB, txV]
      by_cases h1 : v0 = 1
      · subst h1; simp
      · simp [h1]
    | nat => exact absurd rfl h3'
    | real => exact absurd rfl h4'
    | int _ lo hi h1 h2 h3 =>
      obtain ⟨_, _, _, hr⟩ := uj (by simp) (by simp) hc
      have := hr (by simp) (by simp)
      dsimp only at this
      obtain ⟨K, e⟩ := Yl (a := v0) (by omega) (by omega)
      dsimp only at e
      refine ⟨K + 2, fun k hk => ?_⟩
      obtain ⟨k, rfl⟩ : ∃ j, k = j + 2 := ⟨k - 2, by omega⟩
      have e' := e k (by omega)
      simp only [at2, bn.f, bn.j0, vB, txV]
      simp [e']
    | lst _ m x h1 h2 h3 h4 =>
      obtain ⟨_, hl, ha⟩ := wy hc
      dsimp only at hl ha
      have hr := Tm 6 (.inr rfl) 0 0 m [x] vs v0 (by simp) (by omega) (by omega) (vs.map (txV n x)) (by simp) (fun y hy => by
          obtain ⟨z, hz, rfl⟩ := List.mem_map.1 hy
          exact Ec (by omega) h3 (by omega) (by omega) (ha z hz)) (fun i hi hi' => by
          rw [if_neg (by decide), rd1, List.getElem_map]
          exact ih (by omega) h3 (by omega) (by omega) (ha _ (List.getElem_mem hi)))
      have e2 : (vB (n + 1) ⟨6, 0, 0, m, [x]⟩ ⟨v0, vs⟩) = ⟨((if (6 : Int) = 5 then 40 else 91) :: (oJ (vs.map (txV n x)) ++ [if (6 : Int) = 5 then 41 else 93])).toArray⟩ := by
        simp [vB, txV, rd1]
      rw [e2]
      exact hr
    | tup _ l h1 h2 h3 h4 =>
      obtain ⟨_, hl, ha⟩ := wu hc
      dsimp only at hl ha
      have hr := Tm 5 (.inl rfl) 0 0 0 l vs v0 (by omega) (fun _ => hl) (by omega) (List.zipWith (txV n) l vs) (by simp; omega) (fun y hy => by
          obtain ⟨i, hi, e⟩ := List.getElem_of_mem hy
          rw [List.length_zipWith] at hi
          rw [List.getElem_zipWith] at e
          rw [← e]
          exact Ec (by omega) (h3 _ (List.getElem_mem (by omega))) (h4 _ (List.getElem_mem (by omega))).1 (h4 _ (List.getElem_mem (by omega))).2 (ha i (by omega) (by omega))) (fun i hi hi' => by
          rw [if_pos rfl, rdT (by omega), List.getElem_zipWith]
          exact ih (by omega) (h3 _ (List.getElem_mem _)) (h4 _ (List.getElem_mem _)).1 (h4 _ (List.getElem_mem _)).2 (ha i (by omega) hi))
      have e2 : (vB (n + 1) ⟨5, 0, 0, 0, l⟩ ⟨v0, vs⟩) = ⟨((if (5 : Int) = 5 then 40 else 91) :: (oJ (List.zipWith (txV n) l vs) ++ [if (5 : Int) = 5 then 41 else 93])).toArray⟩ := by
        simp [vB, txV]
      rw [e2]
      exact hr
theorem YF {t : S24} {v : S51} (hv : Vt 10 t) (h4 : t.f0 ≠ 4) (hc : chk 10 t v = 0) (hw : v.f0 ≤ 9223372036854775807) : ∃ s : ByteArray, Ev (at2 bn.f t v) s ∧ Ev (at2 cB.f t v) s := by
  by_cases h3 : t.f0 = 3
  · obtain ⟨v0, vs⟩ := v
    have h5 : ¬ t.f0 = 5 := by omega
    have h6 : (t.f0 == 6) = false := by simp; omega
    have h5' : (t.f0 == 5) = false := by simp; omega
    have h1 : ¬ t.f0 = 1 := by omega
    obtain ⟨_, _, hn, _⟩ := uj h5 (by omega) hc
    have hn := hn h3
    dsimp only at hn hw
    obtain ⟨K, e⟩ := TL hn hw
    dsimp only at e
    refine ⟨⟨(Go.Lib.itoa v0).toArray⟩, ⟨K + 2, fun k hk => ?_⟩, ⟨2, fun k hk => ?_⟩⟩ <;> obtain ⟨k, rfl⟩ : ∃ j, k = j + 2 := ⟨k - 2, by omega⟩
    · have e' := e k (by omega)
      simp only [at2, bn.f, bn.j0]
      rw [if_neg h1, if_neg h5, h6, if_neg (by decide), e', Option.bind_some]
    · simp only [at2, cB.f, cB.j0]
      rw [if_neg h5, h6, if_neg (by decide), if_neg h1]
      unfold lM.f
      rw [if_pos (by omega), Option.bind_some]
  · exact ⟨vB 10 t v, rtext_ev 10 (by omega) hv h3 h4 hc, vform_ev 10 (by omega) hv h3 h4 hc⟩
end Go.Proofs.YtggelekooacmnaaDoor.Pure
