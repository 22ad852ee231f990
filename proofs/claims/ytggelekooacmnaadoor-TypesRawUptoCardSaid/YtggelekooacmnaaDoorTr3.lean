/- Lemmas for: sP -/
import Derived.Test.YtggelekooacmnaaDoorTr2
namespace Go.Proofs.YtggelekooacmnaaDoor.Q
open Go.RowKit Go.Proofs.YtggelekooacmnaaDoorW.aU Go.Proofs.YtggelekooacmnaaDoorW.bD Go.Proofs.YtggelekooacmnaaDoorW.bH
attribute [local go_sem] dB dC dN dO cO cZ dD dE   -- for this text's walks alone
set_option linter.unusedVariables false
set_option linter.unusedSimpArgs false

/-! ### aJ: function 24 -/
mutual
def aJ.j0 : Nat → Bool → Int → Int → Int → Int → List (S24) → Int → Int → Int → Int → List (S24) → Option (Bool)
 | 0, _, _, _, _, _, _, _, _, _, _, _ => none
 | k + 1, x40, Nh, Ni, Nj, Nk, wu, Nl, Nn, Np, Nq, wy => if x40 = true then (some false) else (aJ.l0 k 0 Nh Ni Nj Nk wu Nl Nn Np Nq wy)
def aJ.l0 : Nat → Int → Int → Int → Int → Int → List (S24) → Int → Int → Int → Int → List (S24) → Option (Bool)
 | 0, _, _, _, _, _, _, _, _, _, _, _ => none
 | k + 1, x5, Nh, Ni, Nj, Nk, wu, Nl, Nn, Np, Nq, wy => if x5 < (wu.length : Int) then (if 0 ≤ x5 then (if x5 < (wy.length : Int) then ((aJ.f k ((ag wu x5).f0) ((ag wu x5).f1) ((ag wu x5).f2) ((ag wu x5).f3) ((ag wu x5).f4) ((ag wy x5).f0) ((ag wy x5).f1) ((ag wy x5).f2) ((ag wy x5).f3) ((ag wy x5).f4)).bind fun t270 => (if t270 = true then (aJ.l0 k (wrap64 (x5 + 1)) Nh Ni Nj Nk wu Nl Nn Np Nq wy) else (some false))) else (none)) else (none)) else (some true)
def aJ.f : Nat → Int → Int → Int → Int → List (S24) → Int → Int → Int → Int → List (S24) → Option (Bool)
 | 0, _, _, _, _, _, _, _, _, _, _ => none
 | k + 1, ah, au, aj, ak, af, fD, fE, fF, fG, dI => if ah = fD then (if au = fE then (if aj = fF then (if ak = fG then (aJ.j0 k ((af.length : Int) != (dI.length : Int)) ah au aj ak af fD fE fF fG dI) else (aJ.j0 k true ah au aj ak af fD fE fF fG dI)) else (aJ.j0 k true ah au aj ak af fD fE fF fG dI)) else (aJ.j0 k true ah au aj ak af fD fE fF fG dI)) else (aJ.j0 k true ah au aj ak af fD fE fF fG dI)
end
def aJ.T6 : Bool × List (List Nat × List Nat) := (true, [([], []), ([0], [0]), ([], []), ([1, 2], [1, 2]), ([3], [3]), ([], []), ([5], [5]), ([], []), ([6, 7], [6, 7]), ([8], [8]), ([4, 9], [4, 9]), ([10], [10])])
def aJ.B6 : List Nat := [0, 1, 0, 7, 15, 0, 32, 0, 224, 480, 1023, 2047]
theorem aJ.tab6 : jG .any (opsOf Tryd.f24 6) = aJ.T6 := by kernel_rfl
theorem aJ.bits6 : mo aJ.T6.2 aJ.B6 = true := by kernel_rfl
set_option maxHeartbeats 8000000 in
set_option maxRecDepth 100000 in
theorem aJ.calls (k : Nat) : ∀ (ah : Int) (au : Int) (aj : Int) (ak : Int) (aM : Option Addr) (aH : Nat) (af : List (S24)) (fD : Int) (fE : Int) (fF : Int) (fG : Int) (si : Option Addr) (oO : Nat) (dI : List (S24)) (r : Bool) (w : World) (di : Kd.C k24 w aM af.length af) (dm : af.length ≤ aH) (IG : Kd.C k24 w si dI.length dI) (II : dI.length ≤ oO) (h : aJ.f k ah au aj ak af fD fE fF fG dI = some r),
  Calls Tryd.prog 24 #[.agg #[.int .i64 ah, .int .i64 au, .int .i64 aj, .int .i64 ak, .slice aM af.length aH], .agg #[.int .i64 fD, .int .i64 fE, .int .i64 fF, .int .i64 fG, .slice si dI.length oO]] w fun e w' => e = .returned (.bool r) ∧ Below w.heap.size w w' := by
 induction k using Nat.strongRecOn with
 | _ k ih =>
 intro ah au aj ak aM aH af fD fE fF fG si oO dI r w di dm IG II h; cases k with
 | zero => exact absurd h (by simp [aJ.f])
 | succ k =>
 simp only [aJ.f] at h; have mg := Tryd.underlying24; have bu := aa.mk di; have bU := aa.mk dm; clear di dm; have Bh := aa.mk IG; have Eg := aa.mk II; clear IG II; have HB := aa.mk (Below.refl w.heap.size w); have H : (if ah = fD then (if au = fE then (if aj = fF then (if ak = fG then (aJ.j0 k ((af.length : Int) != (dI.length : Int)) ah au aj ak af fD fE fF fG dI) else (aJ.j0 k true ah au aj ak af fD fE fF fG dI)) else (aJ.j0 k true ah au aj ak af fD fE fF fG dI)) else (aJ.j0 k true ah au aj ak af fD fE fF fG dI)) else (aJ.j0 k true ah au aj ak af fD fE fF fG dI)) = some r := h; clear h; have HC3 := aa.mk H; clear H; go_enter Tryd.func24, Tryd.ntmps24; go_upto_region 1 with (first | ((with_reducible refine aW (N := 2) rfl ?_); (try (refine fT (by rfl) ?_; dsimp only)); refine bf ?hg (N := 2) ?hd (cs := #[.int .i64 ah, .int .i64 au, .int .i64 aj, .int .i64 ak, .slice aM af.length aH]) (t := 24) ?hr ?_; (case hd => rfl); (case hg => rfl); (case hr => first | (go_simp; done) | (go_simp; rfl)); intro wz hg w4 aG hb; have fO := aa.mk (aG); have GW266 : aa (w.heap.size ≤ wz) := gw_ hg (ax bl_); have GE266 := GW266; replace HB := aa.mk (ai bl_ hb); clear hb aG hg) | ((with_reducible refine aW (N := 3) rfl ?_); (try (refine fT (by rfl) ?_; dsimp only)); refine bf ?hg (N := 3) ?hd (cs := #[.int .i64 fD, .int .i64 fE, .int .i64 fF, .int .i64 fG, .slice si dI.length oO]) (t := 24) ?hr ?_; (case hd => rfl); (case hg => rfl); (case hr => first | (go_simp; done) | (go_simp; rfl)); intro wB hg w5 aG hb; have gF := aa.mk (aG); have GW267 : aa (w.heap.size ≤ wB) := gw_ hg (ax bl_); have GE267 := GW267; have sN := nl_ fO hg; have sO := ng_ fO hg; replace fO := kb_ fO hb; replace HB := aa.mk (ai bl_ hb); clear hb aG hg))
 (try simp only [Act.put, List.setIfInBounds_toArray, List.set_cons_zero, List.set_cons_succ])
 go_cut [40] (fun v40 wc => ∃ (kq : Nat) (x40_2 : Bool), v40 = .bool x40_2 ∧ aa (aJ.j0 kq x40_2 ah au aj ak af fD fE fF fG dI = some r) ∧ aa (kq ≤ k) ∧ aa (wc.heap[wz]? = some (.cells #[.int .i64 ah, .int .i64 au, .int .i64 aj, .int .i64 ak, (.slice aM af.length aH)] 24 (0, 0))) ∧ aa (wc.heap[wB]? = some (.cells #[.int .i64 fD, .int .i64 fE, .int .i64 fF, .int .i64 fG, (.slice si dI.length oO)] 24 (0, 0))) ∧ aa (Below w.heap.size w wc))
 case first =>
  have H := HC3.out; clear HC3; by_cases c6 : ah = fD
  ·rw [if_pos c6] at H; obtain ⟨uT, c6b1⟩ := bq_ c6; clear c6; (first | rw [uT] | (simp only [dS, ek]; rw [uT]) | skip)
   by_cases c7 : au = fE
   ·rw [if_pos c7] at H; obtain ⟨jM, vo⟩ := bq_ c7; clear c7; by_cases c8 : aj = fF
    ·rw [if_pos c8] at H; obtain ⟨gH, jv⟩ := bq_ c8; clear c8; by_cases c9 : ak = fG
     ·rw [if_pos c9] at H; obtain ⟨qE, uJ⟩ := bq_ c9; clear c9; have H' := aa.mk H; clear H; have hnb10 := sN.out; have hnc10 := sO.out; obtain ⟨jO, jP, jQ, ku, kv, jR, jS, jT, ky, kz⟩ := bg fO.out; obtain ⟨rz, rA, rC, rD, rE, rF, rG, rH, rJ, rM⟩ := bg gF.out; go_wp2; go_meet
      case rel => exact ⟨_, (((af.length : Int) != (dI.length : Int))), rs_, H', ⟨by first | omega | exact Nat.le_refl _⟩, ⟨bk_⟩, ⟨bk_⟩, ⟨bl_⟩⟩
     ·rw [if_neg c9] at H; obtain ⟨qE, uJ⟩ := bn_ c9; have H' := aa.mk H; clear H; have hnb13 := sN.out; have hnc13 := sO.out; obtain ⟨ja, jb, jc, jd, je, jf, jg, jh, ji, jk⟩ := bg fO.out; obtain ⟨nA, nC, nD, qb, qc, nE, nG, nH, qd, qf⟩ := bg gF.out; go_wp2; go_meet
      case rel => exact ⟨_, (true), rs_, H', ⟨by first | omega | exact Nat.le_refl _⟩, ⟨bk_⟩, ⟨bk_⟩, ⟨bl_⟩⟩
    ·rw [if_neg c8] at H; obtain ⟨gH, jv⟩ := bn_ c8; have H' := aa.mk H; clear H; have hnb16 := sN.out; have hnc16 := sO.out; obtain ⟨mW, mX, mY, mZ, ng, ni, nk, nu, ny, nz⟩ := bg fO.out; obtain ⟨mq, mr, mD, og, oh, mE, mF, mG, om, oo⟩ := bg gF.out; go_wp2; go_meet
     case rel => exact ⟨_, (true), rs_, H', ⟨by first | omega | exact Nat.le_refl _⟩, ⟨bk_⟩, ⟨bk_⟩, ⟨bl_⟩⟩
   ·rw [if_neg c7] at H; obtain ⟨jM, vo⟩ := bn_ c7; have H' := aa.mk H; clear H; have hnb19 := sN.out; have hnc19 := sO.out; obtain ⟨mH, mI, mJ, oq, ou, mK, mM, mO, ow, oz⟩ := bg fO.out; obtain ⟨kI, kJ, kK, pJ, pK, kL, kM, kN, pM, pO⟩ := bg gF.out; go_wp2; go_meet
    case rel => exact ⟨_, (true), rs_, H', ⟨by first | omega | exact Nat.le_refl _⟩, ⟨bk_⟩, ⟨bk_⟩, ⟨bl_⟩⟩
  ·rw [if_neg c6] at H; obtain ⟨uT, c6b1⟩ := bn_ c6; (first | rw [uT] | (simp only [dS, ek]; rw [uT]) | skip)
   have H' := aa.mk H; clear H; have hnb22 := sN.out; have hnc22 := sO.out; obtain ⟨EN, EO, EP, M3, M4, ER, ES, ET, M5, M6⟩ := bg fO.out; obtain ⟨xY, xZ, yc, zA, zB, yf, yg, yh, zC, zD⟩ := bg gF.out; go_wp2; go_meet
   case rel => exact ⟨_, (true), rs_, H', ⟨by first | omega | exact Nat.le_refl _⟩, ⟨bk_⟩, ⟨bk_⟩, ⟨bl_⟩⟩
 case rest =>
  clear HC3; (try clear c1); (try clear c2); (try clear p2); (try clear c6); (try clear uT); (try clear c6b1); (try clear c7); (try clear jM); (try clear vo); (try clear c8); (try clear gH); (try clear jv); (try clear c9); (try clear qE); (try clear uJ); (try clear c10); (try clear c13); (try clear c16); (try clear c19); (try clear c22); (try clear c24); (try clear jO jP jQ ku kv jR jS jT ky kz); (try clear rz rA rC rD rE rF rG rH rJ rM); (try clear ja jb jc jd je jf jg jh ji jk); (try clear nA nC nD qb qc nE nG nH qd qf); (try clear mW mX mY mZ ng ni nk nu ny nz); (try clear mq mr mD og oh mE mF mG om oo); (try clear mH mI mJ oq ou mK mM mO ow oz); (try clear kI kJ kK pJ pK kL kM kN pM pO); (try clear EN EO EP M3 M4 ER ES ET M5 M6); (try clear xY xZ yc zA zB yf yg yh zC zD); obtain ⟨kq, x40_2, rfl, HA, HJ2, fO, gF, HB⟩ := hcut; cases kq with
  | zero => exact absurd HA.out (by simp [aJ.j0])
  | succ kj2 =>
   have H := HA.out; clear HA; simp only [aJ.j0] at H; by_cases c25 : x40_2 = true
   ·subst c25; have H1 : (some false) = some r := by rw [if_pos rfl] at H; exact H
    clear H; have H := H1; clear H1; obtain rfl := Option.some.inj H; go_wp2; go_ret; exact ⟨re_, bl_⟩
   ·replace c25 := Bool.eq_false_iff.mpr c25; subst c25; have H1 : (aJ.l0 kj2 0 ah au aj ak af fD fE fF fG dI) = some r := by rw [if_neg (show ¬ (false = true) by decide)] at H; exact H
    clear H; have H := H1; clear H1; have H' := aa.mk H; clear H; go_wp2; go_loopg [5] kj2 (fun kq v5 w' => ∃ (bY : Int), v5 = .int .i64 bY ∧ aa (aJ.l0 kq bY ah au aj ak af fD fE fF fG dI = some r) ∧ aa (kq ≤ kj2) ∧ aa (w'.heap[wz]? = some (.cells #[.int .i64 ah, .int .i64 au, .int .i64 aj, .int .i64 ak, (.slice aM af.length aH)] 24 (0, 0))) ∧ aa (w'.heap[wB]? = some (.cells #[.int .i64 fD, .int .i64 fE, .int .i64 fF, .int .i64 fG, (.slice si dI.length oO)] 24 (0, 0))) ∧ aa (Below w.heap.size w w'))
    case atStart => exact ⟨(0), rs_, H', ⟨Nat.le_refl _⟩, ⟨bk_⟩, ⟨bk_⟩, ⟨bl_⟩⟩
    case round =>
     clear H'; (try clear c1); (try clear c2); (try clear p2); (try clear c6); (try clear uT); (try clear c6b1); (try clear c7); (try clear jM); (try clear vo); (try clear c8); (try clear gH); (try clear jv); (try clear c9); (try clear qE); (try clear uJ); (try clear c10); (try clear c13); (try clear c16); (try clear c19); (try clear c22); (try clear c24); (try clear c25); (try clear jO jP jQ ku kv jR jS jT ky kz); (try clear rz rA rC rD rE rF rG rH rJ rM); (try clear ja jb jc jd je jf jg jh ji jk); (try clear nA nC nD qb qc nE nG nH qd qf); (try clear mW mX mY mZ ng ni nk nu ny nz); (try clear mq mr mD og oh mE mF mG om oo); (try clear mH mI mJ oq ou mK mM mO ow oz); (try clear kI kJ kK pJ pK kL kM kN pM pO); (try clear EN EO EP M3 M4 ER ES ET M5 M6); (try clear xY xZ yc zA zB yf yg yh zC zD); (try clear p2); obtain ⟨bY, rfl, HA, HK2, fO, gF, HB⟩ := hrel; cases gk with
     | zero => exact absurd HA.out (by simp [aJ.l0])
     | succ k2 =>
      have H := HA.out; clear HA; simp only [aJ.l0] at H; by_cases c26 : bY < (af.length : Int)
      ·rw [if_pos c26] at H; have Kg := decide_eq_true c26; clear c26; by_cases c27 : 0 ≤ bY
       ·rw [if_pos c27] at H; have Kh := decide_eq_true c27; clear c27; by_cases c28 : bY < (dI.length : Int)
        ·rw [if_pos c28] at H; have JQ := decide_eq_true c28; clear c28; replace H := Option.bind_eq_some_iff.mp H; obtain ⟨t270, A290, H⟩ := H; (try dsimp only at H)
         have A29 := aa.mk A290; clear A290; by_cases c30 : t270 = true
         ·subst c30; have H1 : (aJ.l0 k2 (wrap64 (bY + 1)) ah au aj ak af fD fE fF fG dI) = some r := by rw [if_pos rfl] at H; exact H
          clear H; have H := H1; clear H1; have H' := aa.mk H; clear H; have hnb31 := sN.out; have hnc31 := sO.out; obtain ⟨Cn, Co, Cq, Cr, Cs, Ct, Cu, Cv, Cw, Cx⟩ := bg fO.out; try go_wp2
          replace fO := aa.mk (dz fO.out); replace gF := aa.mk (dz gF.out); replace HB := aa.mk (bR HB.out); have p268 : 0 ≤ (bY : Int) := dt_; have q268 : bY < (af.length : Int) := dt_; obtain ⟨l9, GL, GM, e268, wC, wD, wE, wF, wG, Fs, Fu⟩ := dZ bu.out bY p268 q268; have wH := wG; have wI := wF; have wJ := wE; have wK := wD; have wL := wC; cases e268; replace wC := hc_ HB wC; replace wD := hc_ HB wD; replace wE := hc_ HB wE; replace wF := hc_ HB wF; replace wG := hc_ HB wG; have Fv := aa.mk Fu; have Nr := aa.mk Fs; clear Fu Fs; replace p268 := eq_true p268; replace q268 := eq_true q268; have p269 : 0 ≤ (bY : Int) := dt_; have q269 : bY < (dI.length : Int) := dt_; obtain ⟨ma, GN, GQ, e269, wM, wN, wO, wP, wQ, Fw, Fx⟩ := dZ Bh.out bY p269 q269; have wR := wQ; have wS := wP; have wT := wO; have wU := wN; have wV := wM; cases e269; replace wM := hc_ HB wM; replace wN := hc_ HB wN; replace wO := hc_ HB wO; replace wP := hc_ HB wP; replace wQ := hc_ HB wQ; have Fy := aa.mk Fx; have Ns := aa.mk Fw; clear Fx Fw; replace p269 := eq_true p269; replace q269 := eq_true q269; refine oG (n := 12) (S := fun w' => w'.cell? ⟨wz, 0, none⟩ = some (.int .i64 ah) ∧ w'.cell? ⟨wz, 1, none⟩ = some (.int .i64 au) ∧ w'.cell? ⟨wz, 2, none⟩ = some (.int .i64 aj) ∧ w'.cell? ⟨wz, 3, none⟩ = some (.int .i64 ak) ∧ w'.cell? ⟨wz, 4, none⟩ = some (.slice (some l9) af.length aH) ∧ w'.cell? ⟨wB, 0, none⟩ = some (.int .i64 fD) ∧ w'.cell? ⟨wB, 1, none⟩ = some (.int .i64 fE) ∧ w'.cell? ⟨wB, 2, none⟩ = some (.int .i64 fF) ∧ w'.cell? ⟨wB, 3, none⟩ = some (.int .i64 fG) ∧ w'.cell? ⟨wB, 4, none⟩ = some (.slice (some ma) dI.length oO) ∧ w'.cell? (l9.add ((bY).toNat * 5)) = some (.int .i64 ((ag af bY).f0)) ∧ w'.cell? ⟨(l9.add ((bY).toNat * 5)).block, (l9.add ((bY).toNat * 5)).off + 1, none⟩ = some (.int .i64 ((ag af bY).f1)) ∧ w'.cell? ⟨(l9.add ((bY).toNat * 5)).block, (l9.add ((bY).toNat * 5)).off + 2, none⟩ = some (.int .i64 ((ag af bY).f2)) ∧ w'.cell? ⟨(l9.add ((bY).toNat * 5)).block, (l9.add ((bY).toNat * 5)).off + 3, none⟩ = some (.int .i64 ((ag af bY).f3)) ∧ w'.cell? ⟨(l9.add ((bY).toNat * 5)).block, (l9.add ((bY).toNat * 5)).off + 4, none⟩ = some (.slice GL ((ag af bY).f4).length GM) ∧ w'.cell? (ma.add ((bY).toNat * 5)) = some (.int .i64 ((ag dI bY).f0)) ∧ w'.cell? ⟨(ma.add ((bY).toNat * 5)).block, (ma.add ((bY).toNat * 5)).off + 1, none⟩ = some (.int .i64 ((ag dI bY).f1)) ∧ w'.cell? ⟨(ma.add ((bY).toNat * 5)).block, (ma.add ((bY).toNat * 5)).off + 2, none⟩ = some (.int .i64 ((ag dI bY).f2)) ∧ w'.cell? ⟨(ma.add ((bY).toNat * 5)).block, (ma.add ((bY).toNat * 5)).off + 3, none⟩ = some (.int .i64 ((ag dI bY).f3)) ∧ w'.cell? ⟨(ma.add ((bY).toNat * 5)).block, (ma.add ((bY).toNat * 5)).off + 4, none⟩ = some (.slice GN ((ag dI bY).f4).length GQ)) (ds := []) #[false, false, false, false, false, false, false, false, false, false, false, false] (by kernel_rfl) rfl rfl ⟨(av fO.out 0).trans rfl, (av fO.out 1).trans rfl, (av fO.out 2).trans rfl, (av fO.out 3).trans rfl, (av fO.out 4).trans rfl, (av gF.out 0).trans rfl, (av gF.out 1).trans rfl, (av gF.out 2).trans rfl, (av gF.out 3).trans rfl, (av gF.out 4).trans rfl, ((HB.out.cell (World.block_lt_of_cell? w _ wL)).trans wL), ((HB.out.cell (World.block_lt_of_cell? w _ wK)).trans wK), ((HB.out.cell (World.block_lt_of_cell? w _ wJ)).trans wJ), ((HB.out.cell (World.block_lt_of_cell? w _ wI)).trans wI), ((HB.out.cell (World.block_lt_of_cell? w _ wH)).trans wH), ((HB.out.cell (World.block_lt_of_cell? w _ wV)).trans wV), ((HB.out.cell (World.block_lt_of_cell? w _ wU)).trans wU), ((HB.out.cell (World.block_lt_of_cell? w _ wT)).trans wT), ((HB.out.cell (World.block_lt_of_cell? w _ wS)).trans wS), ((HB.out.cell (World.block_lt_of_cell? w _ wR)).trans wR)⟩ (fun hHeld => ?_); refine iV aJ.tab6 aJ.bits6 (fun HT_ HW_ => ?_)
          generalize wr.drew = w33 at fO gF HB Fv Fy wC wD wE wF wG wM wN wO wP wQ hHeld ⊢
          refine pu_ HT_ 0 48 (bm 12 1) ?_
          refine pu_ HT_ 2 50 (bm 12 5) ?_
          refine pu_ HT_ 5 53 (bm 12 37) ?_
          refine pu_ HT_ 7 55 (bm 12 165) ?_
          refine ta_ HT_ HW_ 1 49 (bm 12 167) hHeld ?_
          refine pu_ HT_ 3 51 (bm 12 175) ?_
          refine ta_ HT_ HW_ 4 52 (bm 12 191) hHeld ?_
          refine ta_ HT_ HW_ 6 54 (bm 12 255) hHeld ?_
          refine pu_ HT_ 8 56 (bm 12 511) ?_
          refine ta_ HT_ HW_ 9 57 (bm 12 1023) hHeld ?_
          refine kQ (i := 10) (N := some 58) #[true, true, true, true, true, true, true, true, true, true, true, false] rfl rfl (gK HT_.out (by kernel_rfl)) (by decide) (fun K hK => ?_)
          refine iU Tryd.func24 (by kernel_rfl) rfl #[.agg #[.int .i64 ((ag af bY).f0), .int .i64 ((ag af bY).f1), .int .i64 ((ag af bY).f2), .int .i64 ((ag af bY).f3), .slice GL ((ag af bY).f4).length GM], .agg #[.int .i64 ((ag dI bY).f0), .int .i64 ((ag dI bY).f1), .int .i64 ((ag dI bY).f2), .int .i64 ((ag dI bY).f3), .slice GN ((ag dI bY).f4).length GQ]] (by rfl) rfl rfl mp_ ?_
          with_reducible refine (ih k2 (by have := HJ2.out; have := HK2.out; omega) ((ag af bY).f0) ((ag af bY).f1) ((ag af bY).f2) ((ag af bY).f3) _ _ ((ag af bY).f4) ((ag dI bY).f0) ((ag dI bY).f1) ((ag dI bY).f2) ((ag dI bY).f3) _ _ ((ag dI bY).f4) true _ ?az ?aA ?eH ?eO A29.out).mono ?_
          (case az => exact cb_ (Kd.aK Fv.out HB.out))
          (case aA => exact Nr.out)
          (case eH => exact cb_ (Kd.aK Fy.out HB.out))
          (case eO => exact Ns.out)
          rintro e w34 ⟨rfl, hb⟩
          refine ⟨_, rfl, ?_⟩
          replace fO := kb_ fO hb; replace gF := kb_ gF hb; replace HB := aa.mk (ai bl_ hb); (try clear hb)
          (try clear hb2)
          (try clear hk)
          (try clear hi)
          refine hK.out _ _ ⟨(av fO.out 0).trans rfl, (av fO.out 1).trans rfl, (av fO.out 2).trans rfl, (av fO.out 3).trans rfl, (av fO.out 4).trans rfl, (av gF.out 0).trans rfl, (av gF.out 1).trans rfl, (av gF.out 2).trans rfl, (av gF.out 3).trans rfl, (av gF.out 4).trans rfl, ((HB.out.cell (World.block_lt_of_cell? w _ wL)).trans wL), ((HB.out.cell (World.block_lt_of_cell? w _ wK)).trans wK), ((HB.out.cell (World.block_lt_of_cell? w _ wJ)).trans wJ), ((HB.out.cell (World.block_lt_of_cell? w _ wI)).trans wI), ((HB.out.cell (World.block_lt_of_cell? w _ wH)).trans wH), ((HB.out.cell (World.block_lt_of_cell? w _ wV)).trans wV), ((HB.out.cell (World.block_lt_of_cell? w _ wU)).trans wU), ((HB.out.cell (World.block_lt_of_cell? w _ wT)).trans wT), ((HB.out.cell (World.block_lt_of_cell? w _ wS)).trans wS), ((HB.out.cell (World.block_lt_of_cell? w _ wR)).trans wR)⟩ (fun hHeld => ?_)
          clear hK K; refine iT (a' := ?_) ?_ ?_
          rotate_left
          ·show Act.put _ (some 58) _ = _
           simp only [Act.put, List.setIfInBounds_toArray, List.set_cons_zero, List.set_cons_succ, dS, ek]; rfl
          refine pu_ HT_ 11 59 #[true, true, true, true, true, true, true, true, true, true, true, true] ?_
          refine sS (lC HT_.out (by kernel_rfl)) ?_
          try go_wp2
          go_roundg k2
          case measure => have := HJ2.out; have := HK2.out; omega
          case rel => exact ⟨(wrap64 (bY + 1)), rs_, H', ⟨by have := HJ2.out; have := HK2.out; omega⟩, ⟨bk_⟩, ⟨bk_⟩, ⟨bl_⟩⟩
         ·replace c30 := Bool.eq_false_iff.mpr c30; subst c30; have H1 : (some false) = some r := by rw [if_neg (show ¬ (false = true) by decide)] at H; exact H
          clear H; have H := H1; clear H1; obtain rfl := Option.some.inj H; have hnb35 := sN.out; have hnc35 := sO.out; obtain ⟨E9, Fa, Fb, Fe, Ff, Fg, Fh, Fj, Fp, Fq⟩ := bg fO.out; try go_wp2
          replace fO := aa.mk (dz fO.out); replace gF := aa.mk (dz gF.out); replace HB := aa.mk (bR HB.out); have p268 : 0 ≤ (bY : Int) := dt_; have q268 : bY < (af.length : Int) := dt_; obtain ⟨l9, GL, GM, e268, wC, wD, wE, wF, wG, Fs, Fu⟩ := dZ bu.out bY p268 q268; have wH := wG; have wI := wF; have wJ := wE; have wK := wD; have wL := wC; cases e268; replace wC := hc_ HB wC; replace wD := hc_ HB wD; replace wE := hc_ HB wE; replace wF := hc_ HB wF; replace wG := hc_ HB wG; have Fv := aa.mk Fu; have Nr := aa.mk Fs; clear Fu Fs; replace p268 := eq_true p268; replace q268 := eq_true q268; have p269 : 0 ≤ (bY : Int) := dt_; have q269 : bY < (dI.length : Int) := dt_; obtain ⟨ma, GN, GQ, e269, wM, wN, wO, wP, wQ, Fw, Fx⟩ := dZ Bh.out bY p269 q269; have wR := wQ; have wS := wP; have wT := wO; have wU := wN; have wV := wM; cases e269; replace wM := hc_ HB wM; replace wN := hc_ HB wN; replace wO := hc_ HB wO; replace wP := hc_ HB wP; replace wQ := hc_ HB wQ; have Fy := aa.mk Fx; have Ns := aa.mk Fw; clear Fx Fw; replace p269 := eq_true p269; replace q269 := eq_true q269; refine oG (n := 12) (S := fun w' => w'.cell? ⟨wz, 0, none⟩ = some (.int .i64 ah) ∧ w'.cell? ⟨wz, 1, none⟩ = some (.int .i64 au) ∧ w'.cell? ⟨wz, 2, none⟩ = some (.int .i64 aj) ∧ w'.cell? ⟨wz, 3, none⟩ = some (.int .i64 ak) ∧ w'.cell? ⟨wz, 4, none⟩ = some (.slice (some l9) af.length aH) ∧ w'.cell? ⟨wB, 0, none⟩ = some (.int .i64 fD) ∧ w'.cell? ⟨wB, 1, none⟩ = some (.int .i64 fE) ∧ w'.cell? ⟨wB, 2, none⟩ = some (.int .i64 fF) ∧ w'.cell? ⟨wB, 3, none⟩ = some (.int .i64 fG) ∧ w'.cell? ⟨wB, 4, none⟩ = some (.slice (some ma) dI.length oO) ∧ w'.cell? (l9.add ((bY).toNat * 5)) = some (.int .i64 ((ag af bY).f0)) ∧ w'.cell? ⟨(l9.add ((bY).toNat * 5)).block, (l9.add ((bY).toNat * 5)).off + 1, none⟩ = some (.int .i64 ((ag af bY).f1)) ∧ w'.cell? ⟨(l9.add ((bY).toNat * 5)).block, (l9.add ((bY).toNat * 5)).off + 2, none⟩ = some (.int .i64 ((ag af bY).f2)) ∧ w'.cell? ⟨(l9.add ((bY).toNat * 5)).block, (l9.add ((bY).toNat * 5)).off + 3, none⟩ = some (.int .i64 ((ag af bY).f3)) ∧ w'.cell? ⟨(l9.add ((bY).toNat * 5)).block, (l9.add ((bY).toNat * 5)).off + 4, none⟩ = some (.slice GL ((ag af bY).f4).length GM) ∧ w'.cell? (ma.add ((bY).toNat * 5)) = some (.int .i64 ((ag dI bY).f0)) ∧ w'.cell? ⟨(ma.add ((bY).toNat * 5)).block, (ma.add ((bY).toNat * 5)).off + 1, none⟩ = some (.int .i64 ((ag dI bY).f1)) ∧ w'.cell? ⟨(ma.add ((bY).toNat * 5)).block, (ma.add ((bY).toNat * 5)).off + 2, none⟩ = some (.int .i64 ((ag dI bY).f2)) ∧ w'.cell? ⟨(ma.add ((bY).toNat * 5)).block, (ma.add ((bY).toNat * 5)).off + 3, none⟩ = some (.int .i64 ((ag dI bY).f3)) ∧ w'.cell? ⟨(ma.add ((bY).toNat * 5)).block, (ma.add ((bY).toNat * 5)).off + 4, none⟩ = some (.slice GN ((ag dI bY).f4).length GQ)) (ds := []) #[false, false, false, false, false, false, false, false, false, false, false, false] (by kernel_rfl) rfl rfl ⟨(av fO.out 0).trans rfl, (av fO.out 1).trans rfl, (av fO.out 2).trans rfl, (av fO.out 3).trans rfl, (av fO.out 4).trans rfl, (av gF.out 0).trans rfl, (av gF.out 1).trans rfl, (av gF.out 2).trans rfl, (av gF.out 3).trans rfl, (av gF.out 4).trans rfl, ((HB.out.cell (World.block_lt_of_cell? w _ wL)).trans wL), ((HB.out.cell (World.block_lt_of_cell? w _ wK)).trans wK), ((HB.out.cell (World.block_lt_of_cell? w _ wJ)).trans wJ), ((HB.out.cell (World.block_lt_of_cell? w _ wI)).trans wI), ((HB.out.cell (World.block_lt_of_cell? w _ wH)).trans wH), ((HB.out.cell (World.block_lt_of_cell? w _ wV)).trans wV), ((HB.out.cell (World.block_lt_of_cell? w _ wU)).trans wU), ((HB.out.cell (World.block_lt_of_cell? w _ wT)).trans wT), ((HB.out.cell (World.block_lt_of_cell? w _ wS)).trans wS), ((HB.out.cell (World.block_lt_of_cell? w _ wR)).trans wR)⟩ (fun hHeld => ?_); refine iV aJ.tab6 aJ.bits6 (fun HT_ HW_ => ?_)
          generalize wr.drew = w37 at fO gF HB Fv Fy wC wD wE wF wG wM wN wO wP wQ hHeld ⊢
          refine pu_ HT_ 0 48 (bm 12 1) ?_
          refine pu_ HT_ 2 50 (bm 12 5) ?_
          refine pu_ HT_ 5 53 (bm 12 37) ?_
          refine pu_ HT_ 7 55 (bm 12 165) ?_
          refine ta_ HT_ HW_ 1 49 (bm 12 167) hHeld ?_
          refine pu_ HT_ 3 51 (bm 12 175) ?_
          refine ta_ HT_ HW_ 4 52 (bm 12 191) hHeld ?_
          refine ta_ HT_ HW_ 6 54 (bm 12 255) hHeld ?_
          refine pu_ HT_ 8 56 (bm 12 511) ?_
          refine ta_ HT_ HW_ 9 57 (bm 12 1023) hHeld ?_
          refine kQ (i := 10) (N := some 58) #[true, true, true, true, true, true, true, true, true, true, true, false] rfl rfl (gK HT_.out (by kernel_rfl)) (by decide) (fun K hK => ?_)
          refine iU Tryd.func24 (by kernel_rfl) rfl #[.agg #[.int .i64 ((ag af bY).f0), .int .i64 ((ag af bY).f1), .int .i64 ((ag af bY).f2), .int .i64 ((ag af bY).f3), .slice GL ((ag af bY).f4).length GM], .agg #[.int .i64 ((ag dI bY).f0), .int .i64 ((ag dI bY).f1), .int .i64 ((ag dI bY).f2), .int .i64 ((ag dI bY).f3), .slice GN ((ag dI bY).f4).length GQ]] (by rfl) rfl rfl mp_ ?_
          with_reducible refine (ih k2 (by have := HJ2.out; have := HK2.out; omega) ((ag af bY).f0) ((ag af bY).f1) ((ag af bY).f2) ((ag af bY).f3) _ _ ((ag af bY).f4) ((ag dI bY).f0) ((ag dI bY).f1) ((ag dI bY).f2) ((ag dI bY).f3) _ _ ((ag dI bY).f4) false _ ?az ?aA ?eH ?eO A29.out).mono ?_
          (case az => exact cb_ (Kd.aK Fv.out HB.out))
          (case aA => exact Nr.out)
          (case eH => exact cb_ (Kd.aK Fy.out HB.out))
          (case eO => exact Ns.out)
          rintro e w38 ⟨rfl, hb⟩
          refine ⟨_, rfl, ?_⟩
          replace fO := kb_ fO hb; replace gF := kb_ gF hb; replace HB := aa.mk (ai bl_ hb); (try clear hb)
          (try clear hb2)
          (try clear hk)
          (try clear hi)
          refine hK.out _ _ ⟨(av fO.out 0).trans rfl, (av fO.out 1).trans rfl, (av fO.out 2).trans rfl, (av fO.out 3).trans rfl, (av fO.out 4).trans rfl, (av gF.out 0).trans rfl, (av gF.out 1).trans rfl, (av gF.out 2).trans rfl, (av gF.out 3).trans rfl, (av gF.out 4).trans rfl, ((HB.out.cell (World.block_lt_of_cell? w _ wL)).trans wL), ((HB.out.cell (World.block_lt_of_cell? w _ wK)).trans wK), ((HB.out.cell (World.block_lt_of_cell? w _ wJ)).trans wJ), ((HB.out.cell (World.block_lt_of_cell? w _ wI)).trans wI), ((HB.out.cell (World.block_lt_of_cell? w _ wH)).trans wH), ((HB.out.cell (World.block_lt_of_cell? w _ wV)).trans wV), ((HB.out.cell (World.block_lt_of_cell? w _ wU)).trans wU), ((HB.out.cell (World.block_lt_of_cell? w _ wT)).trans wT), ((HB.out.cell (World.block_lt_of_cell? w _ wS)).trans wS), ((HB.out.cell (World.block_lt_of_cell? w _ wR)).trans wR)⟩ (fun hHeld => ?_)
          clear hK K; refine iT (a' := ?_) ?_ ?_
          rotate_left
          ·show Act.put _ (some 58) _ = _
           simp only [Act.put, List.setIfInBounds_toArray, List.set_cons_zero, List.set_cons_succ, dS, ek]; rfl
          refine pu_ HT_ 11 59 #[true, true, true, true, true, true, true, true, true, true, true, true] ?_
          refine sS (lC HT_.out (by kernel_rfl)) ?_
          try go_wp2
          go_ret; exact ⟨re_, bl_⟩
        ·rw [if_neg c28] at H; exact absurd H (by simp)
       ·rw [if_neg c27] at H; exact absurd H (by simp)
      ·rw [if_neg c26] at H; have Kg := decide_eq_false c26; clear c26; obtain rfl := Option.some.inj H; have hnb39 := sN.out; have hnc39 := sO.out; obtain ⟨PM, PN, PO, PQ, PR, PS, PT, PU, PV, PW⟩ := bg fO.out; go_wp2; go_ret; exact ⟨re_, bl_⟩

end Go.Proofs.YtggelekooacmnaaDoor.Q
namespace Go.Proofs.YtggelekooacmnaaDoor.Q
open Go.RowKit Go.Proofs.YtggelekooacmnaaDoorW.aU Go.Proofs.YtggelekooacmnaaDoorW.bD Go.Proofs.YtggelekooacmnaaDoorW.bH
attribute [local go_sem] dB dC dN dO cO cZ dD dE   -- for this text's walks alone
set_option linter.unusedVariables false
set_option linter.unusedSimpArgs false

/-! ### jX: function 18 -/
def jX.f (k : Nat) (ah : Int) (au : Int) (aj : Int) (ak : Int) (af : List (S24)) : Option ((List (S41)) × Int) := (bO.f k ah au aj ak af).bind fun t272 => (if t272 = 0 then ((aX.f k ah au aj ak af).bind fun t273 => (some (t273, 0))) else (some (([] : List (S41)), t272)))
set_option maxHeartbeats 8000000 in
set_option maxRecDepth 100000 in
theorem jX.calls (k : Nat) (ah : Int) (au : Int) (aj : Int) (ak : Int) (aM : Option Addr) (aH : Nat) (af : List (S24)) (r1 : List (S41)) (r2 : Int) (w : World) (di : Kd.C k24 w aM af.length af) (dm : af.length ≤ aH) (h : jX.f k ah au aj ak af = some (r1, r2)) :
  Calls Tryd.prog 18 #[.agg #[.int .i64 ah, .int .i64 au, .int .i64 aj, .int .i64 ak, .slice aM af.length aH]] w fun e w' => ∃ v0_ : Value, e = .returned (.tuple #[v0_, .int .i64 r2]) ∧ Kd.R k41 41 w' w.heap.size (fun _ => True) v0_ r1 ∧ Below w.heap.size w w' := by
 have mg := Tryd.underlying24; have bu := aa.mk di; have bU := aa.mk dm; clear di dm; have HB := aa.mk (Below.refl w.heap.size w); have H : ((bO.f k ah au aj ak af).bind fun t272 => (if t272 = 0 then ((aX.f k ah au aj ak af).bind fun t273 => (some (t273, 0))) else (some (([] : List (S41)), t272)))) = some (r1, r2) := h; clear h; replace H := Option.bind_eq_some_iff.mp H; obtain ⟨t272, A20, H⟩ := H; (try dsimp only at H)
 have A2 := aa.mk A20; clear A20; by_cases c3 : t272 = 0
 ·rw [if_pos c3] at H; obtain ⟨gX, jH⟩ := bq_ c3; clear c3; replace H := Option.bind_eq_some_iff.mp H; obtain ⟨t273, A40, H⟩ := H; (try dsimp only at H)
  have A4 := aa.mk A40; clear A40; simp only [Option.some.injEq, Prod.mk.injEq] at H; obtain ⟨rfl, rfl⟩ := H; go_enter Tryd.func18, Tryd.ntmps18; go_wp2_with (first | ((with_reducible refine aW (N := 1) rfl ?_); refine bf ?hg (N := 1) ?hd (cs := #[.int .i64 ah, .int .i64 au, .int .i64 aj, .int .i64 ak, .slice aM af.length aH]) (t := 24) ?hr ?_; (case hd => rfl); (case hg => rfl); (case hr => first | (go_simp; done) | (go_simp; rfl)); intro gb271 hg w5 aG hb; have Bi := aa.mk (aG); have GW271 : aa (w.heap.size ≤ gb271) := gw_ hg (ax bl_); have GE271 := GW271; replace HB := aa.mk (ai bl_ hb); clear hb aG hg; obtain ⟨kV, kW, kX, kY, kZ, lg, lh, ll, lq, lu⟩ := bg Bi.out) | ((with_reducible refine aD (f := 12) rfl ?_); refine aZ (some 6) rfl rfl Tryd.func12 (by kernel_rfl) rfl #[.agg #[.int .i64 ah, .int .i64 au, .int .i64 aj, .int .i64 ak, .slice aM af.length aH]] rfl mp_ ?_; (with_reducible refine (bO.calls k ah au aj ak _ _ af t272 _ ?az ?aA A2.out).mono ?_); (case az => exact cb_ (Kd.aK bu.out HB.out)); (case aA => exact bU.out); rintro e w7 ⟨rfl, hb⟩; refine ⟨_, rfl, ?_⟩; replace Bi := kb_ Bi hb; replace HB := aa.mk (ai bl_ hb); (try clear hb); (try clear hb2); (try clear hk); (try clear hi); obtain ⟨rP, rQ, rR, rT, rU, rV, rW, rX, rY, rZ⟩ := bg Bi.out) | ((with_reducible refine aD (f := 42) rfl ?_); refine aZ (some 11) rfl rfl Tryd.func42 (by kernel_rfl) rfl #[.agg #[.int .i64 ah, .int .i64 au, .int .i64 aj, .int .i64 ak, .slice aM af.length aH]] rfl mp_ ?_; (with_reducible refine (aX.calls k ah au aj ak _ _ af t273 _ ?az ?aA A4.out).mono ?_); (case az => exact cb_ (Kd.aK bu.out HB.out)); (case aA => exact bU.out); rintro e w9 ⟨v274, rfl, ho0, hb⟩; refine ⟨_, rfl, ?_⟩; have HO275 := aa.mk (Kd.bC ho0 (ax bl_)); replace Bi := kb_ Bi hb; replace HB := aa.mk (ai bl_ hb); (try clear hb); (try clear hb2); (try clear hk); (try clear hi); (try clear ho0)))
  go_ret2; exact ⟨_, re_, pR_ HO275.out, bl_⟩
 ·rw [if_neg c3] at H; obtain ⟨gX, jH⟩ := bn_ c3; simp only [Option.some.injEq, Prod.mk.injEq] at H; obtain ⟨rfl, rfl⟩ := H; go_enter Tryd.func18, Tryd.ntmps18; go_wp2_with (first | ((with_reducible refine aW (N := 1) rfl ?_); refine bf ?hg (N := 1) ?hd (cs := #[.int .i64 ah, .int .i64 au, .int .i64 aj, .int .i64 ak, .slice aM af.length aH]) (t := 24) ?hr ?_; (case hd => rfl); (case hg => rfl); (case hr => first | (go_simp; done) | (go_simp; rfl)); intro gb271 hg w10 aG hb; have Bi := aa.mk (aG); have GW271 : aa (w.heap.size ≤ gb271) := gw_ hg (ax bl_); have GE271 := GW271; replace HB := aa.mk (ai bl_ hb); clear hb aG hg; obtain ⟨jO, jP, jQ, ku, kv, jR, jS, jT, ky, kz⟩ := bg Bi.out) | ((with_reducible refine aD (f := 12) rfl ?_); refine aZ (some 6) rfl rfl Tryd.func12 (by kernel_rfl) rfl #[.agg #[.int .i64 ah, .int .i64 au, .int .i64 aj, .int .i64 ak, .slice aM af.length aH]] rfl mp_ ?_; (with_reducible refine (bO.calls k ah au aj ak _ _ af t272 _ ?az ?aA A2.out).mono ?_); (case az => exact cb_ (Kd.aK bu.out HB.out)); (case aA => exact bU.out); rintro e w12 ⟨rfl, hb⟩; refine ⟨_, rfl, ?_⟩; replace Bi := kb_ Bi hb; replace HB := aa.mk (ai bl_ hb); (try clear hb); (try clear hb2); (try clear hk); (try clear hi)))
  go_ret2; exact ⟨_, re_, by first | exact Kd.mh _ _ _ _ _ | exact Kd.yS _ _ _ _ _ | exact Kd.yU _ _ _ _ _ | exact Kd.yQ _ _ _ _ _ | exact Kd.yR _ _ _ _ _, bl_⟩

end Go.Proofs.YtggelekooacmnaaDoor.Q
namespace Go.Proofs.YtggelekooacmnaaDoor.Q
open Go.RowKit Go.Proofs.YtggelekooacmnaaDoorW.aU Go.Proofs.YtggelekooacmnaaDoorW.bD Go.Proofs.YtggelekooacmnaaDoorW.bH
attribute [local go_sem] dB dC dN dO cO cZ dD dE   -- for this text's walks alone
set_option linter.unusedVariables false
set_option linter.unusedSimpArgs false

attribute [local go_sem high] eqA41
/-! ### dh: function 19 -/
def dh.l0 : Nat → List (S41) → List (S41) → Int → Option (Bool)
  | 0, _, _, _ => none
  | k + 1, x0, x1, x5 => if x5 < (x0.length : Int) then (if 0 ≤ x5 then (if x5 < (x1.length : Int) then (if (!(((dH x0 x5).f0) == ((dH x1 x5).f0)) || (!(((dH x0 x5).f1) == ((dH x1 x5).f1)) || (!(((dH x0 x5).f2) == ((dH x1 x5).f2))))) = true then (some false) else (dh.l0 k x0 x1 (wrap64 (x5 + 1)))) else (none)) else (none)) else (some true)
def dh.f (k : Nat) (l0 : List (S41)) (l1 : List (S41)) : Option (Bool) := if (l0.length : Int) = (l1.length : Int) then (dh.l0 k l0 l1 0) else (some false)
set_option maxHeartbeats 8000000 in
set_option maxRecDepth 100000 in
theorem dh.calls (k : Nat) (A0 : Option Addr) (c0 : Nat) (l0 : List (S41)) (A1 : Option Addr) (c1 : Nat) (l1 : List (S41)) (r : Bool) (w : World) (hr0 : Kd.C k41 w A0 l0.length l0) (hc0 : l0.length ≤ c0) (hr1 : Kd.C k41 w A1 l1.length l1) (hc1 : l1.length ≤ c1) (h : dh.f k l0 l1 = some r) :
    Calls Tryd.prog 19 #[.slice A0 l0.length c0, .slice A1 l1.length c1] w fun e w' => e = .returned (.bool r) ∧ jF w w' := by
  have hu41 := Tryd.underlying41
  have HR0 := aa.mk hr0
  have HC0 := aa.mk hc0
  clear hr0 hc0
  have HR1 := aa.mk hr1
  have HC1 := aa.mk hc1
  clear hr1 hc1
  have H : (if (l0.length : Int) = (l1.length : Int) then (dh.l0 k l0 l1 0) else (some false)) = some r := h
  clear h
  by_cases c3 : (l0.length : Int) = (l1.length : Int)
  · rw [if_pos c3] at H
    have gX : ((l0.length : Int) == (l1.length : Int)) = true := beq_iff_eq.mpr c3
    have jH : ((l0.length : Int) != (l1.length : Int)) = false := bne_eq_false_iff_eq.mpr c3
    have c3b2 : (l0.length == l1.length) = true := by first | simpa using c3 | (simp at c3 ⊢; omega)
    clear c3
    have H' := aa.mk H
    clear H
    go_enter Tryd.func19, Tryd.ntmps19
    go_wp2
    repeat (go_quiet (fail); try go_wp2)
    go_loopg [5] k (fun kq v5 w' => ∃ (bZ : Int), v5 = .int .i64 bZ ∧ aa (dh.l0 kq l0 l1 bZ = some r) ∧ aa (kq ≤ k) ∧ jF w w')
    case atStart => exact ⟨(0), (by first | rfl | (simp; done) | (simp [*]; done)), H', ⟨Nat.le_refl _⟩, by repeat (first | exact jF.refl _ | apply jF.step)⟩
    case round =>
      clear H'
      try clear c1
      try clear p2
      try clear c3
      try clear gX
      try clear jH
      try clear c3b2
      obtain ⟨bZ, rfl, HA, HK1, ⟨m1, rfl⟩⟩ := hrel
      cases gk with
      | zero => exact absurd HA.out (by simp [dh.l0])
      | succ k1 =>
        have H := HA.out
        clear HA
        simp only [dh.l0] at H
        by_cases c4 : bZ < (l0.length : Int)
        · rw [if_pos c4] at H
          have nK : decide (bZ < (l0.length : Int)) = true := decide_eq_true c4
          clear c4
          by_cases c5 : 0 ≤ bZ
          · rw [if_pos c5] at H
            have gQ : decide (0 ≤ bZ) = true := decide_eq_true c5
            clear c5
            by_cases c6 : bZ < (l1.length : Int)
            · rw [if_pos c6] at H
              have uT : decide (bZ < (l1.length : Int)) = true := decide_eq_true c6
              clear c6
              by_cases c7 : (!(((dH l0 bZ).f0) == ((dH l1 bZ).f0)) || (!(((dH l0 bZ).f1) == ((dH l1 bZ).f1)) || (!(((dH l0 bZ).f2) == ((dH l1 bZ).f2))))) = true
              · rw [if_pos c7] at H
                have jM : (!(((dH l0 bZ).f0) == ((dH l1 bZ).f0)) || (!(((dH l0 bZ).f1) == ((dH l1 bZ).f1)) || (!(((dH l0 bZ).f2) == ((dH l1 bZ).f2))))) = true := c7
                clear c7
                obtain rfl := Option.some.inj H
                have p276 : 0 ≤ (bZ : Int) := of_decide_eq_true (by first | (with_reducible assumption) | assumption)
                have q276 : bZ < (l0.length : Int) := of_decide_eq_true (by first | (with_reducible assumption) | assumption)
                obtain ⟨ad276, e276, hx276_0, hx276_1, hx276_2⟩ := Ew HR0.out bZ p276 q276
                cases e276
                replace p276 := eq_true p276
                replace q276 := eq_true q276
                have p277 : 0 ≤ (bZ : Int) := of_decide_eq_true (by first | (with_reducible assumption) | assumption)
                have q277 : bZ < (l1.length : Int) := of_decide_eq_true (by first | (with_reducible assumption) | assumption)
                obtain ⟨ad277, e277, hx277_0, hx277_1, hx277_2⟩ := Ew HR1.out bZ p277 q277
                cases e277
                replace p277 := eq_true p277
                replace q277 := eq_true q277
                go_wp2
                repeat (go_quiet (fail); try go_wp2)
                go_ret
                exact ⟨by first | rfl | (simp; done) | (simp [*]; done), by repeat (first | exact jF.refl _ | apply jF.step)⟩
              · rw [if_neg c7] at H
                have jM : (!(((dH l0 bZ).f0) == ((dH l1 bZ).f0)) || (!(((dH l0 bZ).f1) == ((dH l1 bZ).f1)) || (!(((dH l0 bZ).f2) == ((dH l1 bZ).f2))))) = false := by simpa using c7
                clear c7
                have H' := aa.mk H
                clear H
                have p276 : 0 ≤ (bZ : Int) := of_decide_eq_true (by first | (with_reducible assumption) | assumption)
                have q276 : bZ < (l0.length : Int) := of_decide_eq_true (by first | (with_reducible assumption) | assumption)
                obtain ⟨ad276, e276, hx276_0, hx276_1, hx276_2⟩ := Ew HR0.out bZ p276 q276
                cases e276
                replace p276 := eq_true p276
                replace q276 := eq_true q276
                have p277 : 0 ≤ (bZ : Int) := of_decide_eq_true (by first | (with_reducible assumption) | assumption)
                have q277 : bZ < (l1.length : Int) := of_decide_eq_true (by first | (with_reducible assumption) | assumption)
                obtain ⟨ad277, e277, hx277_0, hx277_1, hx277_2⟩ := Ew HR1.out bZ p277 q277
                cases e277
                replace p277 := eq_true p277
                replace q277 := eq_true q277
                go_wp2
                repeat (go_quiet (fail); try go_wp2)
                go_roundg k1
                case measure => have := HK1.out; omega
                case rel => exact ⟨(wrap64 (bZ + 1)), (by first | rfl | (simp; done) | (simp [*]; done)), H', ⟨by have := HK1.out; omega⟩, by repeat (first | exact jF.refl _ | apply jF.step)⟩
            · rw [if_neg c6] at H
              exact absurd H (by simp)
          · rw [if_neg c5] at H
            exact absurd H (by simp)
        · rw [if_neg c4] at H
          have nK : decide (bZ < (l0.length : Int)) = false := decide_eq_false c4
          clear c4
          obtain rfl := Option.some.inj H
          go_wp2
          repeat (go_quiet (fail); try go_wp2)
          go_ret
          exact ⟨by first | rfl | (simp; done) | (simp [*]; done), by repeat (first | exact jF.refl _ | apply jF.step)⟩
  · rw [if_neg c3] at H
    have gX : ((l0.length : Int) == (l1.length : Int)) = false := beq_eq_false_iff_ne.mpr c3
    have jH : ((l0.length : Int) != (l1.length : Int)) = true := bne_iff_ne.mpr c3
    have c3b2 : (l0.length == l1.length) = false := by first | simpa using c3 | (simp at c3 ⊢; omega)
    obtain rfl := Option.some.inj H
    go_enter Tryd.func19, Tryd.ntmps19
    go_wp2
    repeat (go_quiet (fail); try go_wp2)
    go_ret
    exact ⟨by first | rfl | (simp; done) | (simp [*]; done), by repeat (first | exact jF.refl _ | apply jF.step)⟩

end Go.Proofs.YtggelekooacmnaaDoor.Q
namespace Go.Proofs.YtggelekooacmnaaDoor.Q
open Go.RowKit Go.Proofs.YtggelekooacmnaaDoorW.aU Go.Proofs.YtggelekooacmnaaDoorW.bD Go.Proofs.YtggelekooacmnaaDoorW.bH
attribute [local go_sem] dB dC dN dO cO cZ dD dE   -- for this text's walks alone
set_option linter.unusedVariables false
set_option linter.unusedSimpArgs false

/-! ### bV: function 45 -/
mutual
def bV.l0 : Nat → Int → Int → Int → Int → Int → Int → Int → List (S24) → Option (Int)
 | 0, _, _, _, _, _, _, _, _ => none
 | k + 1, x1, x5, x6, x279000, x279001, x279002, x279003, Ao => if x6 < (Ao.length : Int) then (if 0 ≤ x6 then ((bV.f k ((ag Ao x6).f0) ((ag Ao x6).f1) ((ag Ao x6).f2) ((ag Ao x6).f3) ((ag Ao x6).f4) (wrap64 (x1 - 1))).bind fun t280 => (bV.l0 k x1 (mx x5 t280) (wrap64 (x6 + 1)) x279000 x279001 x279002 x279003 Ao)) else (none)) else (some (mn (wrap64 (x5 + 1)) x1))
def bV.f : Nat → Int → Int → Int → Int → List (S24) → Int → Option (Int)
 | 0, _, _, _, _, _, _ => none
 | k + 1, ah, au, aj, ak, af, a1 => if a1 > 1 then (bV.l0 k a1 0 0 ah au aj ak af) else (if (af.length : Int) > 0 then (some a1) else (some (mn (0 + 1) a1)))
end
set_option maxHeartbeats 8000000 in
set_option maxRecDepth 100000 in
theorem bV.calls (k : Nat) : ∀ (ah : Int) (au : Int) (aj : Int) (ak : Int) (aM : Option Addr) (aH : Nat) (af : List (S24)) (a1 : Int) (r : Int) (w : World) (di : Kd.C k24 w aM af.length af) (dm : af.length ≤ aH) (h : bV.f k ah au aj ak af a1 = some r),
  Calls Tryd.prog 45 #[.agg #[.int .i64 ah, .int .i64 au, .int .i64 aj, .int .i64 ak, .slice aM af.length aH], .int .i64 a1] w fun e w' => e = .returned (.int .i64 r) ∧ Below w.heap.size w w' := by
 induction k using Nat.strongRecOn with
 | _ k ih =>
 intro ah au aj ak aM aH af a1 r w di dm h; cases k with
 | zero => exact absurd h (by simp [bV.f])
 | succ k =>
 simp only [bV.f] at h; have mg := Tryd.underlying24; have bu := aa.mk di; have bU := aa.mk dm; clear di dm; have HB := aa.mk (Below.refl w.heap.size w); have H : (if a1 > 1 then (bV.l0 k a1 0 0 ah au aj ak af) else (if (af.length : Int) > 0 then (some a1) else (some (mn (0 + 1) a1)))) = some r := h; clear h; by_cases c3 : a1 > 1
 ·rw [if_pos c3] at H; have gX : decide (1 < a1) = true := decide_eq_true c3; clear c3; have H' := aa.mk H; clear H; go_enter Tryd.func45, Tryd.ntmps45; go_wp2_with (first | ((with_reducible refine aW (N := 2) rfl ?_); refine bf ?hg (N := 2) ?hd (cs := #[.int .i64 ah, .int .i64 au, .int .i64 aj, .int .i64 ak, .slice aM af.length aH]) (t := 24) ?hr ?_; (case hd => rfl); (case hg => rfl); (case hr => first | (go_simp; done) | (go_simp; rfl)); intro IJ hg w4 aG hb; have BP := aa.mk (aG); have Ko : aa (w.heap.size ≤ IJ) := gw_ hg (ax bl_); have GE278 := Ko; replace HB := aa.mk (ai bl_ hb); clear hb aG hg))
  go_loopg [5, 6] k (fun kq v5 v6 w' => ∃ (bZ : Int) (eY : Int), v5 = .int .i64 bZ ∧ v6 = .int .i64 eY ∧ aa (bV.l0 kq a1 bZ eY ah au aj ak af = some r) ∧ aa (kq ≤ k) ∧ aa (w'.heap[IJ]? = some (.cells #[.int .i64 ah, .int .i64 au, .int .i64 aj, .int .i64 ak, (.slice aM af.length aH)] 24 (0, 0))) ∧ aa (Below w.heap.size w w'))
  case atStart => exact ⟨(0), (0), rs_, rs_, H', ⟨Nat.le_refl _⟩, ⟨bk_⟩, ⟨bl_⟩⟩
  case round =>
   clear H'; (try clear p2); (try clear c3); (try clear gX); (try clear c4); obtain ⟨bZ, eY, rfl, rfl, HA, HK1, BP, HB⟩ := hrel; cases gk with
   | zero => exact absurd HA.out (by simp [bV.l0])
   | succ k1 =>
    have H := HA.out; clear HA; simp only [bV.l0] at H; by_cases c5 : eY < (af.length : Int)
    ·rw [if_pos c5] at H; have gQ := decide_eq_true c5; clear c5; by_cases c6 : 0 ≤ eY
     ·rw [if_pos c6] at H; have uT := decide_eq_true c6; clear c6; replace H := Option.bind_eq_some_iff.mp H; obtain ⟨t280, A70, H⟩ := H; (try dsimp only at H)
      have A7 := aa.mk A70; clear A70; obtain ⟨ji8, CY⟩ : ∃ j_ : Int, (mx bZ t280) = j_ := ⟨_, rfl⟩; replace H : (bV.l0 k1 a1 ji8 (wrap64 (eY + 1)) ah au aj ak af) = some r := by first | (rw [CY] at H; exact H) | (simp only [CY] at H ⊢; exact H)
      (try rw [CY] at A7)
      have hji8_ : (if bZ < t280 then t280 else bZ) = ji8 := CY; have H' := aa.mk H; clear H; obtain ⟨tC, tF, tH, uZ, u6, tJ, tK, tL, u7, vk⟩ := bg BP.out; have p279 : 0 ≤ (eY : Int) := dt_; have q279 : eY < (af.length : Int) := dt_; obtain ⟨ad279, A279_4, c279_4, e279, Qv, Qw, Qx, Qy, Qz, QA, QB⟩ := dZ bu.out eY p279 q279; cases e279; replace Qv := hc_ HB Qv; replace Qw := hc_ HB Qw; replace Qx := hc_ HB Qx; replace Qy := hc_ HB Qy; replace Qz := hc_ HB Qz; have HR279_4 := aa.mk QB; have HC279_4 := aa.mk QA; clear QB QA; replace p279 := eq_true p279; replace q279 := eq_true q279; go_wp2_with (first | ((with_reducible refine aD (f := 45) rfl ?_); refine aZ (some 24) rfl rfl Tryd.func45 (by kernel_rfl) rfl #[.agg #[.int .i64 ((ag af eY).f0), .int .i64 ((ag af eY).f1), .int .i64 ((ag af eY).f2), .int .i64 ((ag af eY).f3), .slice A279_4 ((ag af eY).f4).length c279_4], .int .i64 (wrap64 (a1 - 1))] rfl mp_ ?_; (with_reducible refine (ih k1 (by have := HK1.out; omega) ((ag af eY).f0) ((ag af eY).f1) ((ag af eY).f2) ((ag af eY).f3) _ _ ((ag af eY).f4) (wrap64 (a1 - 1)) t280 _ ?az ?aA A7.out).mono ?_); (case az => exact cb_ (Kd.aK HR279_4.out HB.out)); (case aA => exact HC279_4.out); rintro e w10 ⟨rfl, hb⟩; refine ⟨_, rfl, ?_⟩; replace BP := kb_ BP hb; replace HB := aa.mk (ai bl_ hb); (try clear hb); (try clear hb2); (try clear hk); (try clear hi)))
      go_roundg k1
      case measure => have := HK1.out; omega
      case rel => exact ⟨(ji8), (wrap64 (eY + 1)), (by first | rfl | (simp; done) | (simp only [← CY] <;> (first | rfl | simp)) | (simp [*]; done)), rs_, H', ⟨by have := HK1.out; omega⟩, ⟨bk_⟩, ⟨bl_⟩⟩
     ·rw [if_neg c6] at H; exact absurd H (by simp)
    ·rw [if_neg c5] at H; have gQ := decide_eq_false c5; clear c5; obtain ⟨ji11, Eh⟩ : ∃ j_ : Int, (mn (wrap64 (bZ + 1)) a1) = j_ := ⟨_, rfl⟩; replace H : (some ji11) = some r := by first | (rw [Eh] at H; exact H) | (simp only [Eh] at H ⊢; exact H)
     have hji11_ : (if a1 < (wrap64 (bZ + 1)) then a1 else (wrap64 (bZ + 1))) = ji11 := Eh; obtain rfl := Option.some.inj H; obtain ⟨rz, rA, rC, rD, rE, rF, rG, rH, rJ, rM⟩ := bg BP.out; go_wp2; all_goals go_ret
     all_goals exact ⟨by first | rfl | (simp [eT, eU] <;> rfl) | (simp only [← Eh]; first | rfl | (simp [eT, eU] <;> rfl)) | (simp; rw [← Eh]; (first | unfold mn | unfold mx); split <;> omega) | (simp; (first | unfold mn at Eh | unfold mx at Eh); split at Eh <;> omega) | (simp [*, eT, eU] <;> rfl), bl_⟩
 ·rw [if_neg c3] at H; have gX : decide (1 < a1) = false := decide_eq_false c3; clear c3; by_cases c13 : (af.length : Int) > 0
  ·rw [if_pos c13] at H; have mV : decide (0 < (af.length : Int)) = true := decide_eq_true c13; have c13b1 : decide (0 < af.length) = true := decide_eq_true (by omega); clear c13; obtain rfl := Option.some.inj H; go_enter Tryd.func45, Tryd.ntmps45; go_wp2_with (first | ((with_reducible refine aW (N := 2) rfl ?_); refine bf ?hg (N := 2) ?hd (cs := #[.int .i64 ah, .int .i64 au, .int .i64 aj, .int .i64 ak, .slice aM af.length aH]) (t := 24) ?hr ?_; (case hd => rfl); (case hg => rfl); (case hr => first | (go_simp; done) | (go_simp; rfl)); intro IJ hg w14 aG hb; have BP := aa.mk (aG); have Ko : aa (w.heap.size ≤ IJ) := gw_ hg (ax bl_); have GE278 := Ko; replace HB := aa.mk (ai bl_ hb); clear hb aG hg; obtain ⟨nA, nC, nD, qb, qc, nE, nG, nH, qd, qf⟩ := bg BP.out))
   go_ret; exact ⟨re_, bl_⟩
  ·rw [if_neg c13] at H; have mV : decide (0 < (af.length : Int)) = false := decide_eq_false c13; have c13b1 : decide (0 < af.length) = false := decide_eq_false (by omega); clear c13; obtain ⟨ji16, uP⟩ : ∃ j_ : Int, (mn (0 + 1) a1) = j_ := ⟨_, rfl⟩; replace H : (some ji16) = some r := by first | (rw [uP] at H; exact H) | (simp only [uP] at H ⊢; exact H)
   (try (have hji16h : ji16 ≤ 1 := by (rw [← uP]; unfold mn; (repeat' split) <;> omega)))
   (try (have hji16g : ji16 ≤ 64 := by omega))
   have hji16_ : (if a1 < (0 + 1) then a1 else (0 + 1)) = ji16 := uP; obtain rfl := Option.some.inj H; go_enter Tryd.func45, Tryd.ntmps45; go_wp2_with (first | ((with_reducible refine aW (N := 2) rfl ?_); refine bf ?hg (N := 2) ?hd (cs := #[.int .i64 ah, .int .i64 au, .int .i64 aj, .int .i64 ak, .slice aM af.length aH]) (t := 24) ?hr ?_; (case hd => rfl); (case hg => rfl); (case hr => first | (go_simp; done) | (go_simp; rfl)); intro IJ hg w17 aG hb; have BP := aa.mk (aG); have Ko : aa (w.heap.size ≤ IJ) := gw_ hg (ax bl_); have GE278 := Ko; replace HB := aa.mk (ai bl_ hb); clear hb aG hg; obtain ⟨mq, mr, mD, og, oh, mE, mF, mG, om, oo⟩ := bg BP.out))
   all_goals go_ret
   all_goals exact ⟨by first | rfl | (simp [eT, eU] <;> rfl) | (simp only [← uP]; first | rfl | (simp [eT, eU] <;> rfl)) | (simp; rw [← uP]; (first | unfold mn | unfold mx); split <;> omega) | (simp; (first | unfold mn at uP | unfold mx at uP); split at uP <;> omega) | (simp [*, eT, eU] <;> rfl), bl_⟩

end Go.Proofs.YtggelekooacmnaaDoor.Q
namespace Go.Proofs.YtggelekooacmnaaDoor.Q
open Go.RowKit Go.Proofs.YtggelekooacmnaaDoorW.aU Go.Proofs.YtggelekooacmnaaDoorW.bD Go.Proofs.YtggelekooacmnaaDoorW.bH
attribute [local go_sem] dB dC dN dO cO cZ dD dE   -- for this text's walks alone
set_option linter.unusedVariables false
set_option linter.unusedSimpArgs false

/-! ### aC: function 46 -/
mutual
def aC.j0 : Nat → Int → Bool → Int → Int → Int → Int → List (S24) → Option (Int)
 | 0, _, _, _, _, _, _, _ => none
 | k + 1, x3, x14, ic, gN, gP, gG, ed => if x14 = true then (some 14) else (if x3 = 2 then (if x3 = 6 then (if x3 < 5 then (aC.j1 k x3 (decide ((ed.length : Int) > 0)) ic gN gP gG ed) else (aC.j1 k x3 false ic gN gP gG ed)) else (if gG = 0 then (if x3 < 5 then (aC.j1 k x3 (decide ((ed.length : Int) > 0)) ic gN gP gG ed) else (aC.j1 k x3 false ic gN gP gG ed)) else (aC.j1 k x3 true ic gN gP gG ed))) else (if gN = 0 then (if gP = 0 then (if x3 = 6 then (if x3 < 5 then (aC.j1 k x3 (decide ((ed.length : Int) > 0)) ic gN gP gG ed) else (aC.j1 k x3 false ic gN gP gG ed)) else (if gG = 0 then (if x3 < 5 then (aC.j1 k x3 (decide ((ed.length : Int) > 0)) ic gN gP gG ed) else (aC.j1 k x3 false ic gN gP gG ed)) else (aC.j1 k x3 true ic gN gP gG ed))) else (aC.j1 k x3 true ic gN gP gG ed)) else (aC.j1 k x3 true ic gN gP gG ed)))
def aC.j1 : Nat → Int → Bool → Int → Int → Int → Int → List (S24) → Option (Int)
 | 0, _, _, _, _, _, _, _ => none
 | k + 1, x3, x45, ic, gN, gP, gG, ed => if x45 = true then (some 2) else (if x3 = 2 then (if gN < (-1000) then (some 1) else (if gN > gP then (some 1) else (if gP > 1000 then (some 1) else (some 0)))) else (if x3 = 5 then (if (ed.length : Int) < 2 then (aC.j2 k true ic gN gP gG ed) else (aC.j2 k (decide ((ed.length : Int) > 4)) ic gN gP gG ed)) else (if x3 = 6 then (if gG < 1 then (aC.j4 k true ic gN gP gG ed) else (aC.j4 k (decide (gG > 4)) ic gN gP gG ed)) else (some 0))))
def aC.j2 : Nat → Bool → Int → Int → Int → Int → List (S24) → Option (Int)
 | 0, _, _, _, _, _, _ => none
 | k + 1, x75, ic, gN, gP, gG, ed => if x75 = true then (some 1) else (aC.l0 k 0 ic gN gP gG ed)
def aC.l0 : Nat → Int → Int → Int → Int → Int → List (S24) → Option (Int)
 | 0, _, _, _, _, _, _ => none
 | k + 1, x4, ic, gN, gP, gG, ed => if x4 < (ed.length : Int) then (if 0 ≤ x4 then ((aC.f k ((ag ed x4).f0) ((ag ed x4).f1) ((ag ed x4).f2) ((ag ed x4).f3) ((ag ed x4).f4)).bind fun t283 => (if t283 = 0 then (if ((ag ed x4).f0) = 3 then (some 8) else (if ((ag ed x4).f0) = 4 then (some 8) else (aC.l0 k (wrap64 (x4 + 1)) ic gN gP gG ed))) else (some t283))) else (none)) else (some 0)
def aC.j4 : Nat → Bool → Int → Int → Int → Int → List (S24) → Option (Int)
 | 0, _, _, _, _, _, _ => none
 | k + 1, x117, ic, gN, gP, gG, ed => if x117 = true then (some 1) else (if (ed.length : Int) = 1 then (if 0 < (ed.length : Int) then ((aC.f k ((ag ed 0).f0) ((ag ed 0).f1) ((ag ed 0).f2) ((ag ed 0).f3) ((ag ed 0).f4)).bind fun Dn => (if Dn = 0 then (if ((ag ed 0).f0) = 1 then (some 0) else (if ((ag ed 0).f0) = 2 then (some 0) else (some 8))) else (some Dn))) else (none)) else (some 2))
def aC.f : Nat → Int → Int → Int → Int → List (S24) → Option (Int)
 | 0, _, _, _, _, _ => none
 | k + 1, ah, au, aj, ak, af => if ah < 1 then (aC.j0 k ah true ah au aj ak af) else (aC.j0 k ah (decide (ah > 6)) ah au aj ak af)
end
set_option maxHeartbeats 8000000 in
set_option maxRecDepth 100000 in
theorem aC.calls (k : Nat) : ∀ (ah : Int) (au : Int) (aj : Int) (ak : Int) (aM : Option Addr) (aH : Nat) (af : List (S24)) (r : Int) (w : World) (di : Kd.C k24 w aM af.length af) (dm : af.length ≤ aH) (h : aC.f k ah au aj ak af = some r),
  Calls Tryd.prog 46 #[.agg #[.int .i64 ah, .int .i64 au, .int .i64 aj, .int .i64 ak, .slice aM af.length aH]] w fun e w' => e = .returned (.int .i64 r) ∧ Below w.heap.size w w' := by
 induction k using Nat.strongRecOn with
 | _ k ih =>
 intro ah au aj ak aM aH af r w di dm h; cases k with
 | zero => exact absurd h (by simp [aC.f])
 | succ k =>
 simp only [aC.f] at h; have mg := Tryd.underlying24; have bu := aa.mk di; have bU := aa.mk dm; clear di dm; have HB := aa.mk (Below.refl w.heap.size w); have H : (if ah < 1 then (aC.j0 k ah true ah au aj ak af) else (aC.j0 k ah (decide (ah > 6)) ah au aj ak af)) = some r := h; clear h; have HC2 := aa.mk H; clear H; go_enter Tryd.func46, Tryd.ntmps46; go_upto_region 2 with (first | ((with_reducible refine aW (N := 1) rfl ?_); (try (refine fT (by rfl) ?_; dsimp only)); refine bf ?hg (N := 1) ?hd (cs := #[.int .i64 ah, .int .i64 au, .int .i64 aj, .int .i64 ak, .slice aM af.length aH]) (t := 24) ?hr ?_; (case hd => rfl); (case hg => rfl); (case hr => first | (go_simp; done) | (go_simp; rfl)); intro IK hg w3 aG hb; have eQ := aa.mk (aG); have GW281 : aa (w.heap.size ≤ IK) := gw_ hg (ax bl_); have GE281 := GW281; replace HB := aa.mk (ai bl_ hb); clear hb aG hg; obtain ⟨iA, iB, iC, iD, iE, iF, iG, iH, iI, iJ⟩ := bg eQ.out))
 (try simp only [Act.put, List.setIfInBounds_toArray, List.set_cons_zero, List.set_cons_succ])
 go_cut [14] (fun v14 wc => ∃ (kq : Nat) (x14_1 : Bool), v14 = .bool x14_1 ∧ aa (aC.j0 kq ah x14_1 ah au aj ak af = some r) ∧ aa (kq ≤ k) ∧ aa (wc.heap[IK]? = some (.cells #[.int .i64 ah, .int .i64 au, .int .i64 aj, .int .i64 ak, (.slice aM af.length aH)] 24 (0, 0))) ∧ aa (Below w.heap.size w wc))
 case first =>
  have H := HC2.out; clear HC2; by_cases c5 : ah < 1
  ·rw [if_pos c5] at H; have gQ := decide_eq_true c5; clear c5; (first | rw [gQ] | (simp only [dS, ek]; rw [gQ]) | skip)
   have H' := aa.mk H; clear H; go_wp2; go_meet
   case rel => exact ⟨_, (true), rs_, H', ⟨by first | omega | exact Nat.le_refl _⟩, ⟨bk_⟩, ⟨bl_⟩⟩
  ·rw [if_neg c5] at H; have gQ := decide_eq_false c5; clear c5; (first | rw [gQ] | (simp only [dS, ek]; rw [gQ]) | skip)
   have H' := aa.mk H; clear H; go_wp2; go_meet
   case rel => exact ⟨_, (decide (ah > 6)), rs_, H', ⟨by first | omega | exact Nat.le_refl _⟩, ⟨bk_⟩, ⟨bl_⟩⟩
 case rest =>
  clear HC2; (try clear p2); (try clear c4); (try clear c5); (try clear gQ); (try clear iA iB iC iD iE iF iG iH iI iJ); obtain ⟨kq, x14_1, rfl, HA, HJ1, eQ, HB⟩ := hcut; cases kq with
  | zero => exact absurd HA.out (by simp [aC.j0])
  | succ kj1 =>
   have H := HA.out; clear HA; simp only [aC.j0] at H; by_cases c6 : x14_1 = true
   ·subst c6; have H1 : (some 14) = some r := by rw [if_pos rfl] at H; exact H
    clear H; have H := H1; clear H1; obtain rfl := Option.some.inj H; go_wp2; go_ret; exact ⟨re_, bl_⟩
   ·replace c6 := Bool.eq_false_iff.mpr c6; subst c6; have H1 : (if ah = 2 then (if ah = 6 then (if ah < 5 then (aC.j1 kj1 ah (decide ((af.length : Int) > 0)) ah au aj ak af) else (aC.j1 kj1 ah false ah au aj ak af)) else (if ak = 0 then (if ah < 5 then (aC.j1 kj1 ah (decide ((af.length : Int) > 0)) ah au aj ak af) else (aC.j1 kj1 ah false ah au aj ak af)) else (aC.j1 kj1 ah true ah au aj ak af))) else (if au = 0 then (if aj = 0 then (if ah = 6 then (if ah < 5 then (aC.j1 kj1 ah (decide ((af.length : Int) > 0)) ah au aj ak af) else (aC.j1 kj1 ah false ah au aj ak af)) else (if ak = 0 then (if ah < 5 then (aC.j1 kj1 ah (decide ((af.length : Int) > 0)) ah au aj ak af) else (aC.j1 kj1 ah false ah au aj ak af)) else (aC.j1 kj1 ah true ah au aj ak af))) else (aC.j1 kj1 ah true ah au aj ak af)) else (aC.j1 kj1 ah true ah au aj ak af))) = some r := by rw [if_neg (show ¬ (false = true) by decide)] at H; exact H
    clear H; have H := H1; clear H1; have HC7 := aa.mk H; clear H; go_upto_region 4 with (fail)
    go_cut [45] (fun v45 wc => ∃ (kq : Nat) (x45_6 : Bool), v45 = .bool x45_6 ∧ aa (aC.j1 kq ah x45_6 ah au aj ak af = some r) ∧ aa (kq ≤ kj1) ∧ aa (wc.heap[IK]? = some (.cells #[.int .i64 ah, .int .i64 au, .int .i64 aj, .int .i64 ak, (.slice aM af.length aH)] 24 (0, 0))) ∧ aa (Below w.heap.size w wc))
    case first =>
     have H := HC7.out; clear HC7; by_cases c8 : ah = 2
     ·rw [if_pos c8] at H; obtain ⟨gH, jv⟩ := bq_ c8; clear c8; (first | rw [gH] | (simp only [dS, ek]; rw [gH]) | skip)
      by_cases c9 : ah = 6
      ·rw [if_pos c9] at H; obtain ⟨qE, uJ⟩ := bq_ c9; clear c9; by_cases c10 : ah < 5
       ·rw [if_pos c10] at H; have ig := decide_eq_true c10; clear c10; have H' := aa.mk H; clear H; obtain ⟨jO, jP, jQ, ku, kv, jR, jS, jT, ky, kz⟩ := bg eQ.out; go_wp2; go_meet
        case rel => exact ⟨_, (decide ((af.length : Int) > 0)), rs_, H', ⟨by have := HJ1.out; first | omega | exact Nat.le_refl _⟩, ⟨bk_⟩, ⟨bl_⟩⟩
       ·rw [if_neg c10] at H; have ig := decide_eq_false c10; clear c10; have H' := aa.mk H; clear H; go_wp2; go_meet
        case rel => exact ⟨_, (false), rs_, H', ⟨by have := HJ1.out; first | omega | exact Nat.le_refl _⟩, ⟨bk_⟩, ⟨bl_⟩⟩
      ·rw [if_neg c9] at H; obtain ⟨qE, uJ⟩ := bn_ c9; by_cases c12 : ak = 0
       ·rw [if_pos c12] at H; obtain ⟨uN, zf⟩ := bq_ c12; clear c12; by_cases c13 : ah < 5
        ·rw [if_pos c13] at H; have mV := decide_eq_true c13; clear c13; have H' := aa.mk H; clear H; obtain ⟨ja, jb, jc, jd, je, jf, jg, jh, ji, jk⟩ := bg eQ.out; go_wp2; go_meet
         case rel => exact ⟨_, (decide ((af.length : Int) > 0)), rs_, H', ⟨by have := HJ1.out; first | omega | exact Nat.le_refl _⟩, ⟨bk_⟩, ⟨bl_⟩⟩
        ·rw [if_neg c13] at H; have mV := decide_eq_false c13; clear c13; have H' := aa.mk H; clear H; obtain ⟨nA, nC, nD, qb, qc, nE, nG, nH, qd, qf⟩ := bg eQ.out; go_wp2; go_meet
         case rel => exact ⟨_, (false), rs_, H', ⟨by have := HJ1.out; first | omega | exact Nat.le_refl _⟩, ⟨bk_⟩, ⟨bl_⟩⟩
       ·rw [if_neg c12] at H; obtain ⟨uN, zf⟩ := bn_ c12; have H' := aa.mk H; clear H; obtain ⟨kC, kD, kE, o8, o9, kF, kG, kH, pg, pq⟩ := bg eQ.out; go_wp2; go_meet
        case rel => exact ⟨_, (true), rs_, H', ⟨by have := HJ1.out; first | omega | exact Nat.le_refl _⟩, ⟨bk_⟩, ⟨bl_⟩⟩
     ·rw [if_neg c8] at H; obtain ⟨gH, jv⟩ := bn_ c8; (first | rw [gH] | (simp only [dS, ek]; rw [gH]) | skip)
      by_cases c17 : au = 0
      ·rw [if_pos c17] at H; obtain ⟨l8, sV⟩ := bq_ c17; clear c17; by_cases c18 : aj = 0
       ·rw [if_pos c18] at H; obtain ⟨qH, zi⟩ := bq_ c18; clear c18; by_cases c19 : ah = 6
        ·rw [if_pos c19] at H; obtain ⟨IL, Kq⟩ := bq_ c19; clear c19; by_cases c20 : ah < 5
         ·rw [if_pos c20] at H; have qJ := decide_eq_true c20; clear c20; have H' := aa.mk H; clear H; obtain ⟨kI, kJ, kK, pJ, pK, kL, kM, kN, pM, pO⟩ := bg eQ.out; go_wp2; go_meet
          case rel => exact ⟨_, (decide ((af.length : Int) > 0)), rs_, H', ⟨by have := HJ1.out; first | omega | exact Nat.le_refl _⟩, ⟨bk_⟩, ⟨bl_⟩⟩
         ·rw [if_neg c20] at H; have qJ := decide_eq_false c20; clear c20; have H' := aa.mk H; clear H; obtain ⟨lF, lG, lH, mP, mQ, lI, lJ, lK, mR, mU⟩ := bg eQ.out; go_wp2; go_meet
          case rel => exact ⟨_, (false), rs_, H', ⟨by have := HJ1.out; first | omega | exact Nat.le_refl _⟩, ⟨bk_⟩, ⟨bl_⟩⟩
        ·rw [if_neg c19] at H; obtain ⟨IL, Kq⟩ := bn_ c19; by_cases c23 : ak = 0
         ·rw [if_pos c23] at H; obtain ⟨vE, vF⟩ := bq_ c23; clear c23; by_cases c24 : ah < 5
          ·rw [if_pos c24] at H; have qG := decide_eq_true c24; clear c24; have H' := aa.mk H; clear H; obtain ⟨vN, vO, vP, vQ, vR, vS, vT, vU, vV, vW⟩ := bg eQ.out; go_wp2; go_meet
           case rel => exact ⟨_, (decide ((af.length : Int) > 0)), rs_, H', ⟨by have := HJ1.out; first | omega | exact Nat.le_refl _⟩, ⟨bk_⟩, ⟨bl_⟩⟩
          ·rw [if_neg c24] at H; have qG := decide_eq_false c24; clear c24; have H' := aa.mk H; clear H; obtain ⟨uB, uC, uD, vX, vY, uE, uF, uG, vZ, wh⟩ := bg eQ.out; go_wp2; go_meet
           case rel => exact ⟨_, (false), rs_, H', ⟨by have := HJ1.out; first | omega | exact Nat.le_refl _⟩, ⟨bk_⟩, ⟨bl_⟩⟩
         ·rw [if_neg c23] at H; obtain ⟨vE, vF⟩ := bn_ c23; have H' := aa.mk H; clear H; obtain ⟨tO, tQ, tT, tV, tX, tY, tZ, uf, ug, uh⟩ := bg eQ.out; go_wp2; go_meet
          case rel => exact ⟨_, (true), rs_, H', ⟨by have := HJ1.out; first | omega | exact Nat.le_refl _⟩, ⟨bk_⟩, ⟨bl_⟩⟩
       ·rw [if_neg c18] at H; obtain ⟨qH, zi⟩ := bn_ c18; have H' := aa.mk H; clear H; obtain ⟨pQ, pR, pU, pV, pW, pX, pY, p8, p9, qa⟩ := bg eQ.out; go_wp2; go_meet
        case rel => exact ⟨_, (true), rs_, H', ⟨by have := HJ1.out; first | omega | exact Nat.le_refl _⟩, ⟨bk_⟩, ⟨bl_⟩⟩
      ·rw [if_neg c17] at H; obtain ⟨l8, sV⟩ := bn_ c17; have H' := aa.mk H; clear H; obtain ⟨Cb, Cc, Ce, Cf, Cg, Ch, Ci, Cj, Ck, Cm⟩ := bg eQ.out; go_wp2; go_meet
       case rel => exact ⟨_, (true), rs_, H', ⟨by have := HJ1.out; first | omega | exact Nat.le_refl _⟩, ⟨bk_⟩, ⟨bl_⟩⟩
    case rest =>
     clear HC7; (try clear c1); (try clear c2); (try clear p2); (try clear c4); (try clear c5); (try clear gQ); (try clear c6); (try clear c8); (try clear gH); (try clear jv); (try clear c9); (try clear qE); (try clear uJ); (try clear c10); (try clear ig); (try clear c12); (try clear uN); (try clear zf); (try clear c13); (try clear mV); (try clear c17); (try clear l8); (try clear sV); (try clear c18); (try clear qH); (try clear zi); (try clear c19); (try clear IL); (try clear Kq); (try clear c20); (try clear qJ); (try clear c23); (try clear vE); (try clear vF); (try clear c24); (try clear qG); (try clear jO jP jQ ku kv jR jS jT ky kz); (try clear ja jb jc jd je jf jg jh ji jk); (try clear nA nC nD qb qc nE nG nH qd qf); (try clear kC kD kE o8 o9 kF kG kH pg pq); (try clear kI kJ kK pJ pK kL kM kN pM pO); (try clear lF lG lH mP mQ lI lJ lK mR mU); (try clear vN vO vP vQ vR vS vT vU vV vW); (try clear uB uC uD vX vY uE uF uG vZ wh); (try clear tO tQ tT tV tX tY tZ uf ug uh); (try clear pQ pR pU pV pW pX pY p8 p9 qa); (try clear Cb Cc Ce Cf Cg Ch Ci Cj Ck Cm); (try clear iA iB iC iD iE iF iG iH iI iJ); (try clear p2); obtain ⟨kq, x45_6, rfl, HA, HJ6, eQ, HB⟩ := hcut; cases kq with
     | zero => exact absurd HA.out (by simp [aC.j1])
     | succ kj6 =>
      have H := HA.out; clear HA; simp only [aC.j1] at H; by_cases c30 : x45_6 = true
      ·subst c30; have H1 : (some 2) = some r := by rw [if_pos rfl] at H; exact H
       clear H; have H := H1; clear H1; obtain rfl := Option.some.inj H; go_wp2; go_ret; exact ⟨re_, bl_⟩
      ·replace c30 := Bool.eq_false_iff.mpr c30; subst c30; have H1 : (if ah = 2 then (if au < (-1000) then (some 1) else (if au > aj then (some 1) else (if aj > 1000 then (some 1) else (some 0)))) else (if ah = 5 then (if (af.length : Int) < 2 then (aC.j2 kj6 true ah au aj ak af) else (aC.j2 kj6 (decide ((af.length : Int) > 4)) ah au aj ak af)) else (if ah = 6 then (if ak < 1 then (aC.j4 kj6 true ah au aj ak af) else (aC.j4 kj6 (decide (ak > 4)) ah au aj ak af)) else (some 0)))) = some r := by rw [if_neg (show ¬ (false = true) by decide)] at H; exact H
       clear H; have H := H1; clear H1; by_cases c31 : ah = 2
       ·rw [if_pos c31] at H; obtain ⟨c31b0, c31b1⟩ := bq_ c31; clear c31; by_cases c32 : au < (-1000)
        ·rw [if_pos c32] at H; have xE := decide_eq_true c32; clear c32; obtain rfl := Option.some.inj H; obtain ⟨Ex, Ey, Ez, G5, G6, EA, EB, EC, G7, G8⟩ := bg eQ.out; go_wp2; go_ret; exact ⟨re_, bl_⟩
        ·rw [if_neg c32] at H; have xE := decide_eq_false c32; clear c32; by_cases c34 : au > aj
         ·rw [if_pos c34] at H; have Kr : decide (aj < au) = true := decide_eq_true c34; clear c34; obtain rfl := Option.some.inj H; obtain ⟨zT, zU, zV, zW, zX, zY, zZ, z8, Aa, Ab⟩ := bg eQ.out; go_wp2; go_ret; exact ⟨re_, bl_⟩
         ·rw [if_neg c34] at H; have Kr : decide (aj < au) = false := decide_eq_false c34; clear c34; by_cases c36 : aj > 1000
          ·rw [if_pos c36] at H; have Eb : decide (1000 < aj) = true := decide_eq_true c36; clear c36; obtain rfl := Option.some.inj H; obtain ⟨qP, qQ, qR, uw, uy, qU, qV, qW, uz, uA⟩ := bg eQ.out; go_wp2; go_ret; exact ⟨re_, bl_⟩
          ·rw [if_neg c36] at H; have Eb : decide (1000 < aj) = false := decide_eq_false c36; clear c36; obtain rfl := Option.some.inj H; obtain ⟨Nt, Nu, Nv, Nw, Ny, Nz, NA, NB, NC, ND⟩ := bg eQ.out; go_wp2; go_ret; exact ⟨re_, bl_⟩
       ·rw [if_neg c31] at H; obtain ⟨c31b0, c31b1⟩ := bn_ c31; by_cases c39 : ah = 5
        ·rw [if_pos c39] at H; obtain ⟨zg, Ei⟩ := bq_ c39; clear c39; have HC40 := aa.mk H; clear H; go_upto_region 11 with (fail)
         go_cut [75] (fun v75 wc => ∃ (kq : Nat) (Kt : Bool), v75 = .bool Kt ∧ aa (aC.j2 kq Kt ah au aj ak af = some r) ∧ aa (kq ≤ kj6) ∧ aa (wc.heap[IK]? = some (.cells #[.int .i64 ah, .int .i64 au, .int .i64 aj, .int .i64 ak, (.slice aM af.length aH)] 24 (0, 0))) ∧ aa (Below w.heap.size w wc))
         case first =>
          have H := HC40.out; clear HC40; by_cases c41 : (af.length : Int) < 2
          ·rw [if_pos c41] at H; have oH := decide_eq_true c41; have Gb : decide (af.length < 2) = true := decide_eq_true (by omega); clear c41; (first | rw [oH] | (simp only [dS, ek]; rw [oH]) | skip)
           have H' := aa.mk H; clear H; obtain ⟨EW, EX, EY, NF, NG, EZ, E5, E8, NH, NI⟩ := bg eQ.out; go_wp2; go_meet
           case rel => exact ⟨_, (true), rs_, H', ⟨by have := HJ1.out; have := HJ6.out; first | omega | exact Nat.le_refl _⟩, ⟨bk_⟩, ⟨bl_⟩⟩
          ·rw [if_neg c41] at H; have oH := decide_eq_false c41; have Gb : decide (af.length < 2) = false := decide_eq_false (by omega); clear c41; (first | rw [oH] | (simp only [dS, ek]; rw [oH]) | skip)
           have H' := aa.mk H; clear H; obtain ⟨IM, IP, IQ, IU, IV, IW, IX, IY, IZ, I1⟩ := bg eQ.out; go_wp2; go_meet
           case rel => exact ⟨_, (decide ((af.length : Int) > 4)), rs_, H', ⟨by have := HJ1.out; have := HJ6.out; first | omega | exact Nat.le_refl _⟩, ⟨bk_⟩, ⟨bl_⟩⟩
         case rest =>
          clear HC40; (try clear c1); (try clear c2); (try clear p2); (try clear c3); (try clear c4); (try clear c5); (try clear gQ); (try clear c6); (try clear c8); (try clear gH); (try clear jv); (try clear c9); (try clear qE); (try clear uJ); (try clear c10); (try clear ig); (try clear c12); (try clear uN); (try clear zf); (try clear c13); (try clear mV); (try clear c17); (try clear l8); (try clear sV); (try clear c18); (try clear qH); (try clear zi); (try clear c19); (try clear IL); (try clear Kq); (try clear c20); (try clear qJ); (try clear c23); (try clear vE); (try clear vF); (try clear c24); (try clear qG); (try clear c30); (try clear c31); (try clear c31b0); (try clear c31b1); (try clear c32); (try clear xE); (try clear c34); (try clear Kr); (try clear c36); (try clear Eb); (try clear c39); (try clear zg); (try clear Ei); (try clear c41); (try clear oH); (try clear Gb); (try clear jO jP jQ ku kv jR jS jT ky kz); (try clear ja jb jc jd je jf jg jh ji jk); (try clear nA nC nD qb qc nE nG nH qd qf); (try clear kC kD kE o8 o9 kF kG kH pg pq); (try clear kI kJ kK pJ pK kL kM kN pM pO); (try clear lF lG lH mP mQ lI lJ lK mR mU); (try clear vN vO vP vQ vR vS vT vU vV vW); (try clear uB uC uD vX vY uE uF uG vZ wh); (try clear tO tQ tT tV tX tY tZ uf ug uh); (try clear pQ pR pU pV pW pX pY p8 p9 qa); (try clear Cb Cc Ce Cf Cg Ch Ci Cj Ck Cm); (try clear Ex Ey Ez G5 G6 EA EB EC G7 G8); (try clear zT zU zV zW zX zY zZ z8 Aa Ab); (try clear qP qQ qR uw uy qU qV qW uz uA); (try clear Nt Nu Nv Nw Ny Nz NA NB NC ND); (try clear EW EX EY NF NG EZ E5 E8 NH NI); (try clear IM IP IQ IU IV IW IX IY IZ I1); (try clear iA iB iC iD iE iF iG iH iI iJ); (try clear p2); obtain ⟨kq, Kt, rfl, HA, HJ39, eQ, HB⟩ := hcut; cases kq with
          | zero => exact absurd HA.out (by simp [aC.j2])
          | succ kj39 =>
           have H := HA.out; clear HA; simp only [aC.j2] at H; by_cases c44 : Kt = true
           ·subst c44; have H1 : (some 1) = some r := by rw [if_pos rfl] at H; exact H
            clear H; have H := H1; clear H1; obtain rfl := Option.some.inj H; go_wp2; go_ret; exact ⟨re_, bl_⟩
           ·replace c44 := Bool.eq_false_iff.mpr c44; subst c44; have H1 : (aC.l0 kj39 0 ah au aj ak af) = some r := by rw [if_neg (show ¬ (false = true) by decide)] at H; exact H
            clear H; have H := H1; clear H1; have H' := aa.mk H; clear H; go_wp2; go_loopg [4] kj39 (fun kq v4 w' => ∃ (eF : Int), v4 = .int .i64 eF ∧ aa (aC.l0 kq eF ah au aj ak af = some r) ∧ aa (kq ≤ kj39) ∧ aa (w'.heap[IK]? = some (.cells #[.int .i64 ah, .int .i64 au, .int .i64 aj, .int .i64 ak, (.slice aM af.length aH)] 24 (0, 0))) ∧ aa (Below w.heap.size w w'))
            case atStart => exact ⟨(0), rs_, H', ⟨Nat.le_refl _⟩, ⟨bk_⟩, ⟨bl_⟩⟩
            case round =>
             clear H'; (try clear c1); (try clear c2); (try clear p2); (try clear c3); (try clear c4); (try clear c5); (try clear gQ); (try clear c6); (try clear c8); (try clear gH); (try clear jv); (try clear c9); (try clear qE); (try clear uJ); (try clear c10); (try clear ig); (try clear c12); (try clear uN); (try clear zf); (try clear c13); (try clear mV); (try clear c17); (try clear l8); (try clear sV); (try clear c18); (try clear qH); (try clear zi); (try clear c19); (try clear IL); (try clear Kq); (try clear c20); (try clear qJ); (try clear c23); (try clear vE); (try clear vF); (try clear c24); (try clear qG); (try clear c30); (try clear c31); (try clear c31b0); (try clear c31b1); (try clear c32); (try clear xE); (try clear c34); (try clear Kr); (try clear c36); (try clear Eb); (try clear c39); (try clear zg); (try clear Ei); (try clear c41); (try clear oH); (try clear Gb); (try clear c44); (try clear jO jP jQ ku kv jR jS jT ky kz); (try clear ja jb jc jd je jf jg jh ji jk); (try clear nA nC nD qb qc nE nG nH qd qf); (try clear kC kD kE o8 o9 kF kG kH pg pq); (try clear kI kJ kK pJ pK kL kM kN pM pO); (try clear lF lG lH mP mQ lI lJ lK mR mU); (try clear vN vO vP vQ vR vS vT vU vV vW); (try clear uB uC uD vX vY uE uF uG vZ wh); (try clear tO tQ tT tV tX tY tZ uf ug uh); (try clear pQ pR pU pV pW pX pY p8 p9 qa); (try clear Cb Cc Ce Cf Cg Ch Ci Cj Ck Cm); (try clear Ex Ey Ez G5 G6 EA EB EC G7 G8); (try clear zT zU zV zW zX zY zZ z8 Aa Ab); (try clear qP qQ qR uw uy qU qV qW uz uA); (try clear Nt Nu Nv Nw Ny Nz NA NB NC ND); (try clear EW EX EY NF NG EZ E5 E8 NH NI); (try clear IM IP IQ IU IV IW IX IY IZ I1); (try clear iA iB iC iD iE iF iG iH iI iJ); (try clear p2); obtain ⟨eF, rfl, HA, HK4, eQ, HB⟩ := hrel; cases gk with
             | zero => exact absurd HA.out (by simp [aC.l0])
             | succ k4 =>
              have H := HA.out; clear HA; simp only [aC.l0] at H; by_cases c45 : eF < (af.length : Int)
              ·rw [if_pos c45] at H; have Ku := decide_eq_true c45; clear c45; by_cases c46 : 0 ≤ eF
               ·rw [if_pos c46] at H; have J7 := decide_eq_true c46; clear c46; replace H := Option.bind_eq_some_iff.mp H; obtain ⟨t283, A470, H⟩ := H; (try dsimp only at H)
                have A47 := aa.mk A470; clear A470; by_cases c48 : t283 = 0
                ·rw [if_pos c48] at H; obtain ⟨c48b0, c48b1⟩ := bq_ c48; clear c48; by_cases c49 : ((ag af eF).f0) = 3
                 ·rw [if_pos c49] at H; obtain ⟨Hl, Hm⟩ := bq_ c49; clear c49; obtain rfl := Option.some.inj H; obtain ⟨QC, QD, QE, QF, QG, QH, QI, QJ, QK, QL⟩ := bg eQ.out; have xq : 0 ≤ (eF : Int) := dt_; have xu : eF < (af.length : Int) := dt_; obtain ⟨Ej, Dp, Dq, e282, qg, qh, qi, qj, ql, sj, su⟩ := dZ bu.out eF xq xu; cases e282; replace qg := hc_ HB qg; replace qh := hc_ HB qh; replace qi := hc_ HB qi; replace qj := hc_ HB qj; replace ql := hc_ HB ql; have Ap := aa.mk su; have Aq := aa.mk sj; clear su sj; replace xq := eq_true xq; replace xu := eq_true xu; go_wp2_with (first | ((with_reducible refine aD (f := 46) rfl ?_); refine aZ (some 88) rfl rfl Tryd.func46 (by kernel_rfl) rfl #[.agg #[.int .i64 ((ag af eF).f0), .int .i64 ((ag af eF).f1), .int .i64 ((ag af eF).f2), .int .i64 ((ag af eF).f3), .slice Dp ((ag af eF).f4).length Dq]] rfl mp_ ?_; (with_reducible refine (ih k4 (by have := HJ1.out; have := HJ6.out; have := HJ39.out; have := HK4.out; omega) ((ag af eF).f0) ((ag af eF).f1) ((ag af eF).f2) ((ag af eF).f3) _ _ ((ag af eF).f4) t283 _ ?az ?aA A47.out).mono ?_); (case az => exact cb_ (Kd.aK Ap.out HB.out)); (case aA => exact Aq.out); rintro e w51 ⟨rfl, hb⟩; refine ⟨_, rfl, ?_⟩; replace eQ := kb_ eQ hb; replace HB := aa.mk (ai bl_ hb); (try clear hb); (try clear hb2); (try clear hk); (try clear hi); obtain ⟨Ho, Hq, Hr, Ht, Hu, Hw, Hy, Hz, HV, HY⟩ := bg eQ.out; have Bv : 0 ≤ (eF : Int) := dt_; have Bw : eF < (af.length : Int) := dt_; obtain ⟨Kv, A284_4, c284_4, e284, wW, wX, wY, wZ, sw, yI, yJ⟩ := dZ bu.out eF Bv Bw; obtain rfl : Ej = Kv := (by injection e284); replace wW := hc_ HB wW; replace wX := hc_ HB wX; replace wY := hc_ HB wY; replace wZ := hc_ HB wZ; replace sw := hc_ HB sw; have QM := aa.mk yJ; have QN := aa.mk yI; clear yJ yI; replace Bv := eq_true Bv; replace Bw := eq_true Bw))
                  go_ret; exact ⟨re_, bl_⟩
                 ·rw [if_neg c49] at H; obtain ⟨Hl, Hm⟩ := bn_ c49; by_cases c53 : ((ag af eF).f0) = 4
                  ·rw [if_pos c53] at H; obtain ⟨c53b0, c53b1⟩ := bq_ c53; clear c53; obtain rfl := Option.some.inj H; obtain ⟨HZ, H5, H6, H7, H8, H9, Ia, Ib, Ic, Ie⟩ := bg eQ.out; have xq : 0 ≤ (eF : Int) := dt_; have xu : eF < (af.length : Int) := dt_; obtain ⟨Ej, Dp, Dq, e282, qg, qh, qi, qj, ql, sj, su⟩ := dZ bu.out eF xq xu; cases e282; replace qg := hc_ HB qg; replace qh := hc_ HB qh; replace qi := hc_ HB qi; replace qj := hc_ HB qj; replace ql := hc_ HB ql; have Ap := aa.mk su; have Aq := aa.mk sj; clear su sj; replace xq := eq_true xq; replace xu := eq_true xu; go_wp2_with (first | ((with_reducible refine aD (f := 46) rfl ?_); refine aZ (some 88) rfl rfl Tryd.func46 (by kernel_rfl) rfl #[.agg #[.int .i64 ((ag af eF).f0), .int .i64 ((ag af eF).f1), .int .i64 ((ag af eF).f2), .int .i64 ((ag af eF).f3), .slice Dp ((ag af eF).f4).length Dq]] rfl mp_ ?_; (with_reducible refine (ih k4 (by have := HJ1.out; have := HJ6.out; have := HJ39.out; have := HK4.out; omega) ((ag af eF).f0) ((ag af eF).f1) ((ag af eF).f2) ((ag af eF).f3) _ _ ((ag af eF).f4) t283 _ ?az ?aA A47.out).mono ?_); (case az => exact cb_ (Kd.aK Ap.out HB.out)); (case aA => exact Aq.out); rintro e w55 ⟨rfl, hb⟩; refine ⟨_, rfl, ?_⟩; replace eQ := kb_ eQ hb; replace HB := aa.mk (ai bl_ hb); (try clear hb); (try clear hb2); (try clear hk); (try clear hi); obtain ⟨hcz56_0, hcz56_1, hcz56_2, hcz56_3, hcz56_4, hfz56_0, hfz56_1, hfz56_2, hfz56_3, hfz56_4⟩ := bg eQ.out; have Bv : 0 ≤ (eF : Int) := dt_; have Bw : eF < (af.length : Int) := dt_; obtain ⟨Kv, A284_4, c284_4, e284, wW, wX, wY, wZ, sw, yI, yJ⟩ := dZ bu.out eF Bv Bw; obtain rfl : Ej = Kv := (by injection e284); replace wW := hc_ HB wW; replace wX := hc_ HB wX; replace wY := hc_ HB wY; replace wZ := hc_ HB wZ; replace sw := hc_ HB sw; have QM := aa.mk yJ; have QN := aa.mk yI; clear yJ yI; replace Bv := eq_true Bv; replace Bw := eq_true Bw; have p285 : 0 ≤ (eF : Int) := dt_; have q285 : eF < (af.length : Int) := dt_; obtain ⟨ad285, A285_4, c285_4, e285, CG, CJ, CK, CL, yK, Fz, FB⟩ := dZ bu.out eF p285 q285; obtain rfl : Ej = ad285 := (by injection e285); replace CG := hc_ HB CG; replace CJ := hc_ HB CJ; replace CK := hc_ HB CK; replace CL := hc_ HB CL; replace yK := hc_ HB yK; have HR285_4 := aa.mk FB; have HC285_4 := aa.mk Fz; clear FB Fz; replace p285 := eq_true p285; replace q285 := eq_true q285; have ea_ := Option.some.inj (sw.symm.trans yK); injection ea_ with ea_ en_ ec_; subst ea_; subst ec_; clear en_))
                   go_ret; exact ⟨re_, bl_⟩
                  ·rw [if_neg c53] at H; obtain ⟨c53b0, c53b1⟩ := bn_ c53; have H' := aa.mk H; clear H; obtain ⟨Me, Mf, Mg, Mh, Mi, Mj, Mk, Ml, Mm, Mo⟩ := bg eQ.out; have xq : 0 ≤ (eF : Int) := dt_; have xu : eF < (af.length : Int) := dt_; obtain ⟨Ej, Dp, Dq, e282, qg, qh, qi, qj, ql, sj, su⟩ := dZ bu.out eF xq xu; cases e282; replace qg := hc_ HB qg; replace qh := hc_ HB qh; replace qi := hc_ HB qi; replace qj := hc_ HB qj; replace ql := hc_ HB ql; have Ap := aa.mk su; have Aq := aa.mk sj; clear su sj; replace xq := eq_true xq; replace xu := eq_true xu; go_wp2_with (first | ((with_reducible refine aD (f := 46) rfl ?_); refine aZ (some 88) rfl rfl Tryd.func46 (by kernel_rfl) rfl #[.agg #[.int .i64 ((ag af eF).f0), .int .i64 ((ag af eF).f1), .int .i64 ((ag af eF).f2), .int .i64 ((ag af eF).f3), .slice Dp ((ag af eF).f4).length Dq]] rfl mp_ ?_; (with_reducible refine (ih k4 (by have := HJ1.out; have := HJ6.out; have := HJ39.out; have := HK4.out; omega) ((ag af eF).f0) ((ag af eF).f1) ((ag af eF).f2) ((ag af eF).f3) _ _ ((ag af eF).f4) t283 _ ?az ?aA A47.out).mono ?_); (case az => exact cb_ (Kd.aK Ap.out HB.out)); (case aA => exact Aq.out); rintro e w58 ⟨rfl, hb⟩; refine ⟨_, rfl, ?_⟩; replace eQ := kb_ eQ hb; replace HB := aa.mk (ai bl_ hb); (try clear hb); (try clear hb2); (try clear hk); (try clear hi); obtain ⟨Mq, Mr, Ms, Mt, Mv, Mw, Mx, MB, MC, ME⟩ := bg eQ.out; have Bv : 0 ≤ (eF : Int) := dt_; have Bw : eF < (af.length : Int) := dt_; obtain ⟨Kv, A284_4, c284_4, e284, wW, wX, wY, wZ, sw, yI, yJ⟩ := dZ bu.out eF Bv Bw; obtain rfl : Ej = Kv := (by injection e284); replace wW := hc_ HB wW; replace wX := hc_ HB wX; replace wY := hc_ HB wY; replace wZ := hc_ HB wZ; replace sw := hc_ HB sw; have QM := aa.mk yJ; have QN := aa.mk yI; clear yJ yI; replace Bv := eq_true Bv; replace Bw := eq_true Bw; have p285 : 0 ≤ (eF : Int) := dt_; have q285 : eF < (af.length : Int) := dt_; obtain ⟨ad285, A285_4, c285_4, e285, CG, CJ, CK, CL, yK, Fz, FB⟩ := dZ bu.out eF p285 q285; obtain rfl : Ej = ad285 := (by injection e285); replace CG := hc_ HB CG; replace CJ := hc_ HB CJ; replace CK := hc_ HB CK; replace CL := hc_ HB CL; replace yK := hc_ HB yK; have HR285_4 := aa.mk FB; have HC285_4 := aa.mk Fz; clear FB Fz; replace p285 := eq_true p285; replace q285 := eq_true q285; have ea_ := Option.some.inj (sw.symm.trans yK); injection ea_ with ea_ en_ ec_; subst ea_; subst ec_; clear en_))
                   go_roundg k4
                   case measure => have := HJ1.out; have := HJ6.out; have := HJ39.out; have := HK4.out; omega
                   case rel => exact ⟨(wrap64 (eF + 1)), rs_, H', ⟨by have := HJ1.out; have := HJ6.out; have := HJ39.out; have := HK4.out; omega⟩, ⟨bk_⟩, ⟨bl_⟩⟩
                ·rw [if_neg c48] at H; obtain ⟨c48b0, c48b1⟩ := bn_ c48; obtain rfl := Option.some.inj H; obtain ⟨hcz60_0, hcz60_1, hcz60_2, hcz60_3, hcz60_4, hfz60_0, hfz60_1, hfz60_2, hfz60_3, hfz60_4⟩ := bg eQ.out; have xq : 0 ≤ (eF : Int) := dt_; have xu : eF < (af.length : Int) := dt_; obtain ⟨Ej, Dp, Dq, e282, qg, qh, qi, qj, ql, sj, su⟩ := dZ bu.out eF xq xu; cases e282; replace qg := hc_ HB qg; replace qh := hc_ HB qh; replace qi := hc_ HB qi; replace qj := hc_ HB qj; replace ql := hc_ HB ql; have Ap := aa.mk su; have Aq := aa.mk sj; clear su sj; replace xq := eq_true xq; replace xu := eq_true xu; go_wp2_with (first | ((with_reducible refine aD (f := 46) rfl ?_); refine aZ (some 88) rfl rfl Tryd.func46 (by kernel_rfl) rfl #[.agg #[.int .i64 ((ag af eF).f0), .int .i64 ((ag af eF).f1), .int .i64 ((ag af eF).f2), .int .i64 ((ag af eF).f3), .slice Dp ((ag af eF).f4).length Dq]] rfl mp_ ?_; (with_reducible refine (ih k4 (by have := HJ1.out; have := HJ6.out; have := HJ39.out; have := HK4.out; omega) ((ag af eF).f0) ((ag af eF).f1) ((ag af eF).f2) ((ag af eF).f3) _ _ ((ag af eF).f4) t283 _ ?az ?aA A47.out).mono ?_); (case az => exact cb_ (Kd.aK Ap.out HB.out)); (case aA => exact Aq.out); rintro e w61 ⟨rfl, hb⟩; refine ⟨_, rfl, ?_⟩; replace eQ := kb_ eQ hb; replace HB := aa.mk (ai bl_ hb); (try clear hb); (try clear hb2); (try clear hk); (try clear hi)))
                 go_ret; exact ⟨re_, bl_⟩
               ·rw [if_neg c46] at H; exact absurd H (by simp)
              ·rw [if_neg c45] at H; have Ku := decide_eq_false c45; clear c45; obtain rfl := Option.some.inj H; obtain ⟨MF, MG, MH, MI, MJ, MK, ML, MM, MN, MO⟩ := bg eQ.out; go_wp2; go_ret; exact ⟨re_, bl_⟩
        ·rw [if_neg c39] at H; obtain ⟨zg, Ei⟩ := bn_ c39; by_cases c63 : ah = 6
         ·rw [if_pos c63] at H; obtain ⟨c63b0, c63b1⟩ := bq_ c63; clear c63; have HC64 := aa.mk H; clear H; go_upto_region 22 with (fail)
          go_cut [117] (fun v117 wc => ∃ (kq : Nat) (I4 : Bool), v117 = .bool I4 ∧ aa (aC.j4 kq I4 ah au aj ak af = some r) ∧ aa (kq ≤ kj6) ∧ aa (wc.heap[IK]? = some (.cells #[.int .i64 ah, .int .i64 au, .int .i64 aj, .int .i64 ak, (.slice aM af.length aH)] 24 (0, 0))) ∧ aa (Below w.heap.size w wc))
          case first =>
           have H := HC64.out; clear HC64; by_cases c65 : ak < 1
           ·rw [if_pos c65] at H; have I5 := decide_eq_true c65; clear c65; (first | rw [I5] | (simp only [dS, ek]; rw [I5]) | skip)
            have H' := aa.mk H; clear H; obtain ⟨MP, MQ, MR, MS, MU, MV, MW, MX, MZ, M0⟩ := bg eQ.out; go_wp2; go_meet
            case rel => exact ⟨_, (true), rs_, H', ⟨by have := HJ1.out; have := HJ6.out; first | omega | exact Nat.le_refl _⟩, ⟨bk_⟩, ⟨bl_⟩⟩
           ·rw [if_neg c65] at H; have I5 := decide_eq_false c65; clear c65; (first | rw [I5] | (simp only [dS, ek]; rw [I5]) | skip)
            have H' := aa.mk H; clear H; obtain ⟨hcz67_0, hcz67_1, hcz67_2, hcz67_3, hcz67_4, hfz67_0, hfz67_1, hfz67_2, hfz67_3, hfz67_4⟩ := bg eQ.out; go_wp2; go_meet
            case rel => exact ⟨_, (decide (ak > 4)), rs_, H', ⟨by have := HJ1.out; have := HJ6.out; first | omega | exact Nat.le_refl _⟩, ⟨bk_⟩, ⟨bl_⟩⟩
          case rest =>
           clear HC64; (try clear c1); (try clear c2); (try clear p2); (try clear q2); (try clear hx2); (try clear c3); (try clear c4); (try clear c5); (try clear gQ); (try clear c6); (try clear p6); (try clear c8); (try clear gH); (try clear jv); (try clear c9); (try clear qE); (try clear uJ); (try clear c10); (try clear ig); (try clear c12); (try clear uN); (try clear zf); (try clear c13); (try clear mV); (try clear c17); (try clear l8); (try clear sV); (try clear c18); (try clear qH); (try clear zi); (try clear c19); (try clear IL); (try clear Kq); (try clear c20); (try clear qJ); (try clear c23); (try clear vE); (try clear vF); (try clear c24); (try clear qG); (try clear c28); (try clear p28); (try clear q28); (try clear hx28); (try clear c30); (try clear c31); (try clear c31b0); (try clear c31b1); (try clear c32); (try clear xE); (try clear c34); (try clear Kr); (try clear c36); (try clear Eb); (try clear c39); (try clear zg); (try clear Ei); (try clear c41); (try clear oH); (try clear Gb); (try clear c44); (try clear c45); (try clear Ku); (try clear c46); (try clear J7); (try clear c48); (try clear c48b0); (try clear c48b1); (try clear c49); (try clear Hl); (try clear Hm); (try clear c53); (try clear c53b0); (try clear c53b1); (try clear c63); (try clear c63b0); (try clear c63b1); (try clear p64); (try clear c65); (try clear I5); (try clear jO jP jQ ku kv jR jS jT ky kz); (try clear ja jb jc jd je jf jg jh ji jk); (try clear nA nC nD qb qc nE nG nH qd qf); (try clear kC kD kE o8 o9 kF kG kH pg pq); (try clear kI kJ kK pJ pK kL kM kN pM pO); (try clear lF lG lH mP mQ lI lJ lK mR mU); (try clear vN vO vP vQ vR vS vT vU vV vW); (try clear uB uC uD vX vY uE uF uG vZ wh); (try clear tO tQ tT tV tX tY tZ uf ug uh); (try clear pQ pR pU pV pW pX pY p8 p9 qa); (try clear Cb Cc Ce Cf Cg Ch Ci Cj Ck Cm); (try clear Ex Ey Ez G5 G6 EA EB EC G7 G8); (try clear zT zU zV zW zX zY zZ z8 Aa Ab); (try clear qP qQ qR uw uy qU qV qW uz uA); (try clear Nt Nu Nv Nw Ny Nz NA NB NC ND); (try clear EW EX EY NF NG EZ E5 E8 NH NI); (try clear IM IP IQ IU IV IW IX IY IZ I1)
           (try clear iA iB iC iD iE iF iG iH iI iJ); (try clear QC QD QE QF QG QH QI QJ QK QL); (try clear Ho Hq Hr Ht Hu Hw Hy Hz HV HY); (try clear HZ H5 H6 H7 H8 H9 Ia Ib Ic Ie); (try clear hcz56_0 hcz56_1 hcz56_2 hcz56_3 hcz56_4 hfz56_0 hfz56_1 hfz56_2 hfz56_3 hfz56_4); (try clear Me Mf Mg Mh Mi Mj Mk Ml Mm Mo); (try clear Mq Mr Ms Mt Mv Mw Mx MB MC ME); (try clear hcz60_0 hcz60_1 hcz60_2 hcz60_3 hcz60_4 hfz60_0 hfz60_1 hfz60_2 hfz60_3 hfz60_4); (try clear MF MG MH MI MJ MK ML MM MN MO); (try clear MP MQ MR MS MU MV MW MX MZ M0); (try clear hcz67_0 hcz67_1 hcz67_2 hcz67_3 hcz67_4 hfz67_0 hfz67_1 hfz67_2 hfz67_3 hfz67_4); (try clear qg); (try clear qh); (try clear qi); (try clear qj); (try clear ql); (try clear wW); (try clear wX); (try clear wY); (try clear wZ); (try clear sw); (try clear CG); (try clear CJ); (try clear CK); (try clear CL); (try clear yK); (try clear p2); (try clear xq); (try clear Bv); (try clear p285); (try clear xu); (try clear Bw); (try clear q285); obtain ⟨kq, I4, rfl, HA, HJ63, eQ, HB⟩ := hcut; cases kq with
           | zero => exact absurd HA.out (by simp [aC.j4])
           | succ kj63 =>
            have H := HA.out; clear HA; simp only [aC.j4] at H; by_cases c68 : I4 = true
            ·subst c68; have H1 : (some 1) = some r := by rw [if_pos rfl] at H; exact H
             clear H; have H := H1; clear H1; obtain rfl := Option.some.inj H; go_wp2; go_ret; exact ⟨re_, bl_⟩
            ·replace c68 := Bool.eq_false_iff.mpr c68; subst c68; have H1 : (if (af.length : Int) = 1 then (if 0 < (af.length : Int) then ((aC.f kj63 ((ag af 0).f0) ((ag af 0).f1) ((ag af 0).f2) ((ag af 0).f3) ((ag af 0).f4)).bind fun Dn => (if Dn = 0 then (if ((ag af 0).f0) = 1 then (some 0) else (if ((ag af 0).f0) = 2 then (some 0) else (some 8))) else (some Dn))) else (none)) else (some 2)) = some r := by rw [if_neg (show ¬ (false = true) by decide)] at H; exact H
             clear H; have H := H1; clear H1; by_cases c69 : (af.length : Int) = 1
             ·rw [if_pos c69] at H; obtain ⟨Ea, c69b1⟩ := bq_ c69; clear c69; by_cases c70 : 0 < (af.length : Int)
              ·rw [if_pos c70] at H; have c70b0 := decide_eq_true c70; have c70b1 : decide (0 < af.length) = true := decide_eq_true (by omega); clear c70; replace H := Option.bind_eq_some_iff.mp H; obtain ⟨Dn, A710, H⟩ := H; (try dsimp only at H)
               have A71 := aa.mk A710; clear A710; by_cases c72 : Dn = 0
               ·rw [if_pos c72] at H; obtain ⟨c72b0, c72b1⟩ := bq_ c72; clear c72; by_cases c73 : ((ag af 0).f0) = 1
                ·rw [if_pos c73] at H; obtain ⟨c73b0, c73b1⟩ := bq_ c73; clear c73; obtain rfl := Option.some.inj H; obtain ⟨hcz74_0, hcz74_1, hcz74_2, hcz74_3, hcz74_4, hfz74_0, hfz74_1, hfz74_2, hfz74_3, hfz74_4⟩ := bg eQ.out; have xJ : 0 ≤ (0 : Int) := (by omega); have xK : 0 < (af.length : Int) := dt_; obtain ⟨El, Dr, Dt, e286, lT, lU, lV, lW, lX, sD, sF⟩ := dZ bu.out 0 xJ xK; cases e286; have qi286 : (0 < af.length) = True := eq_true (by omega); (try simp only [z0_, Nat.zero_mul, Addr.add_zero'] at lT lU lV lW lX)
                 replace lT := hc_ HB lT; replace lU := hc_ HB lU; replace lV := hc_ HB lV; replace lW := hc_ HB lW; replace lX := hc_ HB lX; have Ar := aa.mk sF; have Au := aa.mk sD; clear sF sD; replace xJ := eq_true xJ; replace xK := eq_true xK; go_wp2_with (first | ((with_reducible refine aD (f := 46) rfl ?_); refine aZ (some 126) rfl rfl Tryd.func46 (by kernel_rfl) rfl #[.agg #[.int .i64 ((ag af 0).f0), .int .i64 ((ag af 0).f1), .int .i64 ((ag af 0).f2), .int .i64 ((ag af 0).f3), .slice Dr ((ag af 0).f4).length Dt]] rfl mp_ ?_; (with_reducible refine (ih kj63 (by have := HJ1.out; have := HJ6.out; have := HJ63.out; omega) ((ag af 0).f0) ((ag af 0).f1) ((ag af 0).f2) ((ag af 0).f3) _ _ ((ag af 0).f4) Dn _ ?az ?aA A71.out).mono ?_); (case az => exact cb_ (Kd.aK Ar.out HB.out)); (case aA => exact Au.out); rintro e w75 ⟨rfl, hb⟩; refine ⟨_, rfl, ?_⟩; replace eQ := kb_ eQ hb; replace HB := aa.mk (ai bl_ hb); (try clear hb); (try clear hb2); (try clear hk); (try clear hi); obtain ⟨hcz76_0, hcz76_1, hcz76_2, hcz76_3, hcz76_4, hfz76_0, hfz76_1, hfz76_2, hfz76_3, hfz76_4⟩ := bg eQ.out; have Du : 0 ≤ (0 : Int) := (by omega); have Dv : 0 < (af.length : Int) := dt_; obtain ⟨Kw, A288_4, c288_4, e288, sG, sH, sI, sJ, oC, yL, yM⟩ := dZ bu.out 0 Du Dv; obtain rfl : El = Kw := (by injection e288); have qi288 : (0 < af.length) = True := eq_true (by omega); (try simp only [z0_, Nat.zero_mul, Addr.add_zero'] at sG); (try simp only [z0_, Nat.zero_mul, Addr.add_zero'] at sH); (try simp only [z0_, Nat.zero_mul, Addr.add_zero'] at sI); (try simp only [z0_, Nat.zero_mul, Addr.add_zero'] at sJ); (try simp only [z0_, Nat.zero_mul, Addr.add_zero'] at oC); replace sG := hc_ HB sG; replace sH := hc_ HB sH; replace sI := hc_ HB sI; replace sJ := hc_ HB sJ; replace oC := hc_ HB oC; have QO := aa.mk yM; have QP := aa.mk yL; clear yM yL; replace Du := eq_true Du; replace Dv := eq_true Dv))
                 go_ret; exact ⟨re_, bl_⟩
                ·rw [if_neg c73] at H; obtain ⟨c73b0, c73b1⟩ := bn_ c73; by_cases c77 : ((ag af 0).f0) = 2
                 ·rw [if_pos c77] at H; obtain ⟨c77b0, c77b1⟩ := bq_ c77; clear c77; obtain rfl := Option.some.inj H; obtain ⟨hcz78_0, hcz78_1, hcz78_2, hcz78_3, hcz78_4, hfz78_0, hfz78_1, hfz78_2, hfz78_3, hfz78_4⟩ := bg eQ.out; have xJ : 0 ≤ (0 : Int) := (by omega); have xK : 0 < (af.length : Int) := dt_; obtain ⟨El, Dr, Dt, e286, lT, lU, lV, lW, lX, sD, sF⟩ := dZ bu.out 0 xJ xK; cases e286; have qi286 : (0 < af.length) = True := eq_true (by omega); (try simp only [z0_, Nat.zero_mul, Addr.add_zero'] at lT lU lV lW lX)
                  replace lT := hc_ HB lT; replace lU := hc_ HB lU; replace lV := hc_ HB lV; replace lW := hc_ HB lW; replace lX := hc_ HB lX; have Ar := aa.mk sF; have Au := aa.mk sD; clear sF sD; replace xJ := eq_true xJ; replace xK := eq_true xK; go_wp2_with (first | ((with_reducible refine aD (f := 46) rfl ?_); refine aZ (some 126) rfl rfl Tryd.func46 (by kernel_rfl) rfl #[.agg #[.int .i64 ((ag af 0).f0), .int .i64 ((ag af 0).f1), .int .i64 ((ag af 0).f2), .int .i64 ((ag af 0).f3), .slice Dr ((ag af 0).f4).length Dt]] rfl mp_ ?_; (with_reducible refine (ih kj63 (by have := HJ1.out; have := HJ6.out; have := HJ63.out; omega) ((ag af 0).f0) ((ag af 0).f1) ((ag af 0).f2) ((ag af 0).f3) _ _ ((ag af 0).f4) Dn _ ?az ?aA A71.out).mono ?_); (case az => exact cb_ (Kd.aK Ar.out HB.out)); (case aA => exact Au.out); rintro e w79 ⟨rfl, hb⟩; refine ⟨_, rfl, ?_⟩; replace eQ := kb_ eQ hb; replace HB := aa.mk (ai bl_ hb); (try clear hb); (try clear hb2); (try clear hk); (try clear hi); obtain ⟨hcz80_0, hcz80_1, hcz80_2, hcz80_3, hcz80_4, hfz80_0, hfz80_1, hfz80_2, hfz80_3, hfz80_4⟩ := bg eQ.out; have Du : 0 ≤ (0 : Int) := (by omega); have Dv : 0 < (af.length : Int) := dt_; obtain ⟨Kw, A288_4, c288_4, e288, sG, sH, sI, sJ, oC, yL, yM⟩ := dZ bu.out 0 Du Dv; obtain rfl : El = Kw := (by injection e288); have qi288 : (0 < af.length) = True := eq_true (by omega); (try simp only [z0_, Nat.zero_mul, Addr.add_zero'] at sG); (try simp only [z0_, Nat.zero_mul, Addr.add_zero'] at sH); (try simp only [z0_, Nat.zero_mul, Addr.add_zero'] at sI); (try simp only [z0_, Nat.zero_mul, Addr.add_zero'] at sJ); (try simp only [z0_, Nat.zero_mul, Addr.add_zero'] at oC); replace sG := hc_ HB sG; replace sH := hc_ HB sH; replace sI := hc_ HB sI; replace sJ := hc_ HB sJ; replace oC := hc_ HB oC; have QO := aa.mk yM; have QP := aa.mk yL; clear yM yL; replace Du := eq_true Du; replace Dv := eq_true Dv; have p289 : 0 ≤ (0 : Int) := (by omega); have q289 : 0 < (af.length : Int) := dt_; obtain ⟨ad289, A289_4, c289_4, e289, Av, Aw, Ay, Az, xc, FC, FD⟩ := dZ bu.out 0 p289 q289; obtain rfl : El = ad289 := (by injection e289); have qi289 : (0 < af.length) = True := eq_true (by omega); (try simp only [z0_, Nat.zero_mul, Addr.add_zero'] at Av); (try simp only [z0_, Nat.zero_mul, Addr.add_zero'] at Aw); (try simp only [z0_, Nat.zero_mul, Addr.add_zero'] at Ay); (try simp only [z0_, Nat.zero_mul, Addr.add_zero'] at Az); (try simp only [z0_, Nat.zero_mul, Addr.add_zero'] at xc); replace Av := hc_ HB Av; replace Aw := hc_ HB Aw; replace Ay := hc_ HB Ay; replace Az := hc_ HB Az; replace xc := hc_ HB xc; have HR289_4 := aa.mk FD; have HC289_4 := aa.mk FC; clear FD FC; replace p289 := eq_true p289; replace q289 := eq_true q289; have ea_ := Option.some.inj (oC.symm.trans xc); injection ea_ with ea_ en_ ec_; subst ea_; subst ec_; clear en_))
                  go_ret; exact ⟨re_, bl_⟩
                 ·rw [if_neg c77] at H; obtain ⟨c77b0, c77b1⟩ := bn_ c77; obtain rfl := Option.some.inj H; obtain ⟨hcz81_0, hcz81_1, hcz81_2, hcz81_3, hcz81_4, hfz81_0, hfz81_1, hfz81_2, hfz81_3, hfz81_4⟩ := bg eQ.out; have xJ : 0 ≤ (0 : Int) := (by omega); have xK : 0 < (af.length : Int) := dt_; obtain ⟨El, Dr, Dt, e286, lT, lU, lV, lW, lX, sD, sF⟩ := dZ bu.out 0 xJ xK; cases e286; have qi286 : (0 < af.length) = True := eq_true (by omega); (try simp only [z0_, Nat.zero_mul, Addr.add_zero'] at lT lU lV lW lX)
                  replace lT := hc_ HB lT; replace lU := hc_ HB lU; replace lV := hc_ HB lV; replace lW := hc_ HB lW; replace lX := hc_ HB lX; have Ar := aa.mk sF; have Au := aa.mk sD; clear sF sD; replace xJ := eq_true xJ; replace xK := eq_true xK; go_wp2_with (first | ((with_reducible refine aD (f := 46) rfl ?_); refine aZ (some 126) rfl rfl Tryd.func46 (by kernel_rfl) rfl #[.agg #[.int .i64 ((ag af 0).f0), .int .i64 ((ag af 0).f1), .int .i64 ((ag af 0).f2), .int .i64 ((ag af 0).f3), .slice Dr ((ag af 0).f4).length Dt]] rfl mp_ ?_; (with_reducible refine (ih kj63 (by have := HJ1.out; have := HJ6.out; have := HJ63.out; omega) ((ag af 0).f0) ((ag af 0).f1) ((ag af 0).f2) ((ag af 0).f3) _ _ ((ag af 0).f4) Dn _ ?az ?aA A71.out).mono ?_); (case az => exact cb_ (Kd.aK Ar.out HB.out)); (case aA => exact Au.out); rintro e w82 ⟨rfl, hb⟩; refine ⟨_, rfl, ?_⟩; replace eQ := kb_ eQ hb; replace HB := aa.mk (ai bl_ hb); (try clear hb); (try clear hb2); (try clear hk); (try clear hi); obtain ⟨hcz83_0, hcz83_1, hcz83_2, hcz83_3, hcz83_4, hfz83_0, hfz83_1, hfz83_2, hfz83_3, hfz83_4⟩ := bg eQ.out; have Du : 0 ≤ (0 : Int) := (by omega); have Dv : 0 < (af.length : Int) := dt_; obtain ⟨Kw, A288_4, c288_4, e288, sG, sH, sI, sJ, oC, yL, yM⟩ := dZ bu.out 0 Du Dv; obtain rfl : El = Kw := (by injection e288); have qi288 : (0 < af.length) = True := eq_true (by omega); (try simp only [z0_, Nat.zero_mul, Addr.add_zero'] at sG); (try simp only [z0_, Nat.zero_mul, Addr.add_zero'] at sH); (try simp only [z0_, Nat.zero_mul, Addr.add_zero'] at sI); (try simp only [z0_, Nat.zero_mul, Addr.add_zero'] at sJ); (try simp only [z0_, Nat.zero_mul, Addr.add_zero'] at oC); replace sG := hc_ HB sG; replace sH := hc_ HB sH; replace sI := hc_ HB sI; replace sJ := hc_ HB sJ; replace oC := hc_ HB oC; have QO := aa.mk yM; have QP := aa.mk yL; clear yM yL; replace Du := eq_true Du; replace Dv := eq_true Dv; have p289 : 0 ≤ (0 : Int) := (by omega); have q289 : 0 < (af.length : Int) := dt_; obtain ⟨ad289, A289_4, c289_4, e289, Av, Aw, Ay, Az, xc, FC, FD⟩ := dZ bu.out 0 p289 q289; obtain rfl : El = ad289 := (by injection e289); have qi289 : (0 < af.length) = True := eq_true (by omega); (try simp only [z0_, Nat.zero_mul, Addr.add_zero'] at Av); (try simp only [z0_, Nat.zero_mul, Addr.add_zero'] at Aw); (try simp only [z0_, Nat.zero_mul, Addr.add_zero'] at Ay); (try simp only [z0_, Nat.zero_mul, Addr.add_zero'] at Az); (try simp only [z0_, Nat.zero_mul, Addr.add_zero'] at xc); replace Av := hc_ HB Av; replace Aw := hc_ HB Aw; replace Ay := hc_ HB Ay; replace Az := hc_ HB Az; replace xc := hc_ HB xc; have HR289_4 := aa.mk FD; have HC289_4 := aa.mk FC; clear FD FC; replace p289 := eq_true p289; replace q289 := eq_true q289; have ea_ := Option.some.inj (oC.symm.trans xc); injection ea_ with ea_ en_ ec_; subst ea_; subst ec_; clear en_))
                  go_ret; exact ⟨re_, bl_⟩
               ·rw [if_neg c72] at H; obtain ⟨c72b0, c72b1⟩ := bn_ c72; obtain rfl := Option.some.inj H; obtain ⟨hcz84_0, hcz84_1, hcz84_2, hcz84_3, hcz84_4, hfz84_0, hfz84_1, hfz84_2, hfz84_3, hfz84_4⟩ := bg eQ.out; have xJ : 0 ≤ (0 : Int) := (by omega); have xK : 0 < (af.length : Int) := dt_; obtain ⟨El, Dr, Dt, e286, lT, lU, lV, lW, lX, sD, sF⟩ := dZ bu.out 0 xJ xK; cases e286; have qi286 : (0 < af.length) = True := eq_true (by omega); (try simp only [z0_, Nat.zero_mul, Addr.add_zero'] at lT lU lV lW lX)
                replace lT := hc_ HB lT; replace lU := hc_ HB lU; replace lV := hc_ HB lV; replace lW := hc_ HB lW; replace lX := hc_ HB lX; have Ar := aa.mk sF; have Au := aa.mk sD; clear sF sD; replace xJ := eq_true xJ; replace xK := eq_true xK; go_wp2_with (first | ((with_reducible refine aD (f := 46) rfl ?_); refine aZ (some 126) rfl rfl Tryd.func46 (by kernel_rfl) rfl #[.agg #[.int .i64 ((ag af 0).f0), .int .i64 ((ag af 0).f1), .int .i64 ((ag af 0).f2), .int .i64 ((ag af 0).f3), .slice Dr ((ag af 0).f4).length Dt]] rfl mp_ ?_; (with_reducible refine (ih kj63 (by have := HJ1.out; have := HJ6.out; have := HJ63.out; omega) ((ag af 0).f0) ((ag af 0).f1) ((ag af 0).f2) ((ag af 0).f3) _ _ ((ag af 0).f4) Dn _ ?az ?aA A71.out).mono ?_); (case az => exact cb_ (Kd.aK Ar.out HB.out)); (case aA => exact Au.out); rintro e w85 ⟨rfl, hb⟩; refine ⟨_, rfl, ?_⟩; replace eQ := kb_ eQ hb; replace HB := aa.mk (ai bl_ hb); (try clear hb); (try clear hb2); (try clear hk); (try clear hi)))
                go_ret; exact ⟨re_, bl_⟩
              ·rw [if_neg c70] at H; exact absurd H (by simp)
             ·rw [if_neg c69] at H; obtain ⟨Ea, c69b1⟩ := bn_ c69; obtain rfl := Option.some.inj H; obtain ⟨hcz86_0, hcz86_1, hcz86_2, hcz86_3, hcz86_4, hfz86_0, hfz86_1, hfz86_2, hfz86_3, hfz86_4⟩ := bg eQ.out; go_wp2; go_ret; exact ⟨re_, bl_⟩
         ·rw [if_neg c63] at H; obtain ⟨c63b0, c63b1⟩ := bn_ c63; obtain rfl := Option.some.inj H; go_wp2; go_ret; exact ⟨re_, bl_⟩

end Go.Proofs.YtggelekooacmnaaDoor.Q
namespace Go.Proofs.YtggelekooacmnaaDoor.Q
open Go.RowKit Go.Proofs.YtggelekooacmnaaDoorW.aU Go.Proofs.YtggelekooacmnaaDoorW.bD Go.Proofs.YtggelekooacmnaaDoorW.bH
attribute [local go_sem] dB dC dN dO cO cZ dD dE   -- for this text's walks alone
set_option linter.unusedVariables false
set_option linter.unusedSimpArgs false

/-! ### aT: function 47 -/
mutual
def aT.j0 : Nat → Int → Bool → Int → Int → Int → Int → List (S24) → Option ((List (S41)))
 | 0, _, _, _, _, _, _, _ => none
 | k + 1, x8, x21, AA, CO, CP, yN, jE => if x21 = true then (some (([(⟨AA, 0, 0⟩ : S41)] : List (S41)))) else (if x8 = 6 then (aT.l0 k (([(⟨2, 0, yN⟩ : S41)] : List (S41))) 0 AA CO CP yN jE) else (aT.l1 k ([] : List (S41)) 0 AA CO CP yN jE))
def aT.l0 : Nat → List (S41) → Int → Int → Int → Int → Int → List (S24) → Option ((List (S41)))
 | 0, _, _, _, _, _, _, _ => none
 | k + 1, x3, x4, AA, CO, CP, yN, jE => if x4 < yN then (if 0 < (jE.length : Int) then ((aT.f k ((ag jE 0).f0) ((ag jE 0).f1) ((ag jE 0).f2) ((ag jE 0).f3) ((ag jE 0).f4)).bind fun t304 => (if x3.length + t304.length < 5864062014805 then (aT.l0 k (x3 ++ t304) (wrap64 (x4 + 1)) AA CO CP yN jE) else (none))) else (none)) else (some x3)
def aT.l1 : Nat → List (S41) → Int → Int → Int → Int → Int → List (S24) → Option ((List (S41)))
 | 0, _, _, _, _, _, _, _ => none
 | k + 1, x5, x6, AA, CO, CP, yN, jE => if x6 < (jE.length : Int) then (if 0 ≤ x6 then ((aT.f k ((ag jE x6).f0) ((ag jE x6).f1) ((ag jE x6).f2) ((ag jE x6).f3) ((ag jE x6).f4)).bind fun t311 => (if x5.length + t311.length < 5864062014805 then (aT.l1 k (x5 ++ t311) (wrap64 (x6 + 1)) AA CO CP yN jE) else (none))) else (none)) else (some x5)
def aT.f : Nat → Int → Int → Int → Int → List (S24) → Option ((List (S41)))
 | 0, _, _, _, _, _ => none
 | k + 1, ah, au, aj, ak, af => if ah = 1 then (some (([(⟨1, 0, 1⟩ : S41)] : List (S41)))) else (if ah = 2 then (some (([(⟨2, au, aj⟩ : S41)] : List (S41)))) else (if ah = 3 then (aT.j0 k ah (ah == 3) ah au aj ak af) else (aT.j0 k ah (ah == 4) ah au aj ak af)))
end
set_option maxHeartbeats 8000000 in
set_option maxRecDepth 100000 in
theorem aT.calls (k : Nat) : ∀ (ah : Int) (au : Int) (aj : Int) (ak : Int) (aM : Option Addr) (aH : Nat) (af : List (S24)) (r : List (S41)) (w : World) (di : Kd.C k24 w aM af.length af) (dm : af.length ≤ aH) (h : aT.f k ah au aj ak af = some r),
  Calls Tryd.prog 47 #[.agg #[.int .i64 ah, .int .i64 au, .int .i64 aj, .int .i64 ak, .slice aM af.length aH]] w fun e w' => ∃ v0_ : Value, e = .returned (v0_) ∧ Kd.R k41 41 w' w.heap.size (fun _ => True) v0_ r ∧ Below w.heap.size w w' := by
 induction k using Nat.strongRecOn with
 | _ k ih =>
 intro ah au aj ak aM aH af r w di dm h; cases k with
 | zero => exact absurd h (by simp [aT.f])
 | succ k =>
 simp only [aT.f] at h; have mg := Tryd.underlying24; have hu41 := Tryd.underlying41; have bu := aa.mk di; have bU := aa.mk dm; clear di dm; have HB := aa.mk (Below.refl w.heap.size w); have H : (if ah = 1 then (some (([(⟨1, 0, 1⟩ : S41)] : List (S41)))) else (if ah = 2 then (some (([(⟨2, au, aj⟩ : S41)] : List (S41)))) else (if ah = 3 then (aT.j0 k ah (ah == 3) ah au aj ak af) else (aT.j0 k ah (ah == 4) ah au aj ak af)))) = some r := h; clear h; by_cases c2 : ah = 1
 ·rw [if_pos c2] at H; obtain ⟨iZ, kR⟩ := bq_ c2; clear c2; obtain ⟨y291, Ky⟩ : ∃ y_ : List (S41), y_ = (([(⟨1, 0, 1⟩ : S41)] : List (S41))) := ⟨_, rfl⟩; replace H : (some y291) = some r := by first | (rw [Ky]; with_reducible exact H) | (have H2_ := (Option.bind_some _ _).symm.trans H; rw [Ky]; with_reducible exact H2_) | (have H2_ := (Option.bind_some _ _).symm.trans H; with_reducible exact H2_) | with_reducible exact H | (rw [Ky]; exact H) | exact H
  have Ny291 := aa.mk Ky; clear Ky; obtain rfl := Option.some.inj H; go_enter Tryd.func47, Tryd.ntmps47; go_wp2_with (first | ((with_reducible refine aW (N := 1) rfl ?_); refine bf ?hg (N := 1) ?hd (cs := #[.int .i64 ah, .int .i64 au, .int .i64 aj, .int .i64 ak, .slice aM af.length aH]) (t := 24) ?hr ?_; (case hd => rfl); (case hg => rfl); (case hr => first | (go_simp; done) | (go_simp; rfl)); intro Bj hg w3 aG hb; have iL := aa.mk (aG); have Kz : aa (w.heap.size ≤ Bj) := gw_ hg (ax bl_); have GE290 := Kz; replace HB := aa.mk (ai bl_ hb); clear hb aG hg; obtain ⟨iA, iB, iC, iD, iE, iF, iG, iH, iI, iJ⟩ := bg iL.out) | ((with_reducible refine aW (N := 12) rfl ?_); refine Kd.mi k41 _ 41 ?hg (N := 12) ?hd (xs := ([(⟨1, 0, 1⟩ : S41)] : List (S41))) (inner := [.int .i64 1, .int .i64 0, .int .i64 1]) (ok := fun _ => True) (okp := fun _ => True) ?hr ?hp (fun _ hk => hk) trivial (Below.refl _ _) (Nat.le_refl _) (by simp) ?_; (case hd => rfl); (case hg => rfl); (case hr => first | (go_simp; done) | (go_simp; rfl)); (case hp => exact (dA.c3 (show Kd.M k41 _ _ _ (⟨1, 0, 1⟩ : S41) [.int .i64 1, .int .i64 0, .int .i64 1] from (xQ _ _ _ (⟨1, 0, 1⟩ : S41) )) (dA.none _ _))); intro v292 w5 ho6 hb hg_ fZ; clear hg_ fZ; (first | rw [← Ny291.out] at ho6 | (simp only [Int.reduceToNat] at ho6; rw [← Ny291.out] at ho6)); have HO293 := aa.mk (Kd.bC ho6 (ax bl_)); replace iL := kb_ iL hb; replace HB := aa.mk (ai bl_ hb); clear hb ho6))
  go_ret; exact ⟨_, re_, pR_ HO293.out, bl_⟩
 ·rw [if_neg c2] at H; obtain ⟨iZ, kR⟩ := bn_ c2; by_cases c7 : ah = 2
  ·rw [if_pos c7] at H; obtain ⟨jM, vo⟩ := bq_ c7; clear c7; obtain ⟨y294, KA⟩ : ∃ y_ : List (S41), y_ = (([(⟨2, au, aj⟩ : S41)] : List (S41))) := ⟨_, rfl⟩; replace H : (some y294) = some r := by first | (rw [KA]; with_reducible exact H) | (have H2_ := (Option.bind_some _ _).symm.trans H; rw [KA]; with_reducible exact H2_) | (have H2_ := (Option.bind_some _ _).symm.trans H; with_reducible exact H2_) | with_reducible exact H | (rw [KA]; exact H) | exact H
   have Ny294 := aa.mk KA; clear KA; obtain rfl := Option.some.inj H; go_enter Tryd.func47, Tryd.ntmps47; go_wp2_with (first | ((with_reducible refine aW (N := 1) rfl ?_); refine bf ?hg (N := 1) ?hd (cs := #[.int .i64 ah, .int .i64 au, .int .i64 aj, .int .i64 ak, .slice aM af.length aH]) (t := 24) ?hr ?_; (case hd => rfl); (case hg => rfl); (case hr => first | (go_simp; done) | (go_simp; rfl)); intro Bj hg w8 aG hb; have iL := aa.mk (aG); have Kz : aa (w.heap.size ≤ Bj) := gw_ hg (ax bl_); have GE290 := Kz; replace HB := aa.mk (ai bl_ hb); clear hb aG hg; obtain ⟨tC, tF, tH, uZ, u6, tJ, tK, tL, u7, vk⟩ := bg iL.out) | ((with_reducible refine aW (N := 20) rfl ?_); refine Kd.mi k41 _ 41 ?hg (N := 20) ?hd (xs := ([(⟨2, au, aj⟩ : S41)] : List (S41))) (inner := [.int .i64 2, .int .i64 au, .int .i64 aj]) (ok := fun _ => True) (okp := fun _ => True) ?hr ?hp (fun _ hk => hk) trivial (Below.refl _ _) (Nat.le_refl _) (by simp) ?_; (case hd => rfl); (case hg => rfl); (case hr => first | (go_simp; done) | (go_simp; rfl)); (case hp => exact (dA.c3 (show Kd.M k41 _ _ _ (⟨2, au, aj⟩ : S41) [.int .i64 2, .int .i64 au, .int .i64 aj] from (xQ _ _ _ (⟨2, au, aj⟩ : S41) )) (dA.none _ _))); intro v295 w10 Bz hb hg_ fZ; clear hg_ fZ; (first | rw [← Ny294.out] at Bz | (simp only [Int.reduceToNat] at Bz; rw [← Ny294.out] at Bz)); have HO296 := aa.mk (Kd.bC Bz (ax bl_)); replace iL := kb_ iL hb; replace HB := aa.mk (ai bl_ hb); clear hb Bz))
   go_ret; exact ⟨_, re_, pR_ HO296.out, bl_⟩
  ·rw [if_neg c7] at H; obtain ⟨jM, vo⟩ := bn_ c7; have HC12 := aa.mk H; clear H; go_enter Tryd.func47, Tryd.ntmps47; go_upto_if 21 with (first | ((with_reducible refine aW (N := 1) rfl ?_); refine bf ?hg (N := 1) ?hd (cs := #[.int .i64 ah, .int .i64 au, .int .i64 aj, .int .i64 ak, .slice aM af.length aH]) (t := 24) ?hr ?_; (case hd => rfl); (case hg => rfl); (case hr => first | (go_simp; done) | (go_simp; rfl)); intro Bj hg w13 aG hb; have iL := aa.mk (aG); have Kz : aa (w.heap.size ≤ Bj) := gw_ hg (ax bl_); have GE290 := Kz; replace HB := aa.mk (ai bl_ hb); clear hb aG hg; obtain ⟨ja, jb, jc, jd, je, jf, jg, jh, ji, jk⟩ := bg iL.out))
   (try simp only [Act.put, List.setIfInBounds_toArray, List.set_cons_zero, List.set_cons_succ])
   go_cut [21] (fun v21 wc => ∃ (kq : Nat) (KC : Bool), v21 = .bool KC ∧ aa (aT.j0 kq ah KC ah au aj ak af = some r) ∧ aa (kq ≤ k) ∧ aa (wc.heap[Bj]? = some (.cells #[.int .i64 ah, .int .i64 au, .int .i64 aj, .int .i64 ak, (.slice aM af.length aH)] 24 (0, 0))) ∧ aa (Below w.heap.size w wc))
   case first =>
    have H := HC12.out; clear HC12; by_cases c15 : ah = 3
    ·rw [if_pos c15] at H; obtain ⟨uM, D7⟩ := bq_ c15; clear c15; (first | rw [uM] | (simp only [dS, ek]; rw [uM]) | skip)
     have H' := aa.mk H; clear H; go_wp2; go_meet
     case rel => exact ⟨_, ((ah == 3)), rs_, H', ⟨by first | omega | exact Nat.le_refl _⟩, ⟨bk_⟩, ⟨bl_⟩⟩
    ·rw [if_neg c15] at H; obtain ⟨uM, D7⟩ := bn_ c15; (first | rw [uM] | (simp only [dS, ek]; rw [uM]) | skip)
     have H' := aa.mk H; clear H; go_wp2; go_meet
     case rel => exact ⟨_, ((ah == 4)), rs_, H', ⟨by first | omega | exact Nat.le_refl _⟩, ⟨bk_⟩, ⟨bl_⟩⟩
   case rest =>
    clear HC12; (try clear c1); (try clear c2); (try clear iZ); (try clear kR); (try clear p2); (try clear c3); (try clear c4); (try clear c7); (try clear jM); (try clear vo); (try clear c15); (try clear uM); (try clear D7); (try clear ja jb jc jd je jf jg jh ji jk); (try clear iA iB iC iD iE iF iG iH iI iJ); (try clear tC tF tH uZ u6 tJ tK tL u7 vk); obtain ⟨kq, KC, rfl, HA, HJ11, iL, HB⟩ := hcut; cases kq with
    | zero => exact absurd HA.out (by simp [aT.j0])
    | succ kj11 =>
     have H := HA.out; clear HA; simp only [aT.j0] at H; by_cases c16 : KC = true
     ·subst c16; have H1 : (some (([(⟨ah, 0, 0⟩ : S41)] : List (S41)))) = some r := by rw [if_pos rfl] at H; exact H
      clear H; have H := H1; clear H1; obtain ⟨y297, KD⟩ : ∃ y_ : List (S41), y_ = (([(⟨ah, 0, 0⟩ : S41)] : List (S41))) := ⟨_, rfl⟩; replace H : (some y297) = some r := by first | (rw [KD]; with_reducible exact H) | (have H2_ := (Option.bind_some _ _).symm.trans H; rw [KD]; with_reducible exact H2_) | (have H2_ := (Option.bind_some _ _).symm.trans H; with_reducible exact H2_) | with_reducible exact H | (rw [KD]; exact H) | exact H
      have Ny297 := aa.mk KD; clear KD; obtain rfl := Option.some.inj H; obtain ⟨mW, mX, mY, mZ, ng, ni, nk, nu, ny, nz⟩ := bg iL.out; go_wp2_with (first | ((with_reducible refine aW (N := 27) rfl ?_); refine Kd.mi k41 _ 41 ?hg (N := 27) ?hd (xs := ([(⟨ah, 0, 0⟩ : S41)] : List (S41))) (inner := [.int .i64 ah, .int .i64 0, .int .i64 0]) (ok := fun _ => True) (okp := fun _ => True) ?hr ?hp (fun _ hk => hk) trivial (Below.refl _ _) (Nat.le_refl _) (by simp) ?_; (case hd => rfl); (case hg => rfl); (case hr => first | (go_simp; done) | (go_simp; rfl)); (case hp => exact (dA.c3 (show Kd.M k41 _ _ _ (⟨ah, 0, 0⟩ : S41) [.int .i64 ah, .int .i64 0, .int .i64 0] from (xQ _ _ _ (⟨ah, 0, 0⟩ : S41) )) (dA.none _ _))); intro v298 w18 ho19 hb hg_ fZ; clear hg_ fZ; (first | rw [← Ny297.out] at ho19 | (simp only [Int.reduceToNat] at ho19; rw [← Ny297.out] at ho19)); have HO299 := aa.mk (Kd.bC ho19 (ax bl_)); replace iL := kb_ iL hb; replace HB := aa.mk (ai bl_ hb); clear hb ho19))
      go_ret; exact ⟨_, re_, pR_ HO299.out, bl_⟩
     ·replace c16 := Bool.eq_false_iff.mpr c16; subst c16; have H1 : (if ah = 6 then (aT.l0 kj11 (([(⟨2, 0, ak⟩ : S41)] : List (S41))) 0 ah au aj ak af) else (aT.l1 kj11 ([] : List (S41)) 0 ah au aj ak af)) = some r := by rw [if_neg (show ¬ (false = true) by decide)] at H; exact H
      clear H; have H := H1; clear H1; by_cases c20 : ah = 6
      ·rw [if_pos c20] at H; obtain ⟨qJ, BO⟩ := bq_ c20; clear c20; obtain ⟨y300, KE⟩ : ∃ y_ : List (S41), y_ = (([(⟨2, 0, ak⟩ : S41)] : List (S41))) := ⟨_, rfl⟩; replace H : (aT.l0 kj11 y300 0 ah au aj ak af) = some r := by first | (rw [KE]; with_reducible exact H) | (have H2_ := (Option.bind_some _ _).symm.trans H; rw [KE]; with_reducible exact H2_) | (have H2_ := (Option.bind_some _ _).symm.trans H; with_reducible exact H2_) | with_reducible exact H | (rw [KE]; exact H) | exact H
       have Ny300 := aa.mk KE; clear KE; have H' := aa.mk H; clear H; obtain ⟨kI, kJ, kK, pJ, pK, kL, kM, kN, pM, pO⟩ := bg iL.out; go_wp2_with (first | ((with_reducible refine aW (N := 33) rfl ?_); refine Kd.mi k41 _ 41 ?hg (N := 33) ?hd (xs := ([(⟨2, 0, ak⟩ : S41)] : List (S41))) (inner := [.int .i64 2, .int .i64 0, .int .i64 ak]) (ok := fun _ => True) (okp := fun _ => True) ?hr ?hp (fun _ hk => hk) trivial (Below.refl _ _) (Nat.le_refl _) (by simp) ?_; (case hd => rfl); (case hg => rfl); (case hr => first | (go_simp; done) | (go_simp; rfl)); (case hp => exact (dA.c3 (show Kd.M k41 _ _ _ (⟨2, 0, ak⟩ : S41) [.int .i64 2, .int .i64 0, .int .i64 ak] from (xQ _ _ _ (⟨2, 0, ak⟩ : S41) )) (dA.none _ _))); intro v301 w22 uY hb hg_ fZ; clear hg_ fZ; (first | rw [← Ny300.out] at uY | (simp only [Int.reduceToNat] at uY; rw [← Ny300.out] at uY)); have HO302 := aa.mk (Kd.bC uY (ax bl_)); replace iL := kb_ iL hb; replace HB := aa.mk (ai bl_ hb); clear hb uY))
       go_loopg [3, 4] kj11 (fun kq v3 v4 w' => ∃ (nL : List (S41)) (Ag : Int), v4 = .int .i64 Ag ∧ aa (aT.l0 kq nL Ag ah au aj ak af = some r) ∧ aa (kq ≤ kj11) ∧ aa (Kd.R k41 41 w' w.heap.size (fun _ => True) v3 nL) ∧ aa (w'.heap[Bj]? = some (.cells #[.int .i64 ah, .int .i64 au, .int .i64 aj, .int .i64 ak, (.slice aM af.length aH)] 24 (0, 0))) ∧ aa (Below w.heap.size w w'))
       case atStart => exact ⟨(y300), (0), rs_, H', ⟨Nat.le_refl _⟩, ⟨pR_ HO302.out⟩, ⟨bk_⟩, ⟨bl_⟩⟩
       case round =>
        clear H'; (try clear c1); (try clear c2); (try clear iZ); (try clear kR); (try clear p2); (try clear c3); (try clear c4); (try clear c7); (try clear jM); (try clear vo); (try clear c15); (try clear uM); (try clear D7); (try clear c16); (try clear c20); (try clear qJ); (try clear BO); (try clear ja jb jc jd je jf jg jh ji jk); (try clear mW mX mY mZ ng ni nk nu ny nz); (try clear kI kJ kK pJ pK kL kM kN pM pO); (try clear iA iB iC iD iE iF iG iH iI iJ); (try clear tC tF tH uZ u6 tJ tK tL u7 vk); (try clear p2); obtain ⟨nL, Ag, rfl, HA, HK2, gV, iL, HB⟩ := hrel; cases gk with
        | zero => exact absurd HA.out (by simp [aT.l0])
        | succ k2 =>
         have H := HA.out; clear HA; simp only [aT.l0] at H; by_cases c24 : Ag < ak
         ·rw [if_pos c24] at H; have qG := decide_eq_true c24; clear c24; by_cases c25 : 0 < (af.length : Int)
          ·rw [if_pos c25] at H; have D8 := decide_eq_true c25; have D9 : decide (0 < af.length) = true := decide_eq_true (by omega); clear c25; replace H := Option.bind_eq_some_iff.mp H; obtain ⟨t304, A260, H⟩ := H; (try dsimp only at H)
           have A26 := aa.mk A260; clear A260; by_cases c27 : nL.length + t304.length < 5864062014805
           ·rw [if_pos c27] at H; have LMc27 := aa.mk c27; clear c27; obtain ⟨y307, KF⟩ : ∃ y_ : List (S41), y_ = (nL ++ t304) := ⟨_, rfl⟩; replace H : (aT.l0 k2 y307 (wrap64 (Ag + 1)) ah au aj ak af) = some r := by first | (rw [KF]; with_reducible exact H) | (have H2_ := (Option.bind_some _ _).symm.trans H; rw [KF]; with_reducible exact H2_) | (have H2_ := (Option.bind_some _ _).symm.trans H; with_reducible exact H2_) | with_reducible exact H | (rw [KF]; exact H) | exact H
            have Ny307 := aa.mk KF; clear KF; have H' := aa.mk H; clear H; obtain ⟨pQ, pR, pU, pV, pW, pX, pY, p8, p9, qa⟩ := bg iL.out; have p303 : 0 ≤ (0 : Int) := (by omega); have q303 : 0 < (af.length : Int) := dt_; obtain ⟨ad303, A303_4, c303_4, e303, I6, I7, I8, I9, Ja, QQ, QR⟩ := dZ bu.out 0 p303 q303; cases e303; have qi303 : (0 < af.length) = True := eq_true (by omega); (try simp only [z0_, Nat.zero_mul, Addr.add_zero'] at I6 I7 I8 I9 Ja)
            replace I6 := hc_ HB I6; replace I7 := hc_ HB I7; replace I8 := hc_ HB I8; replace I9 := hc_ HB I9; replace Ja := hc_ HB Ja; have HR303_4 := aa.mk QR; have HC303_4 := aa.mk QQ; clear QR QQ; replace p303 := eq_true p303; replace q303 := eq_true q303; go_wp2_with (first | ((with_reducible refine aD (f := 47) rfl ?_); refine aZ (some 45) rfl rfl Tryd.func47 (by kernel_rfl) rfl #[.agg #[.int .i64 ((ag af 0).f0), .int .i64 ((ag af 0).f1), .int .i64 ((ag af 0).f2), .int .i64 ((ag af 0).f3), .slice A303_4 ((ag af 0).f4).length c303_4]] rfl mp_ ?_; (with_reducible refine (ih k2 (by have := HJ11.out; have := HK2.out; omega) ((ag af 0).f0) ((ag af 0).f1) ((ag af 0).f2) ((ag af 0).f3) _ _ ((ag af 0).f4) t304 _ ?az ?aA A26.out).mono ?_); (case az => exact cb_ (Kd.aK HR303_4.out HB.out)); (case aA => exact HC303_4.out); rintro e w29 ⟨v305, rfl, ho0, hb⟩; refine ⟨_, rfl, ?_⟩; have KG := aa.mk (Kd.bC (Kd.cz ho0 (Kd.dQ (pR_ gV.out))) (ax bl_)); replace gV := aa.mk (Kd.cB (pR_ gV.out) (Kd.cu ho0) hb); replace iL := kb_ iL hb; replace HB := aa.mk (ai bl_ hb); (try clear hb); (try clear hb2); (try clear hk); (try clear hi); (try clear ho0); obtain ⟨Ao31, co31, eo31⟩ := Kd.bK KG.out; subst eo31) | ((with_reducible refine mf (b := .append) (xs := #[.tmp 40, .tmp 45]) rfl ?_); at_builtin; refine Kd.oW k41 (w0 := w) w.heap.size rfl (.tmp 40) (.tmp 45) 37 41 (.agg #[(.int .i64 0), (.int .i64 0), (.int .i64 0)]) 24 rfl Tryd.underlying37 JJ rfl (by decide) (by omega) u3 nL t304 _ _ _ (fun k_ => some k_ ≠ (.slice Ao31 t304.length co31 : Value).ownBlock) (fun _ => False) rfl rfl ?aO ?aR (fun _ _ h => h) (fun _ h => h.elim) ?aF ?aB ?aS ?aL ?_; (case aR => exact cb_ ((Kd.aY KG.out).2.2)); (case aB => exact bl_); (case aF => exact (fun k_ hk => Kd.fresh' (Kd.dQ (pR_ KG.out)) k_ hk)); (case aO => exact (by (with_reducible repeat (first | apply Kd.bL | apply Kd.bM | apply Kd.bQ)); exact Kd.bG gV.out (fun _ hk => hk.2))); (case aS => exact (ax bl_)); (case aL => have := LMc27.out; omega); intro v308 w30 ho hb hg hat; rw [← Ny307.out] at ho; have HO309 := aa.mk (ho); replace iL := aa.mk (qy (g := Bj) (o := .cells #[.int .i64 ah, .int .i64 au, .int .i64 aj, .int .i64 ak, .slice (some ad303) af.length aH] 24 (0, 0)) bk_ hg (Kd.R_ne gV.out iL.out (by decide))); replace KG := aa.mk (Kd.BZ (ok := (fun _ => True)) (pR_ KG.out) hg hat); replace HB := aa.mk (hb); clear gV; clear ho hb hg hat))
            go_roundg k2
            case measure => have := HJ11.out; have := HK2.out; omega
            case rel => exact ⟨(y307), (wrap64 (Ag + 1)), rs_, H', ⟨by have := HJ11.out; have := HK2.out; omega⟩, ⟨by (with_reducible repeat (first | apply Kd.bL | apply Kd.bM | apply Kd.bQ)); exact Kd.bG HO309.out (fun _ hk => trivial)⟩, ⟨bk_⟩, ⟨bl_⟩⟩
           ·rw [if_neg c27] at H; exact absurd H (by simp)
          ·rw [if_neg c25] at H; exact absurd H (by simp)
         ·rw [if_neg c24] at H; have qG := decide_eq_false c24; clear c24; obtain rfl := Option.some.inj H; obtain ⟨Cn, Co, Cq, Cr, Cs, Ct, Cu, Cv, Cw, Cx⟩ := bg iL.out; go_wp2; go_ret; exact ⟨_, re_, pR_ gV.out, bl_⟩
      ·rw [if_neg c20] at H; obtain ⟨qJ, BO⟩ := bn_ c20; have H' := aa.mk H; clear H; go_wp2; go_loopg [5, 6] kj11 (fun kq v5 v6 w' => ∃ (bY : List (S41)) (gT : Int), v6 = .int .i64 gT ∧ aa (aT.l1 kq bY gT ah au aj ak af = some r) ∧ aa (kq ≤ kj11) ∧ aa (Kd.R k41 41 w' w.heap.size (fun _ => True) v5 bY) ∧ aa (w'.heap[Bj]? = some (.cells #[.int .i64 ah, .int .i64 au, .int .i64 aj, .int .i64 ak, (.slice aM af.length aH)] 24 (0, 0))) ∧ aa (Below w.heap.size w w'))
       case atStart => exact ⟨(([] : List (S41))), (0), rs_, H', ⟨Nat.le_refl _⟩, ⟨by first | exact Kd.mh _ _ _ _ _ | exact Kd.yS _ _ _ _ _ | exact Kd.yU _ _ _ _ _ | exact Kd.yQ _ _ _ _ _ | exact Kd.yR _ _ _ _ _⟩, ⟨bk_⟩, ⟨bl_⟩⟩
       case round =>
        clear H'; (try clear c1); (try clear c2); (try clear iZ); (try clear kR); (try clear p2); (try clear c3); (try clear p3); (try clear q3); (try clear hx3); (try clear qi3); (try clear c4); (try clear p6); (try clear c7); (try clear jM); (try clear vo); (try clear c15); (try clear uM); (try clear D7); (try clear c16); (try clear c20); (try clear qJ); (try clear BO); (try clear c24); (try clear qG); (try clear c25); (try clear D8); (try clear D9); (try clear c27); (try clear c30); (try clear p30); (try clear q30); (try clear hx30); (try clear qi30); (try clear ja jb jc jd je jf jg jh ji jk); (try clear mW mX mY mZ ng ni nk nu ny nz); (try clear kI kJ kK pJ pK kL kM kN pM pO); (try clear pQ pR pU pV pW pX pY p8 p9 qa); (try clear Cn Co Cq Cr Cs Ct Cu Cv Cw Cx); (try clear iA iB iC iD iE iF iG iH iI iJ); (try clear tC tF tH uZ u6 tJ tK tL u7 vk); (try clear I6); (try clear I7); (try clear I8); (try clear I9); (try clear Ja); (try clear p2); (try clear p303); (try clear q303); obtain ⟨bY, gT, rfl, HA, HK2, gy, iL, HB⟩ := hrel; cases gk with
        | zero => exact absurd HA.out (by simp [aT.l1])
        | succ k2 =>
         have H := HA.out; clear HA; simp only [aT.l1] at H; by_cases c33 : gT < (af.length : Int)
         ·rw [if_pos c33] at H; have Ba := decide_eq_true c33; clear c33; by_cases c34 : 0 ≤ gT
          ·rw [if_pos c34] at H; have Kr := decide_eq_true c34; clear c34; replace H := Option.bind_eq_some_iff.mp H; obtain ⟨t311, A350, H⟩ := H; (try dsimp only at H)
           have A35 := aa.mk A350; clear A350; by_cases c36 : bY.length + t311.length < 5864062014805
           ·rw [if_pos c36] at H; have LMc36 := aa.mk c36; clear c36; obtain ⟨y314, KH⟩ : ∃ y_ : List (S41), y_ = (bY ++ t311) := ⟨_, rfl⟩; replace H : (aT.l1 k2 y314 (wrap64 (gT + 1)) ah au aj ak af) = some r := by first | (rw [KH]; with_reducible exact H) | (have H2_ := (Option.bind_some _ _).symm.trans H; rw [KH]; with_reducible exact H2_) | (have H2_ := (Option.bind_some _ _).symm.trans H; with_reducible exact H2_) | with_reducible exact H | (rw [KH]; exact H) | exact H
            have Ny314 := aa.mk KH; clear KH; have H' := aa.mk H; clear H; obtain ⟨qP, qQ, qR, uw, uy, qU, qV, qW, uz, uA⟩ := bg iL.out; have p310 : 0 ≤ (gT : Int) := dt_; have q310 : gT < (af.length : Int) := dt_; obtain ⟨ad310, A310_4, c310_4, e310, QS, QT, QU, QV, QW, QX, QY⟩ := dZ bu.out gT p310 q310; cases e310; replace QS := hc_ HB QS; replace QT := hc_ HB QT; replace QU := hc_ HB QU; replace QV := hc_ HB QV; replace QW := hc_ HB QW; have HR310_4 := aa.mk QY; have HC310_4 := aa.mk QX; clear QY QX; replace p310 := eq_true p310; replace q310 := eq_true q310; go_wp2_with (first | ((with_reducible refine aD (f := 47) rfl ?_); refine aZ (some 61) rfl rfl Tryd.func47 (by kernel_rfl) rfl #[.agg #[.int .i64 ((ag af gT).f0), .int .i64 ((ag af gT).f1), .int .i64 ((ag af gT).f2), .int .i64 ((ag af gT).f3), .slice A310_4 ((ag af gT).f4).length c310_4]] rfl mp_ ?_; (with_reducible refine (ih k2 (by have := HJ11.out; have := HK2.out; omega) ((ag af gT).f0) ((ag af gT).f1) ((ag af gT).f2) ((ag af gT).f3) _ _ ((ag af gT).f4) t311 _ ?az ?aA A35.out).mono ?_); (case az => exact cb_ (Kd.aK HR310_4.out HB.out)); (case aA => exact HC310_4.out); rintro e w38 ⟨v312, rfl, ho0, hb⟩; refine ⟨_, rfl, ?_⟩; have KI := aa.mk (Kd.bC (Kd.cz ho0 (Kd.dQ (pR_ gy.out))) (ax bl_)); replace gy := aa.mk (Kd.cB (pR_ gy.out) (Kd.cu ho0) hb); replace iL := kb_ iL hb; replace HB := aa.mk (ai bl_ hb); (try clear hb); (try clear hb2); (try clear hk); (try clear hi); (try clear ho0); obtain ⟨Ao40, co40, eo40⟩ := Kd.bK KI.out; subst eo40) | ((with_reducible refine mf (b := .append) (xs := #[.tmp 55, .tmp 61]) rfl ?_); at_builtin; refine Kd.oW k41 (w0 := w) w.heap.size rfl (.tmp 55) (.tmp 61) 37 41 (.agg #[(.int .i64 0), (.int .i64 0), (.int .i64 0)]) 24 rfl Tryd.underlying37 JJ rfl (by decide) (by omega) u5 bY t311 _ _ _ (fun k_ => some k_ ≠ (.slice Ao40 t311.length co40 : Value).ownBlock) (fun _ => False) rfl rfl ?aO ?aR (fun _ _ h => h) (fun _ h => h.elim) ?aF ?aB ?aS ?aL ?_; (case aR => exact cb_ ((Kd.aY KI.out).2.2)); (case aB => exact bl_); (case aF => exact (fun k_ hk => Kd.fresh' (Kd.dQ (pR_ KI.out)) k_ hk)); (case aO => exact (by (with_reducible repeat (first | apply Kd.bL | apply Kd.bM | apply Kd.bQ)); exact Kd.bG gy.out (fun _ hk => hk.2))); (case aS => exact (ax bl_)); (case aL => have := LMc36.out; omega); intro v315 w39 ho hb hg hat; rw [← Ny314.out] at ho; have HO316 := aa.mk (ho); replace iL := aa.mk (qy (g := Bj) (o := .cells #[.int .i64 ah, .int .i64 au, .int .i64 aj, .int .i64 ak, .slice (some ad310) af.length aH] 24 (0, 0)) bk_ hg (Kd.R_ne gy.out iL.out (by decide))); replace KI := aa.mk (Kd.BZ (ok := (fun _ => True)) (pR_ KI.out) hg hat); replace HB := aa.mk (hb); clear gy; clear ho hb hg hat))
            go_roundg k2
            case measure => have := HJ11.out; have := HK2.out; omega
            case rel => exact ⟨(y314), (wrap64 (gT + 1)), rs_, H', ⟨by have := HJ11.out; have := HK2.out; omega⟩, ⟨by (with_reducible repeat (first | apply Kd.bL | apply Kd.bM | apply Kd.bQ)); exact Kd.bG HO316.out (fun _ hk => trivial)⟩, ⟨bk_⟩, ⟨bl_⟩⟩
           ·rw [if_neg c36] at H; exact absurd H (by simp)
          ·rw [if_neg c34] at H; exact absurd H (by simp)
         ·rw [if_neg c33] at H; have Ba := decide_eq_false c33; clear c33; obtain rfl := Option.some.inj H; obtain ⟨hcz41_0, hcz41_1, hcz41_2, hcz41_3, hcz41_4, hfz41_0, hfz41_1, hfz41_2, hfz41_3, hfz41_4⟩ := bg iL.out; go_wp2; go_ret; exact ⟨_, re_, pR_ gy.out, bl_⟩

end Go.Proofs.YtggelekooacmnaaDoor.Q
namespace Go.Proofs.YtggelekooacmnaaDoor.Q
open Go.RowKit Go.Proofs.YtggelekooacmnaaDoorW.aU Go.Proofs.YtggelekooacmnaaDoorW.bD Go.Proofs.YtggelekooacmnaaDoorW.bH
attribute [local go_sem] dB dC dN dO cO cZ dD dE   -- for this text's walks alone
set_option linter.unusedVariables false
set_option linter.unusedSimpArgs false

/-! ### bE: function 22 -/
def bE.f (k : Nat) (ah : Int) (au : Int) (aj : Int) (ak : Int) (af : List (S24)) : Option (Int) := (bV.f k ah au aj ak af 11).bind fun Dw => (if Dw > 10 then (some 9) else ((aC.f k ah au aj ak af).bind fun t319 => (if t319 = 0 then ((aT.f k ah au aj ak af).bind fun Dx => (if (Dx.length : Int) > 24 then (some 9) else (some 0))) else (some t319))))
set_option maxHeartbeats 8000000 in
set_option maxRecDepth 100000 in
theorem bE.calls (k : Nat) (ah : Int) (au : Int) (aj : Int) (ak : Int) (aM : Option Addr) (aH : Nat) (af : List (S24)) (r : Int) (w : World) (di : Kd.C k24 w aM af.length af) (dm : af.length ≤ aH) (h : bE.f k ah au aj ak af = some r) :
  Calls Tryd.prog 22 #[.agg #[.int .i64 ah, .int .i64 au, .int .i64 aj, .int .i64 ak, .slice aM af.length aH]] w fun e w' => e = .returned (.int .i64 r) ∧ Below w.heap.size w w' := by
 have mg := Tryd.underlying24; have bu := aa.mk di; have bU := aa.mk dm; clear di dm; have HB := aa.mk (Below.refl w.heap.size w); have H : ((bV.f k ah au aj ak af 11).bind fun Dw => (if Dw > 10 then (some 9) else ((aC.f k ah au aj ak af).bind fun t319 => (if t319 = 0 then ((aT.f k ah au aj ak af).bind fun Dx => (if (Dx.length : Int) > 24 then (some 9) else (some 0))) else (some t319))))) = some r := h; clear h; replace H := Option.bind_eq_some_iff.mp H; obtain ⟨Dw, A20, H⟩ := H; (try dsimp only at H)
 have A2 := aa.mk A20; clear A20; by_cases c3 : Dw > 10
 ·rw [if_pos c3] at H; have gX : decide (10 < Dw) = true := decide_eq_true c3; clear c3; obtain rfl := Option.some.inj H; go_enter Tryd.func22, Tryd.ntmps22; go_wp2_with (first | ((with_reducible refine aW (N := 1) rfl ?_); refine bf ?hg (N := 1) ?hd (cs := #[.int .i64 ah, .int .i64 au, .int .i64 aj, .int .i64 ak, .slice aM af.length aH]) (t := 24) ?hr ?_; (case hd => rfl); (case hg => rfl); (case hr => first | (go_simp; done) | (go_simp; rfl)); intro Gc hg w4 aG hb; have iM := aa.mk (aG); have Gd : aa (w.heap.size ≤ Gc) := gw_ hg (ax bl_); have GE317 := Gd; replace HB := aa.mk (ai bl_ hb); clear hb aG hg; obtain ⟨CZ, C8, C9, Da, Db, Dc, De, Df, Dg, Dh⟩ := bg iM.out) | ((with_reducible refine aD (f := 45) rfl ?_); refine aZ (some 5) rfl rfl Tryd.func45 (by kernel_rfl) rfl #[.agg #[.int .i64 ah, .int .i64 au, .int .i64 aj, .int .i64 ak, .slice aM af.length aH], .int .i64 11] rfl mp_ ?_; (with_reducible refine (bV.calls k ah au aj ak _ _ af 11 Dw _ ?az ?aA A2.out).mono ?_); (case az => exact cb_ (Kd.aK bu.out HB.out)); (case aA => exact bU.out); rintro e w6 ⟨rfl, hb⟩; refine ⟨_, rfl, ?_⟩; replace iM := kb_ iM hb; replace HB := aa.mk (ai bl_ hb); (try clear hb); (try clear hb2); (try clear hk); (try clear hi)))
  go_ret; exact ⟨re_, bl_⟩
 ·rw [if_neg c3] at H; have gX : decide (10 < Dw) = false := decide_eq_false c3; clear c3; replace H := Option.bind_eq_some_iff.mp H; obtain ⟨t319, A70, H⟩ := H; (try dsimp only at H)
  have A7 := aa.mk A70; clear A70; by_cases c8 : t319 = 0
  ·rw [if_pos c8] at H; obtain ⟨gH, jv⟩ := bq_ c8; clear c8; replace H := Option.bind_eq_some_iff.mp H; obtain ⟨Dx, A90, H⟩ := H; (try dsimp only at H)
   have A9 := aa.mk A90; clear A90; by_cases c10 : (Dx.length : Int) > 24
   ·rw [if_pos c10] at H; have ig : decide (24 < (Dx.length : Int)) = true := decide_eq_true c10; have zl : decide (24 < Dx.length) = true := decide_eq_true (by omega); clear c10; obtain rfl := Option.some.inj H; go_enter Tryd.func22, Tryd.ntmps22; go_wp2_with (first | ((with_reducible refine aW (N := 1) rfl ?_); refine bf ?hg (N := 1) ?hd (cs := #[.int .i64 ah, .int .i64 au, .int .i64 aj, .int .i64 ak, .slice aM af.length aH]) (t := 24) ?hr ?_; (case hd => rfl); (case hg => rfl); (case hr => first | (go_simp; done) | (go_simp; rfl)); intro Gc hg w11 aG hb; have iM := aa.mk (aG); have Gd : aa (w.heap.size ≤ Gc) := gw_ hg (ax bl_); have GE317 := Gd; replace HB := aa.mk (ai bl_ hb); clear hb aG hg; obtain ⟨rz, rA, rC, rD, rE, rF, rG, rH, rJ, rM⟩ := bg iM.out) | ((with_reducible refine aD (f := 45) rfl ?_); refine aZ (some 5) rfl rfl Tryd.func45 (by kernel_rfl) rfl #[.agg #[.int .i64 ah, .int .i64 au, .int .i64 aj, .int .i64 ak, .slice aM af.length aH], .int .i64 11] rfl mp_ ?_; (with_reducible refine (bV.calls k ah au aj ak _ _ af 11 Dw _ ?az ?aA A2.out).mono ?_); (case az => exact cb_ (Kd.aK bu.out HB.out)); (case aA => exact bU.out); rintro e w13 ⟨rfl, hb⟩; refine ⟨_, rfl, ?_⟩; replace iM := kb_ iM hb; replace HB := aa.mk (ai bl_ hb); (try clear hb); (try clear hb2); (try clear hk); (try clear hi); obtain ⟨ja, jb, jc, jd, je, jf, jg, jh, ji, jk⟩ := bg iM.out) | ((with_reducible refine aD (f := 46) rfl ?_); refine aZ (some 8) rfl rfl Tryd.func46 (by kernel_rfl) rfl #[.agg #[.int .i64 ah, .int .i64 au, .int .i64 aj, .int .i64 ak, .slice aM af.length aH]] rfl mp_ ?_; (with_reducible refine (aC.calls k ah au aj ak _ _ af t319 _ ?az ?aA A7.out).mono ?_); (case az => exact cb_ (Kd.aK bu.out HB.out)); (case aA => exact bU.out); rintro e w15 ⟨rfl, hb⟩; refine ⟨_, rfl, ?_⟩; replace iM := kb_ iM hb; replace HB := aa.mk (ai bl_ hb); (try clear hb); (try clear hb2); (try clear hk); (try clear hi); obtain ⟨kC, kD, kE, o8, o9, kF, kG, kH, pg, pq⟩ := bg iM.out) | ((with_reducible refine aD (f := 47) rfl ?_); refine aZ (some 13) rfl rfl Tryd.func47 (by kernel_rfl) rfl #[.agg #[.int .i64 ah, .int .i64 au, .int .i64 aj, .int .i64 ak, .slice aM af.length aH]] rfl mp_ ?_; (with_reducible refine (aT.calls k ah au aj ak _ _ af Dx _ ?az ?aA A9.out).mono ?_); (case az => exact cb_ (Kd.aK bu.out HB.out)); (case aA => exact bU.out); rintro e w17 ⟨v321, rfl, ho0, hb⟩; refine ⟨_, rfl, ?_⟩; have HO322 := aa.mk (Kd.bC ho0 (ax bl_)); replace iM := kb_ iM hb; replace HB := aa.mk (ai bl_ hb); (try clear hb); (try clear hb2); (try clear hk); (try clear hi); (try clear ho0); obtain ⟨Ao18, co18, eo18⟩ := Kd.bK HO322.out; subst eo18))
    go_ret; exact ⟨re_, bl_⟩
   ·rw [if_neg c10] at H; have ig : decide (24 < (Dx.length : Int)) = false := decide_eq_false c10; have zl : decide (24 < Dx.length) = false := decide_eq_false (by omega); clear c10; obtain rfl := Option.some.inj H; go_enter Tryd.func22, Tryd.ntmps22; go_wp2_with (first | ((with_reducible refine aW (N := 1) rfl ?_); refine bf ?hg (N := 1) ?hd (cs := #[.int .i64 ah, .int .i64 au, .int .i64 aj, .int .i64 ak, .slice aM af.length aH]) (t := 24) ?hr ?_; (case hd => rfl); (case hg => rfl); (case hr => first | (go_simp; done) | (go_simp; rfl)); intro Gc hg w19 aG hb; have iM := aa.mk (aG); have Gd : aa (w.heap.size ≤ Gc) := gw_ hg (ax bl_); have GE317 := Gd; replace HB := aa.mk (ai bl_ hb); clear hb aG hg; obtain ⟨mH, mI, mJ, oq, ou, mK, mM, mO, ow, oz⟩ := bg iM.out) | ((with_reducible refine aD (f := 45) rfl ?_); refine aZ (some 5) rfl rfl Tryd.func45 (by kernel_rfl) rfl #[.agg #[.int .i64 ah, .int .i64 au, .int .i64 aj, .int .i64 ak, .slice aM af.length aH], .int .i64 11] rfl mp_ ?_; (with_reducible refine (bV.calls k ah au aj ak _ _ af 11 Dw _ ?az ?aA A2.out).mono ?_); (case az => exact cb_ (Kd.aK bu.out HB.out)); (case aA => exact bU.out); rintro e w21 ⟨rfl, hb⟩; refine ⟨_, rfl, ?_⟩; replace iM := kb_ iM hb; replace HB := aa.mk (ai bl_ hb); (try clear hb); (try clear hb2); (try clear hk); (try clear hi); obtain ⟨lF, lG, lH, mP, mQ, lI, lJ, lK, mR, mU⟩ := bg iM.out) | ((with_reducible refine aD (f := 46) rfl ?_); refine aZ (some 8) rfl rfl Tryd.func46 (by kernel_rfl) rfl #[.agg #[.int .i64 ah, .int .i64 au, .int .i64 aj, .int .i64 ak, .slice aM af.length aH]] rfl mp_ ?_; (with_reducible refine (aC.calls k ah au aj ak _ _ af t319 _ ?az ?aA A7.out).mono ?_); (case az => exact cb_ (Kd.aK bu.out HB.out)); (case aA => exact bU.out); rintro e w23 ⟨rfl, hb⟩; refine ⟨_, rfl, ?_⟩; replace iM := kb_ iM hb; replace HB := aa.mk (ai bl_ hb); (try clear hb); (try clear hb2); (try clear hk); (try clear hi); obtain ⟨xY, xZ, yc, zA, zB, yf, yg, yh, zC, zD⟩ := bg iM.out) | ((with_reducible refine aD (f := 47) rfl ?_); refine aZ (some 13) rfl rfl Tryd.func47 (by kernel_rfl) rfl #[.agg #[.int .i64 ah, .int .i64 au, .int .i64 aj, .int .i64 ak, .slice aM af.length aH]] rfl mp_ ?_; (with_reducible refine (aT.calls k ah au aj ak _ _ af Dx _ ?az ?aA A9.out).mono ?_); (case az => exact cb_ (Kd.aK bu.out HB.out)); (case aA => exact bU.out); rintro e w25 ⟨v321, rfl, ho0, hb⟩; refine ⟨_, rfl, ?_⟩; have HO322 := aa.mk (Kd.bC ho0 (ax bl_)); replace iM := kb_ iM hb; replace HB := aa.mk (ai bl_ hb); (try clear hb); (try clear hb2); (try clear hk); (try clear hi); (try clear ho0); obtain ⟨Ao26, co26, eo26⟩ := Kd.bK HO322.out; subst eo26))
    go_ret; exact ⟨re_, bl_⟩
  ·rw [if_neg c8] at H; obtain ⟨gH, jv⟩ := bn_ c8; obtain rfl := Option.some.inj H; go_enter Tryd.func22, Tryd.ntmps22; go_wp2_with (first | ((with_reducible refine aW (N := 1) rfl ?_); refine bf ?hg (N := 1) ?hd (cs := #[.int .i64 ah, .int .i64 au, .int .i64 aj, .int .i64 ak, .slice aM af.length aH]) (t := 24) ?hr ?_; (case hd => rfl); (case hg => rfl); (case hr => first | (go_simp; done) | (go_simp; rfl)); intro Gc hg w27 aG hb; have iM := aa.mk (aG); have Gd : aa (w.heap.size ≤ Gc) := gw_ hg (ax bl_); have GE317 := Gd; replace HB := aa.mk (ai bl_ hb); clear hb aG hg; obtain ⟨pQ, pR, pU, pV, pW, pX, pY, p8, p9, qa⟩ := bg iM.out) | ((with_reducible refine aD (f := 45) rfl ?_); refine aZ (some 5) rfl rfl Tryd.func45 (by kernel_rfl) rfl #[.agg #[.int .i64 ah, .int .i64 au, .int .i64 aj, .int .i64 ak, .slice aM af.length aH], .int .i64 11] rfl mp_ ?_; (with_reducible refine (bV.calls k ah au aj ak _ _ af 11 Dw _ ?az ?aA A2.out).mono ?_); (case az => exact cb_ (Kd.aK bu.out HB.out)); (case aA => exact bU.out); rintro e w29 ⟨rfl, hb⟩; refine ⟨_, rfl, ?_⟩; replace iM := kb_ iM hb; replace HB := aa.mk (ai bl_ hb); (try clear hb); (try clear hb2); (try clear hk); (try clear hi); obtain ⟨zF, zG, zH, zI, zJ, zK, zL, zM, zN, zO⟩ := bg iM.out) | ((with_reducible refine aD (f := 46) rfl ?_); refine aZ (some 8) rfl rfl Tryd.func46 (by kernel_rfl) rfl #[.agg #[.int .i64 ah, .int .i64 au, .int .i64 aj, .int .i64 ak, .slice aM af.length aH]] rfl mp_ ?_; (with_reducible refine (aC.calls k ah au aj ak _ _ af t319 _ ?az ?aA A7.out).mono ?_); (case az => exact cb_ (Kd.aK bu.out HB.out)); (case aA => exact bU.out); rintro e w31 ⟨rfl, hb⟩; refine ⟨_, rfl, ?_⟩; replace iM := kb_ iM hb; replace HB := aa.mk (ai bl_ hb); (try clear hb); (try clear hb2); (try clear hk); (try clear hi)))
   go_ret; exact ⟨re_, bl_⟩

end Go.Proofs.YtggelekooacmnaaDoor.Q
namespace Go.Proofs.YtggelekooacmnaaDoor.Q
open Go.RowKit Go.Proofs.YtggelekooacmnaaDoorW.aU Go.Proofs.YtggelekooacmnaaDoorW.bD Go.Proofs.YtggelekooacmnaaDoorW.bH
attribute [local go_sem] dB dC dN dO cO cZ dD dE   -- for this text's walks alone
set_option linter.unusedVariables false
set_option linter.unusedSimpArgs false

/-! ### gp: function 49 -/
def gp.f (k : Nat) (ah : Int) (au : Int) (aj : Int) (ak : Int) (af : List (S24)) : Option ((List (S41)) × Int) := (bE.f k ah au aj ak af).bind fun t324 => (if t324 = 0 then ((aT.f k ah au aj ak af).bind fun t325 => (some (t325, 0))) else (some (([] : List (S41)), t324)))
set_option maxHeartbeats 8000000 in
set_option maxRecDepth 100000 in
theorem gp.calls (k : Nat) (ah : Int) (au : Int) (aj : Int) (ak : Int) (aM : Option Addr) (aH : Nat) (af : List (S24)) (r1 : List (S41)) (r2 : Int) (w : World) (di : Kd.C k24 w aM af.length af) (dm : af.length ≤ aH) (h : gp.f k ah au aj ak af = some (r1, r2)) :
  Calls Tryd.prog 49 #[.agg #[.int .i64 ah, .int .i64 au, .int .i64 aj, .int .i64 ak, .slice aM af.length aH]] w fun e w' => ∃ v0_ : Value, e = .returned (.tuple #[v0_, .int .i64 r2]) ∧ Kd.R k41 41 w' w.heap.size (fun _ => True) v0_ r1 ∧ Below w.heap.size w w' := by
 have mg := Tryd.underlying24; have bu := aa.mk di; have bU := aa.mk dm; clear di dm; have HB := aa.mk (Below.refl w.heap.size w); have H : ((bE.f k ah au aj ak af).bind fun t324 => (if t324 = 0 then ((aT.f k ah au aj ak af).bind fun t325 => (some (t325, 0))) else (some (([] : List (S41)), t324)))) = some (r1, r2) := h; clear h; replace H := Option.bind_eq_some_iff.mp H; obtain ⟨t324, A20, H⟩ := H; (try dsimp only at H)
 have A2 := aa.mk A20; clear A20; by_cases c3 : t324 = 0
 ·rw [if_pos c3] at H; obtain ⟨gX, jH⟩ := bq_ c3; clear c3; replace H := Option.bind_eq_some_iff.mp H; obtain ⟨t325, A40, H⟩ := H; (try dsimp only at H)
  have A4 := aa.mk A40; clear A40; simp only [Option.some.injEq, Prod.mk.injEq] at H; obtain ⟨rfl, rfl⟩ := H; go_enter Tryd.func49, Tryd.ntmps49; go_wp2_with (first | ((with_reducible refine aW (N := 1) rfl ?_); refine bf ?hg (N := 1) ?hd (cs := #[.int .i64 ah, .int .i64 au, .int .i64 aj, .int .i64 ak, .slice aM af.length aH]) (t := 24) ?hr ?_; (case hd => rfl); (case hg => rfl); (case hr => first | (go_simp; done) | (go_simp; rfl)); intro gb323 hg w5 aG hb; have Bl := aa.mk (aG); have GW323 : aa (w.heap.size ≤ gb323) := gw_ hg (ax bl_); have GE323 := GW323; replace HB := aa.mk (ai bl_ hb); clear hb aG hg; obtain ⟨kV, kW, kX, kY, kZ, lg, lh, ll, lq, lu⟩ := bg Bl.out) | ((with_reducible refine aD (f := 22) rfl ?_); refine aZ (some 6) rfl rfl Tryd.func22 (by kernel_rfl) rfl #[.agg #[.int .i64 ah, .int .i64 au, .int .i64 aj, .int .i64 ak, .slice aM af.length aH]] rfl mp_ ?_; (with_reducible refine (bE.calls k ah au aj ak _ _ af t324 _ ?az ?aA A2.out).mono ?_); (case az => exact cb_ (Kd.aK bu.out HB.out)); (case aA => exact bU.out); rintro e w7 ⟨rfl, hb⟩; refine ⟨_, rfl, ?_⟩; replace Bl := kb_ Bl hb; replace HB := aa.mk (ai bl_ hb); (try clear hb); (try clear hb2); (try clear hk); (try clear hi); obtain ⟨rP, rQ, rR, rT, rU, rV, rW, rX, rY, rZ⟩ := bg Bl.out) | ((with_reducible refine aD (f := 47) rfl ?_); refine aZ (some 11) rfl rfl Tryd.func47 (by kernel_rfl) rfl #[.agg #[.int .i64 ah, .int .i64 au, .int .i64 aj, .int .i64 ak, .slice aM af.length aH]] rfl mp_ ?_; (with_reducible refine (aT.calls k ah au aj ak _ _ af t325 _ ?az ?aA A4.out).mono ?_); (case az => exact cb_ (Kd.aK bu.out HB.out)); (case aA => exact bU.out); rintro e w9 ⟨v326, rfl, ho0, hb⟩; refine ⟨_, rfl, ?_⟩; have HO327 := aa.mk (Kd.bC ho0 (ax bl_)); replace Bl := kb_ Bl hb; replace HB := aa.mk (ai bl_ hb); (try clear hb); (try clear hb2); (try clear hk); (try clear hi); (try clear ho0)))
  go_ret2; exact ⟨_, re_, pR_ HO327.out, bl_⟩
 ·rw [if_neg c3] at H; obtain ⟨gX, jH⟩ := bn_ c3; simp only [Option.some.injEq, Prod.mk.injEq] at H; obtain ⟨rfl, rfl⟩ := H; go_enter Tryd.func49, Tryd.ntmps49; go_wp2_with (first | ((with_reducible refine aW (N := 1) rfl ?_); refine bf ?hg (N := 1) ?hd (cs := #[.int .i64 ah, .int .i64 au, .int .i64 aj, .int .i64 ak, .slice aM af.length aH]) (t := 24) ?hr ?_; (case hd => rfl); (case hg => rfl); (case hr => first | (go_simp; done) | (go_simp; rfl)); intro gb323 hg w10 aG hb; have Bl := aa.mk (aG); have GW323 : aa (w.heap.size ≤ gb323) := gw_ hg (ax bl_); have GE323 := GW323; replace HB := aa.mk (ai bl_ hb); clear hb aG hg; obtain ⟨jO, jP, jQ, ku, kv, jR, jS, jT, ky, kz⟩ := bg Bl.out) | ((with_reducible refine aD (f := 22) rfl ?_); refine aZ (some 6) rfl rfl Tryd.func22 (by kernel_rfl) rfl #[.agg #[.int .i64 ah, .int .i64 au, .int .i64 aj, .int .i64 ak, .slice aM af.length aH]] rfl mp_ ?_; (with_reducible refine (bE.calls k ah au aj ak _ _ af t324 _ ?az ?aA A2.out).mono ?_); (case az => exact cb_ (Kd.aK bu.out HB.out)); (case aA => exact bU.out); rintro e w12 ⟨rfl, hb⟩; refine ⟨_, rfl, ?_⟩; replace Bl := kb_ Bl hb; replace HB := aa.mk (ai bl_ hb); (try clear hb); (try clear hb2); (try clear hk); (try clear hi)))
  go_ret2; exact ⟨_, re_, by first | exact Kd.mh _ _ _ _ _ | exact Kd.yS _ _ _ _ _ | exact Kd.yU _ _ _ _ _ | exact Kd.yQ _ _ _ _ _ | exact Kd.yR _ _ _ _ _, bl_⟩

end Go.Proofs.YtggelekooacmnaaDoor.Q
namespace Go.Proofs.YtggelekooacmnaaDoor.Q
open Go.RowKit Go.Proofs.YtggelekooacmnaaDoorW.aU Go.Proofs.YtggelekooacmnaaDoorW.bD Go.Proofs.YtggelekooacmnaaDoorW.bH
attribute [local go_sem] dB dC dN dO cO cZ dD dE   -- for this text's walks alone
set_option linter.unusedVariables false
set_option linter.unusedSimpArgs false

/-! ### jY: function 50 -/
def jY.f (k : Nat) (ah : Int) (au : Int) (aj : Int) (ak : Int) (af : List (S24)) : Option (Int × Int) := (bO.f k ah au aj ak af).bind fun Dy => (if Dy = 0 then (if ah = 3 then (some (2, 0)) else (if ah = 4 then (some (3, 0)) else (some (1, 0)))) else (some (0, Dy)))
set_option maxHeartbeats 8000000 in
set_option maxRecDepth 100000 in
theorem jY.calls (k : Nat) (ah : Int) (au : Int) (aj : Int) (ak : Int) (aM : Option Addr) (aH : Nat) (af : List (S24)) (r1 : Int) (r2 : Int) (w : World) (di : Kd.C k24 w aM af.length af) (dm : af.length ≤ aH) (h : jY.f k ah au aj ak af = some (r1, r2)) :
  Calls Tryd.prog 50 #[.agg #[.int .i64 ah, .int .i64 au, .int .i64 aj, .int .i64 ak, .slice aM af.length aH]] w fun e w' => e = .returned (.tuple #[.int .i64 r1, .int .i64 r2]) ∧ Below w.heap.size w w' := by
 have mg := Tryd.underlying24; have bu := aa.mk di; have bU := aa.mk dm; clear di dm; have HB := aa.mk (Below.refl w.heap.size w); have H : ((bO.f k ah au aj ak af).bind fun Dy => (if Dy = 0 then (if ah = 3 then (some (2, 0)) else (if ah = 4 then (some (3, 0)) else (some (1, 0)))) else (some (0, Dy)))) = some (r1, r2) := h; clear h; replace H := Option.bind_eq_some_iff.mp H; obtain ⟨Dy, A20, H⟩ := H; (try dsimp only at H)
 have A2 := aa.mk A20; clear A20; by_cases c3 : Dy = 0
 ·rw [if_pos c3] at H; obtain ⟨gX, jH⟩ := bq_ c3; clear c3; by_cases c4 : ah = 3
  ·rw [if_pos c4] at H; obtain ⟨nK, c4b1⟩ := bq_ c4; clear c4; simp only [Option.some.injEq, Prod.mk.injEq] at H; obtain ⟨rfl, rfl⟩ := H; go_enter Tryd.func50, Tryd.ntmps50; go_wp2_with (first | ((with_reducible refine aW (N := 1) rfl ?_); refine bf ?hg (N := 1) ?hd (cs := #[.int .i64 ah, .int .i64 au, .int .i64 aj, .int .i64 ak, .slice aM af.length aH]) (t := 24) ?hr ?_; (case hd => rfl); (case hg => rfl); (case hr => first | (go_simp; done) | (go_simp; rfl)); intro Gf hg w5 aG hb; have oI := aa.mk (aG); have Gg : aa (w.heap.size ≤ Gf) := gw_ hg (ax bl_); have GE328 := Gg; replace HB := aa.mk (ai bl_ hb); clear hb aG hg; obtain ⟨kV, kW, kX, kY, kZ, lg, lh, ll, lq, lu⟩ := bg oI.out) | ((with_reducible refine aD (f := 12) rfl ?_); refine aZ (some 6) rfl rfl Tryd.func12 (by kernel_rfl) rfl #[.agg #[.int .i64 ah, .int .i64 au, .int .i64 aj, .int .i64 ak, .slice aM af.length aH]] rfl mp_ ?_; (with_reducible refine (bO.calls k ah au aj ak _ _ af Dy _ ?az ?aA A2.out).mono ?_); (case az => exact cb_ (Kd.aK bu.out HB.out)); (case aA => exact bU.out); rintro e w7 ⟨rfl, hb⟩; refine ⟨_, rfl, ?_⟩; replace oI := kb_ oI hb; replace HB := aa.mk (ai bl_ hb); (try clear hb); (try clear hb2); (try clear hk); (try clear hi); obtain ⟨rP, rQ, rR, rT, rU, rV, rW, rX, rY, rZ⟩ := bg oI.out))
   go_ret2; exact ⟨re_, bl_⟩
  ·rw [if_neg c4] at H; obtain ⟨nK, c4b1⟩ := bn_ c4; by_cases c9 : ah = 4
   ·rw [if_pos c9] at H; obtain ⟨qE, uJ⟩ := bq_ c9; clear c9; simp only [Option.some.injEq, Prod.mk.injEq] at H; obtain ⟨rfl, rfl⟩ := H; go_enter Tryd.func50, Tryd.ntmps50; go_wp2_with (first | ((with_reducible refine aW (N := 1) rfl ?_); refine bf ?hg (N := 1) ?hd (cs := #[.int .i64 ah, .int .i64 au, .int .i64 aj, .int .i64 ak, .slice aM af.length aH]) (t := 24) ?hr ?_; (case hd => rfl); (case hg => rfl); (case hr => first | (go_simp; done) | (go_simp; rfl)); intro Gf hg w10 aG hb; have oI := aa.mk (aG); have Gg : aa (w.heap.size ≤ Gf) := gw_ hg (ax bl_); have GE328 := Gg; replace HB := aa.mk (ai bl_ hb); clear hb aG hg; obtain ⟨jO, jP, jQ, ku, kv, jR, jS, jT, ky, kz⟩ := bg oI.out) | ((with_reducible refine aD (f := 12) rfl ?_); refine aZ (some 6) rfl rfl Tryd.func12 (by kernel_rfl) rfl #[.agg #[.int .i64 ah, .int .i64 au, .int .i64 aj, .int .i64 ak, .slice aM af.length aH]] rfl mp_ ?_; (with_reducible refine (bO.calls k ah au aj ak _ _ af Dy _ ?az ?aA A2.out).mono ?_); (case az => exact cb_ (Kd.aK bu.out HB.out)); (case aA => exact bU.out); rintro e w12 ⟨rfl, hb⟩; refine ⟨_, rfl, ?_⟩; replace oI := kb_ oI hb; replace HB := aa.mk (ai bl_ hb); (try clear hb); (try clear hb2); (try clear hk); (try clear hi); obtain ⟨nU, nV, nW, oZ, o5, nX, nY, nZ, o6, o7⟩ := bg oI.out))
    go_ret2; exact ⟨re_, bl_⟩
   ·rw [if_neg c9] at H; obtain ⟨qE, uJ⟩ := bn_ c9; simp only [Option.some.injEq, Prod.mk.injEq] at H; obtain ⟨rfl, rfl⟩ := H; go_enter Tryd.func50, Tryd.ntmps50; go_wp2_with (first | ((with_reducible refine aW (N := 1) rfl ?_); refine bf ?hg (N := 1) ?hd (cs := #[.int .i64 ah, .int .i64 au, .int .i64 aj, .int .i64 ak, .slice aM af.length aH]) (t := 24) ?hr ?_; (case hd => rfl); (case hg => rfl); (case hr => first | (go_simp; done) | (go_simp; rfl)); intro Gf hg w14 aG hb; have oI := aa.mk (aG); have Gg : aa (w.heap.size ≤ Gf) := gw_ hg (ax bl_); have GE328 := Gg; replace HB := aa.mk (ai bl_ hb); clear hb aG hg; obtain ⟨nA, nC, nD, qb, qc, nE, nG, nH, qd, qf⟩ := bg oI.out) | ((with_reducible refine aD (f := 12) rfl ?_); refine aZ (some 6) rfl rfl Tryd.func12 (by kernel_rfl) rfl #[.agg #[.int .i64 ah, .int .i64 au, .int .i64 aj, .int .i64 ak, .slice aM af.length aH]] rfl mp_ ?_; (with_reducible refine (bO.calls k ah au aj ak _ _ af Dy _ ?az ?aA A2.out).mono ?_); (case az => exact cb_ (Kd.aK bu.out HB.out)); (case aA => exact bU.out); rintro e w16 ⟨rfl, hb⟩; refine ⟨_, rfl, ?_⟩; replace oI := kb_ oI hb; replace HB := aa.mk (ai bl_ hb); (try clear hb); (try clear hb2); (try clear hk); (try clear hi); obtain ⟨mW, mX, mY, mZ, ng, ni, nk, nu, ny, nz⟩ := bg oI.out))
    go_ret2; exact ⟨re_, bl_⟩
 ·rw [if_neg c3] at H; obtain ⟨gX, jH⟩ := bn_ c3; simp only [Option.some.injEq, Prod.mk.injEq] at H; obtain ⟨rfl, rfl⟩ := H; go_enter Tryd.func50, Tryd.ntmps50; go_wp2_with (first | ((with_reducible refine aW (N := 1) rfl ?_); refine bf ?hg (N := 1) ?hd (cs := #[.int .i64 ah, .int .i64 au, .int .i64 aj, .int .i64 ak, .slice aM af.length aH]) (t := 24) ?hr ?_; (case hd => rfl); (case hg => rfl); (case hr => first | (go_simp; done) | (go_simp; rfl)); intro Gf hg w18 aG hb; have oI := aa.mk (aG); have Gg : aa (w.heap.size ≤ Gf) := gw_ hg (ax bl_); have GE328 := Gg; replace HB := aa.mk (ai bl_ hb); clear hb aG hg; obtain ⟨yx, yz, yA, yB, yC, yD, yE, yF, yG, yH⟩ := bg oI.out) | ((with_reducible refine aD (f := 12) rfl ?_); refine aZ (some 6) rfl rfl Tryd.func12 (by kernel_rfl) rfl #[.agg #[.int .i64 ah, .int .i64 au, .int .i64 aj, .int .i64 ak, .slice aM af.length aH]] rfl mp_ ?_; (with_reducible refine (bO.calls k ah au aj ak _ _ af Dy _ ?az ?aA A2.out).mono ?_); (case az => exact cb_ (Kd.aK bu.out HB.out)); (case aA => exact bU.out); rintro e w20 ⟨rfl, hb⟩; refine ⟨_, rfl, ?_⟩; replace oI := kb_ oI hb; replace HB := aa.mk (ai bl_ hb); (try clear hb); (try clear hb2); (try clear hk); (try clear hi)))
  go_ret2; exact ⟨re_, bl_⟩

end Go.Proofs.YtggelekooacmnaaDoor.Q
namespace Go.Proofs.YtggelekooacmnaaDoor.Q
open Go.RowKit Go.Proofs.YtggelekooacmnaaDoorW.aU Go.Proofs.YtggelekooacmnaaDoorW.bD Go.Proofs.YtggelekooacmnaaDoorW.bH
attribute [local go_sem] dB dC dN dO cO cZ dD dE   -- for this text's walks alone
set_option linter.unusedVariables false
set_option linter.unusedSimpArgs false

/-! ### gq: function 51 -/
def gq.f (k : Nat) (ah : Int) (au : Int) (aj : Int) (ak : Int) (af : List (S24)) : Option (Int × Int) := (bE.f k ah au aj ak af).bind fun Dz => (if Dz = 0 then (if ah = 3 then (some (2, 0)) else (if ah = 4 then (some (3, 0)) else (some (1, 0)))) else (some (0, Dz)))
set_option maxHeartbeats 8000000 in
set_option maxRecDepth 100000 in
theorem gq.calls (k : Nat) (ah : Int) (au : Int) (aj : Int) (ak : Int) (aM : Option Addr) (aH : Nat) (af : List (S24)) (r1 : Int) (r2 : Int) (w : World) (di : Kd.C k24 w aM af.length af) (dm : af.length ≤ aH) (h : gq.f k ah au aj ak af = some (r1, r2)) :
  Calls Tryd.prog 51 #[.agg #[.int .i64 ah, .int .i64 au, .int .i64 aj, .int .i64 ak, .slice aM af.length aH]] w fun e w' => e = .returned (.tuple #[.int .i64 r1, .int .i64 r2]) ∧ Below w.heap.size w w' := by
 have mg := Tryd.underlying24; have bu := aa.mk di; have bU := aa.mk dm; clear di dm; have HB := aa.mk (Below.refl w.heap.size w); have H : ((bE.f k ah au aj ak af).bind fun Dz => (if Dz = 0 then (if ah = 3 then (some (2, 0)) else (if ah = 4 then (some (3, 0)) else (some (1, 0)))) else (some (0, Dz)))) = some (r1, r2) := h; clear h; replace H := Option.bind_eq_some_iff.mp H; obtain ⟨Dz, A20, H⟩ := H; (try dsimp only at H)
 have A2 := aa.mk A20; clear A20; by_cases c3 : Dz = 0
 ·rw [if_pos c3] at H; obtain ⟨gX, jH⟩ := bq_ c3; clear c3; by_cases c4 : ah = 3
  ·rw [if_pos c4] at H; obtain ⟨nK, c4b1⟩ := bq_ c4; clear c4; simp only [Option.some.injEq, Prod.mk.injEq] at H; obtain ⟨rfl, rfl⟩ := H; go_enter Tryd.func51, Tryd.ntmps51; go_wp2_with (first | ((with_reducible refine aW (N := 1) rfl ?_); refine bf ?hg (N := 1) ?hd (cs := #[.int .i64 ah, .int .i64 au, .int .i64 aj, .int .i64 ak, .slice aM af.length aH]) (t := 24) ?hr ?_; (case hd => rfl); (case hg => rfl); (case hr => first | (go_simp; done) | (go_simp; rfl)); intro Gh hg w5 aG hb; have oJ := aa.mk (aG); have Gi : aa (w.heap.size ≤ Gh) := gw_ hg (ax bl_); have GE330 := Gi; replace HB := aa.mk (ai bl_ hb); clear hb aG hg; obtain ⟨kV, kW, kX, kY, kZ, lg, lh, ll, lq, lu⟩ := bg oJ.out) | ((with_reducible refine aD (f := 22) rfl ?_); refine aZ (some 6) rfl rfl Tryd.func22 (by kernel_rfl) rfl #[.agg #[.int .i64 ah, .int .i64 au, .int .i64 aj, .int .i64 ak, .slice aM af.length aH]] rfl mp_ ?_; (with_reducible refine (bE.calls k ah au aj ak _ _ af Dz _ ?az ?aA A2.out).mono ?_); (case az => exact cb_ (Kd.aK bu.out HB.out)); (case aA => exact bU.out); rintro e w7 ⟨rfl, hb⟩; refine ⟨_, rfl, ?_⟩; replace oJ := kb_ oJ hb; replace HB := aa.mk (ai bl_ hb); (try clear hb); (try clear hb2); (try clear hk); (try clear hi); obtain ⟨rP, rQ, rR, rT, rU, rV, rW, rX, rY, rZ⟩ := bg oJ.out))
   go_ret2; exact ⟨re_, bl_⟩
  ·rw [if_neg c4] at H; obtain ⟨nK, c4b1⟩ := bn_ c4; by_cases c9 : ah = 4
   ·rw [if_pos c9] at H; obtain ⟨qE, uJ⟩ := bq_ c9; clear c9; simp only [Option.some.injEq, Prod.mk.injEq] at H; obtain ⟨rfl, rfl⟩ := H; go_enter Tryd.func51, Tryd.ntmps51; go_wp2_with (first | ((with_reducible refine aW (N := 1) rfl ?_); refine bf ?hg (N := 1) ?hd (cs := #[.int .i64 ah, .int .i64 au, .int .i64 aj, .int .i64 ak, .slice aM af.length aH]) (t := 24) ?hr ?_; (case hd => rfl); (case hg => rfl); (case hr => first | (go_simp; done) | (go_simp; rfl)); intro Gh hg w10 aG hb; have oJ := aa.mk (aG); have Gi : aa (w.heap.size ≤ Gh) := gw_ hg (ax bl_); have GE330 := Gi; replace HB := aa.mk (ai bl_ hb); clear hb aG hg; obtain ⟨jO, jP, jQ, ku, kv, jR, jS, jT, ky, kz⟩ := bg oJ.out) | ((with_reducible refine aD (f := 22) rfl ?_); refine aZ (some 6) rfl rfl Tryd.func22 (by kernel_rfl) rfl #[.agg #[.int .i64 ah, .int .i64 au, .int .i64 aj, .int .i64 ak, .slice aM af.length aH]] rfl mp_ ?_; (with_reducible refine (bE.calls k ah au aj ak _ _ af Dz _ ?az ?aA A2.out).mono ?_); (case az => exact cb_ (Kd.aK bu.out HB.out)); (case aA => exact bU.out); rintro e w12 ⟨rfl, hb⟩; refine ⟨_, rfl, ?_⟩; replace oJ := kb_ oJ hb; replace HB := aa.mk (ai bl_ hb); (try clear hb); (try clear hb2); (try clear hk); (try clear hi); obtain ⟨nU, nV, nW, oZ, o5, nX, nY, nZ, o6, o7⟩ := bg oJ.out))
    go_ret2; exact ⟨re_, bl_⟩
   ·rw [if_neg c9] at H; obtain ⟨qE, uJ⟩ := bn_ c9; simp only [Option.some.injEq, Prod.mk.injEq] at H; obtain ⟨rfl, rfl⟩ := H; go_enter Tryd.func51, Tryd.ntmps51; go_wp2_with (first | ((with_reducible refine aW (N := 1) rfl ?_); refine bf ?hg (N := 1) ?hd (cs := #[.int .i64 ah, .int .i64 au, .int .i64 aj, .int .i64 ak, .slice aM af.length aH]) (t := 24) ?hr ?_; (case hd => rfl); (case hg => rfl); (case hr => first | (go_simp; done) | (go_simp; rfl)); intro Gh hg w14 aG hb; have oJ := aa.mk (aG); have Gi : aa (w.heap.size ≤ Gh) := gw_ hg (ax bl_); have GE330 := Gi; replace HB := aa.mk (ai bl_ hb); clear hb aG hg; obtain ⟨nA, nC, nD, qb, qc, nE, nG, nH, qd, qf⟩ := bg oJ.out) | ((with_reducible refine aD (f := 22) rfl ?_); refine aZ (some 6) rfl rfl Tryd.func22 (by kernel_rfl) rfl #[.agg #[.int .i64 ah, .int .i64 au, .int .i64 aj, .int .i64 ak, .slice aM af.length aH]] rfl mp_ ?_; (with_reducible refine (bE.calls k ah au aj ak _ _ af Dz _ ?az ?aA A2.out).mono ?_); (case az => exact cb_ (Kd.aK bu.out HB.out)); (case aA => exact bU.out); rintro e w16 ⟨rfl, hb⟩; refine ⟨_, rfl, ?_⟩; replace oJ := kb_ oJ hb; replace HB := aa.mk (ai bl_ hb); (try clear hb); (try clear hb2); (try clear hk); (try clear hi); obtain ⟨mW, mX, mY, mZ, ng, ni, nk, nu, ny, nz⟩ := bg oJ.out))
    go_ret2; exact ⟨re_, bl_⟩
 ·rw [if_neg c3] at H; obtain ⟨gX, jH⟩ := bn_ c3; simp only [Option.some.injEq, Prod.mk.injEq] at H; obtain ⟨rfl, rfl⟩ := H; go_enter Tryd.func51, Tryd.ntmps51; go_wp2_with (first | ((with_reducible refine aW (N := 1) rfl ?_); refine bf ?hg (N := 1) ?hd (cs := #[.int .i64 ah, .int .i64 au, .int .i64 aj, .int .i64 ak, .slice aM af.length aH]) (t := 24) ?hr ?_; (case hd => rfl); (case hg => rfl); (case hr => first | (go_simp; done) | (go_simp; rfl)); intro Gh hg w18 aG hb; have oJ := aa.mk (aG); have Gi : aa (w.heap.size ≤ Gh) := gw_ hg (ax bl_); have GE330 := Gi; replace HB := aa.mk (ai bl_ hb); clear hb aG hg; obtain ⟨yx, yz, yA, yB, yC, yD, yE, yF, yG, yH⟩ := bg oJ.out) | ((with_reducible refine aD (f := 22) rfl ?_); refine aZ (some 6) rfl rfl Tryd.func22 (by kernel_rfl) rfl #[.agg #[.int .i64 ah, .int .i64 au, .int .i64 aj, .int .i64 ak, .slice aM af.length aH]] rfl mp_ ?_; (with_reducible refine (bE.calls k ah au aj ak _ _ af Dz _ ?az ?aA A2.out).mono ?_); (case az => exact cb_ (Kd.aK bu.out HB.out)); (case aA => exact bU.out); rintro e w20 ⟨rfl, hb⟩; refine ⟨_, rfl, ?_⟩; replace oJ := kb_ oJ hb; replace HB := aa.mk (ai bl_ hb); (try clear hb); (try clear hb2); (try clear hk); (try clear hi)))
  go_ret2; exact ⟨re_, bl_⟩

end Go.Proofs.YtggelekooacmnaaDoor.Q
namespace Go.Proofs.YtggelekooacmnaaDoor.Q
open Go.RowKit Go.Proofs.YtggelekooacmnaaDoorW.aU Go.Proofs.YtggelekooacmnaaDoorW.bD Go.Proofs.YtggelekooacmnaaDoorW.bH
attribute [local go_sem] dB dC dN dO cO cZ dD dE   -- for this text's walks alone
set_option linter.unusedVariables false
set_option linter.unusedSimpArgs false

/-! ### bq: function 73 -/
mutual
def bq.l0 : Nat → Int → Int → Int → Int → Int → Int → Int → Int → List (S24) → Option (Int)
 | 0, _, _, _, _, _, _, _, _, _ => none
 | k + 1, x3, x4, x5, x6, NJ, NK, NL, Jb, xe => if x6 < Jb then (bq.l0 k x3 (mn (wrap64 (x4 * x3)) 1073741825) (mn (wrap64 (x5 + (mn (wrap64 (x4 * x3)) 1073741825))) 1073741825) (wrap64 (x6 + 1)) NJ NK NL Jb xe) else (some x5)
def bq.l1 : Nat → Int → Int → Int → Int → Int → Int → List (S24) → Option (Int)
 | 0, _, _, _, _, _, _, _ => none
 | k + 1, x7, x8, NJ, NK, NL, Jb, xe => if x8 < (xe.length : Int) then (if 0 ≤ x8 then ((bq.f k ((ag xe x8).f0) ((ag xe x8).f1) ((ag xe x8).f2) ((ag xe x8).f3) ((ag xe x8).f4)).bind fun t336 => (bq.l1 k (mn (wrap64 (x7 * t336)) 1073741825) (wrap64 (x8 + 1)) NJ NK NL Jb xe)) else (none)) else (some x7)
def bq.f : Nat → Int → Int → Int → Int → List (S24) → Option (Int)
 | 0, _, _, _, _, _ => none
 | k + 1, ah, au, aj, ak, af => if ah = 1 then (some 2) else (if ah = 2 then (some (wrap64 ((wrap64 (aj - au)) + 1))) else (if ah = 6 then (if 0 < (af.length : Int) then ((bq.f k ((ag af 0).f0) ((ag af 0).f1) ((ag af 0).f2) ((ag af 0).f3) ((ag af 0).f4)).bind fun DC => (bq.l0 k DC 1 1 0 ah au aj ak af)) else (none)) else (bq.l1 k 1 0 ah au aj ak af)))
end
set_option maxHeartbeats 8000000 in
set_option maxRecDepth 100000 in
theorem bq.calls (k : Nat) : ∀ (ah : Int) (au : Int) (aj : Int) (ak : Int) (aM : Option Addr) (aH : Nat) (af : List (S24)) (r : Int) (w : World) (di : Kd.C k24 w aM af.length af) (dm : af.length ≤ aH) (h : bq.f k ah au aj ak af = some r),
  Calls Tryd.prog 73 #[.agg #[.int .i64 ah, .int .i64 au, .int .i64 aj, .int .i64 ak, .slice aM af.length aH]] w fun e w' => e = .returned (.int .i64 r) ∧ Below w.heap.size w w' := by
 induction k using Nat.strongRecOn with
 | _ k ih =>
 intro ah au aj ak aM aH af r w di dm h; cases k with
 | zero => exact absurd h (by simp [bq.f])
 | succ k =>
 simp only [bq.f] at h; have mg := Tryd.underlying24; have bu := aa.mk di; have bU := aa.mk dm; clear di dm; have HB := aa.mk (Below.refl w.heap.size w); have H : (if ah = 1 then (some 2) else (if ah = 2 then (some (wrap64 ((wrap64 (aj - au)) + 1))) else (if ah = 6 then (if 0 < (af.length : Int) then ((bq.f k ((ag af 0).f0) ((ag af 0).f1) ((ag af 0).f2) ((ag af 0).f3) ((ag af 0).f4)).bind fun DC => (bq.l0 k DC 1 1 0 ah au aj ak af)) else (none)) else (bq.l1 k 1 0 ah au aj ak af)))) = some r := h; clear h; by_cases c2 : ah = 1
 ·rw [if_pos c2] at H; obtain ⟨iZ, kR⟩ := bq_ c2; clear c2; obtain rfl := Option.some.inj H; go_enter Tryd.func73, Tryd.ntmps73; go_wp2_with (first | ((with_reducible refine aW (N := 1) rfl ?_); refine bf ?hg (N := 1) ?hd (cs := #[.int .i64 ah, .int .i64 au, .int .i64 aj, .int .i64 ak, .slice aM af.length aH]) (t := 24) ?hr ?_; (case hd => rfl); (case hg => rfl); (case hr => first | (go_simp; done) | (go_simp; rfl)); intro BQ hg w3 aG hb; have qz := aa.mk (aG); have Gj : aa (w.heap.size ≤ BQ) := gw_ hg (ax bl_); have GE332 := Gj; replace HB := aa.mk (ai bl_ hb); clear hb aG hg; obtain ⟨iA, iB, iC, iD, iE, iF, iG, iH, iI, iJ⟩ := bg qz.out))
  go_ret; exact ⟨re_, bl_⟩
 ·rw [if_neg c2] at H; obtain ⟨iZ, kR⟩ := bn_ c2; by_cases c5 : ah = 2
  ·rw [if_pos c5] at H; obtain ⟨gQ, qF⟩ := bq_ c5; clear c5; obtain rfl := Option.some.inj H; go_enter Tryd.func73, Tryd.ntmps73; go_wp2_with (first | ((with_reducible refine aW (N := 1) rfl ?_); refine bf ?hg (N := 1) ?hd (cs := #[.int .i64 ah, .int .i64 au, .int .i64 aj, .int .i64 ak, .slice aM af.length aH]) (t := 24) ?hr ?_; (case hd => rfl); (case hg => rfl); (case hr => first | (go_simp; done) | (go_simp; rfl)); intro BQ hg w6 aG hb; have qz := aa.mk (aG); have Gj : aa (w.heap.size ≤ BQ) := gw_ hg (ax bl_); have GE332 := Gj; replace HB := aa.mk (ai bl_ hb); clear hb aG hg; obtain ⟨yV, yX, yY, JL, JM, yZ, za, zb, JN, JO⟩ := bg qz.out))
   go_ret; exact ⟨re_, bl_⟩
  ·rw [if_neg c5] at H; obtain ⟨gQ, qF⟩ := bn_ c5; by_cases c8 : ah = 6
   ·rw [if_pos c8] at H; obtain ⟨gH, jv⟩ := bq_ c8; clear c8; by_cases c9 : 0 < (af.length : Int)
    ·rw [if_pos c9] at H; have qE := decide_eq_true c9; have uJ : decide (0 < af.length) = true := decide_eq_true (by omega); clear c9; replace H := Option.bind_eq_some_iff.mp H; obtain ⟨DC, A100, H⟩ := H; (try dsimp only at H)
     have A10 := aa.mk A100; clear A100; have H' := aa.mk H; clear H; go_enter Tryd.func73, Tryd.ntmps73; go_wp2_with (first | ((with_reducible refine aW (N := 1) rfl ?_); refine bf ?hg (N := 1) ?hd (cs := #[.int .i64 ah, .int .i64 au, .int .i64 aj, .int .i64 ak, .slice aM af.length aH]) (t := 24) ?hr ?_; (case hd => rfl); (case hg => rfl); (case hr => first | (go_simp; done) | (go_simp; rfl)); intro BQ hg w11 aG hb; have qz := aa.mk (aG); have Gj : aa (w.heap.size ≤ BQ) := gw_ hg (ax bl_); have GE332 := Gj; replace HB := aa.mk (ai bl_ hb); clear hb aG hg; obtain ⟨rz, rA, rC, rD, rE, rF, rG, rH, rJ, rM⟩ := bg qz.out; have p333 : 0 ≤ (0 : Int) := (by omega); have q333 : 0 < (af.length : Int) := dt_; obtain ⟨ad333, A333_4, c333_4, e333, FE, FH, FI, FJ, FL, QZ, Q0⟩ := dZ bu.out 0 p333 q333; cases e333; have qi333 : (0 < af.length) = True := eq_true (by omega); (try simp only [z0_, Nat.zero_mul, Addr.add_zero'] at FE); (try simp only [z0_, Nat.zero_mul, Addr.add_zero'] at FH); (try simp only [z0_, Nat.zero_mul, Addr.add_zero'] at FI); (try simp only [z0_, Nat.zero_mul, Addr.add_zero'] at FJ); (try simp only [z0_, Nat.zero_mul, Addr.add_zero'] at FL); replace FE := hc_ HB FE; replace FH := hc_ HB FH; replace FI := hc_ HB FI; replace FJ := hc_ HB FJ; replace FL := hc_ HB FL; have HR333_4 := aa.mk Q0; have HC333_4 := aa.mk QZ; clear Q0 QZ; replace p333 := eq_true p333; replace q333 := eq_true q333) | ((with_reducible refine aD (f := 73) rfl ?_); refine aZ (some 27) rfl rfl Tryd.func73 (by kernel_rfl) rfl #[.agg #[.int .i64 ((ag af 0).f0), .int .i64 ((ag af 0).f1), .int .i64 ((ag af 0).f2), .int .i64 ((ag af 0).f3), .slice A333_4 ((ag af 0).f4).length c333_4]] rfl mp_ ?_; (with_reducible refine (ih k (by omega) ((ag af 0).f0) ((ag af 0).f1) ((ag af 0).f2) ((ag af 0).f3) _ _ ((ag af 0).f4) DC _ ?az ?aA A10.out).mono ?_); (case az => exact cb_ (Kd.aK HR333_4.out HB.out)); (case aA => exact HC333_4.out); rintro e w13 ⟨rfl, hb⟩; refine ⟨_, rfl, ?_⟩; replace qz := kb_ qz hb; replace HB := aa.mk (ai bl_ hb); (try clear hb); (try clear hb2); (try clear hk); (try clear hi)))
     go_loopg [4, 5, 6] k (fun kq v4 v5 v6 w' => ∃ (fu : Int) (bZ : Int) (eY : Int), v4 = .int .i64 fu ∧ v5 = .int .i64 bZ ∧ v6 = .int .i64 eY ∧ aa (bq.l0 kq DC fu bZ eY ah au aj ak af = some r) ∧ aa (kq ≤ k) ∧ aa (w'.heap[BQ]? = some (.cells #[.int .i64 ah, .int .i64 au, .int .i64 aj, .int .i64 ak, (.slice (some ad333) af.length aH)] 24 (0, 0))) ∧ aa (Below w.heap.size w w'))
     case atStart => exact ⟨(1), (1), (0), rs_, rs_, rs_, H', ⟨Nat.le_refl _⟩, ⟨bk_⟩, ⟨bl_⟩⟩
     case round =>
      clear H'; (try clear c2); (try clear iZ); (try clear kR); (try clear p2); (try clear c3); (try clear p3); (try clear q3); (try clear hx3); (try clear qi3); (try clear c5); (try clear gQ); (try clear qF); (try clear p6); (try clear c7); (try clear c8); (try clear gH); (try clear jv); (try clear c9); (try clear qE); (try clear uJ); (try clear rz rA rC rD rE rF rG rH rJ rM); (try clear iA iB iC iD iE iF iG iH iI iJ); (try clear yV yX yY JL JM yZ za zb JN JO); (try clear FE); (try clear FH); (try clear FI); (try clear FJ); (try clear FL); (try clear p333); (try clear q333); obtain ⟨fu, bZ, eY, rfl, rfl, rfl, HA, HK1, qz, HB⟩ := hrel; cases gk with
      | zero => exact absurd HA.out (by simp [bq.l0])
      | succ k1 =>
       have H := HA.out; clear HA; simp only [bq.l0] at H; by_cases c14 : eY < ak
       ·rw [if_pos c14] at H; have AY := decide_eq_true c14; clear c14; obtain ⟨ji15, hji15⟩ : ∃ j_ : Int, (mn (wrap64 (fu * DC)) 1073741825) = j_ := ⟨_, rfl⟩; replace H : (bq.l0 k1 DC ji15 (mn (wrap64 (bZ + (ji15))) 1073741825) (wrap64 (eY + 1)) ah au aj ak af) = some r := by first | (rw [hji15] at H; exact H) | (simp only [hji15] at H ⊢; exact H)
        have hji15_ : (if 1073741825 < (wrap64 (fu * DC)) then 1073741825 else (wrap64 (fu * DC))) = ji15 := hji15; obtain ⟨ji16, uP⟩ : ∃ j_ : Int, (mn (wrap64 (bZ + (ji15))) 1073741825) = j_ := ⟨_, rfl⟩; replace H : (bq.l0 k1 DC ji15 ji16 (wrap64 (eY + 1)) ah au aj ak af) = some r := by first | (rw [uP] at H; exact H) | (simp only [uP] at H ⊢; exact H)
        have hji16_ : (if 1073741825 < (wrap64 (bZ + (ji15))) then 1073741825 else (wrap64 (bZ + (ji15)))) = ji16 := uP; have H' := aa.mk H; clear H; obtain ⟨mW, mX, mY, mZ, ng, ni, nk, nu, ny, nz⟩ := bg qz.out; go_wp2; go_roundg k1
        case measure => have := HK1.out; omega
        case rel => exact ⟨(ji15), (ji16), (wrap64 (eY + 1)), (by first | rfl | (simp; done) | (simp only [← hji15] <;> (first | rfl | simp)) | (simp [*]; done)), (by first | rfl | (simp; done) | (simp only [← uP] <;> (first | rfl | simp)) | (simp [*]; done)), rs_, H', ⟨by have := HK1.out; omega⟩, ⟨bk_⟩, ⟨bl_⟩⟩
       ·rw [if_neg c14] at H; have AY := decide_eq_false c14; clear c14; obtain rfl := Option.some.inj H; obtain ⟨mq, mr, mD, og, oh, mE, mF, mG, om, oo⟩ := bg qz.out; go_wp2; go_ret; exact ⟨re_, bl_⟩
    ·rw [if_neg c9] at H; exact absurd H (by simp)
   ·rw [if_neg c8] at H; obtain ⟨gH, jv⟩ := bn_ c8; have H' := aa.mk H; clear H; go_enter Tryd.func73, Tryd.ntmps73; go_wp2_with (first | ((with_reducible refine aW (N := 1) rfl ?_); refine bf ?hg (N := 1) ?hd (cs := #[.int .i64 ah, .int .i64 au, .int .i64 aj, .int .i64 ak, .slice aM af.length aH]) (t := 24) ?hr ?_; (case hd => rfl); (case hg => rfl); (case hr => first | (go_simp; done) | (go_simp; rfl)); intro BQ hg w19 aG hb; have qz := aa.mk (aG); have Gj : aa (w.heap.size ≤ BQ) := gw_ hg (ax bl_); have GE332 := Gj; replace HB := aa.mk (ai bl_ hb); clear hb aG hg; obtain ⟨mH, mI, mJ, oq, ou, mK, mM, mO, ow, oz⟩ := bg qz.out))
    go_loopg [7, 8] k (fun kq v7 v8 w' => ∃ (dK : Int) (gI : Int), v7 = .int .i64 dK ∧ v8 = .int .i64 gI ∧ aa (bq.l1 kq dK gI ah au aj ak af = some r) ∧ aa (kq ≤ k) ∧ aa (w'.heap[BQ]? = some (.cells #[.int .i64 ah, .int .i64 au, .int .i64 aj, .int .i64 ak, (.slice aM af.length aH)] 24 (0, 0))) ∧ aa (Below w.heap.size w w'))
    case atStart => exact ⟨(1), (0), rs_, rs_, H', ⟨Nat.le_refl _⟩, ⟨bk_⟩, ⟨bl_⟩⟩
    case round =>
     clear H'; (try clear c1); (try clear c2); (try clear iZ); (try clear kR); (try clear p2); (try clear c3); (try clear p3); (try clear q3); (try clear hx3); (try clear qi3); (try clear c5); (try clear gQ); (try clear qF); (try clear p6); (try clear c7); (try clear c8); (try clear gH); (try clear jv); (try clear c9); (try clear qE); (try clear uJ); (try clear c14); (try clear AY); (try clear rz rA rC rD rE rF rG rH rJ rM); (try clear mW mX mY mZ ng ni nk nu ny nz); (try clear mq mr mD og oh mE mF mG om oo); (try clear mH mI mJ oq ou mK mM mO ow oz); (try clear iA iB iC iD iE iF iG iH iI iJ); (try clear yV yX yY JL JM yZ za zb JN JO); (try clear FE); (try clear FH); (try clear FI); (try clear FJ); (try clear FL); (try clear p2); (try clear p3); (try clear p333); (try clear p6); (try clear q3); (try clear q333); obtain ⟨dK, gI, rfl, rfl, HA, HK1, qz, HB⟩ := hrel; cases gk with
     | zero => exact absurd HA.out (by simp [bq.l1])
     | succ k1 =>
      have H := HA.out; clear HA; simp only [bq.l1] at H; by_cases c21 : gI < (af.length : Int)
      ·rw [if_pos c21] at H; have AZ := decide_eq_true c21; clear c21; by_cases c22 : 0 ≤ gI
       ·rw [if_pos c22] at H; have c22b0 := decide_eq_true c22; clear c22; replace H := Option.bind_eq_some_iff.mp H; obtain ⟨t336, A230, H⟩ := H; (try dsimp only at H)
        have A23 := aa.mk A230; clear A230; obtain ⟨ji24, KJ⟩ : ∃ j_ : Int, (mn (wrap64 (dK * t336)) 1073741825) = j_ := ⟨_, rfl⟩; replace H : (bq.l1 k1 ji24 (wrap64 (gI + 1)) ah au aj ak af) = some r := by first | (rw [KJ] at H; exact H) | (simp only [KJ] at H ⊢; exact H)
        (try rw [KJ] at A23)
        have hji24_ : (if 1073741825 < (wrap64 (dK * t336)) then 1073741825 else (wrap64 (dK * t336))) = ji24 := KJ; have H' := aa.mk H; clear H; obtain ⟨vN, vO, vP, vQ, vR, vS, vT, vU, vV, vW⟩ := bg qz.out; have p335 : 0 ≤ (gI : Int) := dt_; have q335 : gI < (af.length : Int) := dt_; obtain ⟨ad335, A335_4, c335_4, e335, Q3, Q4, Q5, Q6, Q7, Q8, Q9⟩ := dZ bu.out gI p335 q335; cases e335; replace Q3 := hc_ HB Q3; replace Q4 := hc_ HB Q4; replace Q5 := hc_ HB Q5; replace Q6 := hc_ HB Q6; replace Q7 := hc_ HB Q7; have HR335_4 := aa.mk Q9; have HC335_4 := aa.mk Q8; clear Q9 Q8; replace p335 := eq_true p335; replace q335 := eq_true q335; go_wp2_with (first | ((with_reducible refine aD (f := 73) rfl ?_); refine aZ (some 56) rfl rfl Tryd.func73 (by kernel_rfl) rfl #[.agg #[.int .i64 ((ag af gI).f0), .int .i64 ((ag af gI).f1), .int .i64 ((ag af gI).f2), .int .i64 ((ag af gI).f3), .slice A335_4 ((ag af gI).f4).length c335_4]] rfl mp_ ?_; (with_reducible refine (ih k1 (by have := HK1.out; omega) ((ag af gI).f0) ((ag af gI).f1) ((ag af gI).f2) ((ag af gI).f3) _ _ ((ag af gI).f4) t336 _ ?az ?aA A23.out).mono ?_); (case az => exact cb_ (Kd.aK HR335_4.out HB.out)); (case aA => exact HC335_4.out); rintro e w26 ⟨rfl, hb⟩; refine ⟨_, rfl, ?_⟩; replace qz := kb_ qz hb; replace HB := aa.mk (ai bl_ hb); (try clear hb); (try clear hb2); (try clear hk); (try clear hi)))
        go_roundg k1
        case measure => have := HK1.out; omega
        case rel => exact ⟨(ji24), (wrap64 (gI + 1)), (by first | rfl | (simp; done) | (simp only [← KJ] <;> (first | rfl | simp)) | (simp [*]; done)), rs_, H', ⟨by have := HK1.out; omega⟩, ⟨bk_⟩, ⟨bl_⟩⟩
       ·rw [if_neg c22] at H; exact absurd H (by simp)
      ·rw [if_neg c21] at H; have AZ := decide_eq_false c21; clear c21; obtain rfl := Option.some.inj H; obtain ⟨tO, tQ, tT, tV, tX, tY, tZ, uf, ug, uh⟩ := bg qz.out; go_wp2; go_ret; exact ⟨re_, bl_⟩

end Go.Proofs.YtggelekooacmnaaDoor.Q
namespace Go.Proofs.YtggelekooacmnaaDoor.Q
open Go.RowKit Go.Proofs.YtggelekooacmnaaDoorW.aU Go.Proofs.YtggelekooacmnaaDoorW.bD Go.Proofs.YtggelekooacmnaaDoorW.bH
attribute [local go_sem] dB dC dN dO cO cZ dD dE   -- for this text's walks alone
set_option linter.unusedVariables false
set_option linter.unusedSimpArgs false

/-! ### dw: function 52 -/
def dw.j0 : Nat → Bool → Int → Int → Int → Int → List (S24) → Option (Int × Int)
 | 0, _, _, _, _, _, _ => none
 | k + 1, x18, x338000, x338001, x338002, x338003, x338004 => if x18 = true then (some (0, 8)) else ((bq.f k x338000 x338001 x338002 x338003 x338004).bind fun t339 => (if t339 ≤ 1073741824 then (some (t339, 0)) else (some (0, 9))))
def dw.f (k : Nat) (ah : Int) (au : Int) (aj : Int) (ak : Int) (af : List (S24)) : Option (Int × Int) := (bE.f k ah au aj ak af).bind fun t338 => (if t338 = 0 then (if ah = 3 then (dw.j0 k true ah au aj ak af) else (dw.j0 k (ah == 4) ah au aj ak af)) else (some (0, t338)))
set_option maxHeartbeats 8000000 in
set_option maxRecDepth 100000 in
theorem dw.calls (k : Nat) (ah : Int) (au : Int) (aj : Int) (ak : Int) (aM : Option Addr) (aH : Nat) (af : List (S24)) (r1 : Int) (r2 : Int) (w : World) (di : Kd.C k24 w aM af.length af) (dm : af.length ≤ aH) (h : dw.f k ah au aj ak af = some (r1, r2)) :
  Calls Tryd.prog 52 #[.agg #[.int .i64 ah, .int .i64 au, .int .i64 aj, .int .i64 ak, .slice aM af.length aH]] w fun e w' => e = .returned (.tuple #[.int .i64 r1, .int .i64 r2]) ∧ Below w.heap.size w w' := by
 have mg := Tryd.underlying24; have bu := aa.mk di; have bU := aa.mk dm; clear di dm; have HB := aa.mk (Below.refl w.heap.size w); have H : ((bE.f k ah au aj ak af).bind fun t338 => (if t338 = 0 then (if ah = 3 then (dw.j0 k true ah au aj ak af) else (dw.j0 k (ah == 4) ah au aj ak af)) else (some (0, t338)))) = some (r1, r2) := h; clear h; replace H := Option.bind_eq_some_iff.mp H; obtain ⟨t338, A20, H⟩ := H; (try dsimp only at H)
 have A2 := aa.mk A20; clear A20; by_cases c3 : t338 = 0
 ·rw [if_pos c3] at H; obtain ⟨gX, jH⟩ := bq_ c3; clear c3; have HC4 := aa.mk H; clear H; go_enter Tryd.func52, Tryd.ntmps52; go_upto_region 4 with (first | ((with_reducible refine aW (N := 1) rfl ?_); refine bf ?hg (N := 1) ?hd (cs := #[.int .i64 ah, .int .i64 au, .int .i64 aj, .int .i64 ak, .slice aM af.length aH]) (t := 24) ?hr ?_; (case hd => rfl); (case hg => rfl); (case hr => first | (go_simp; done) | (go_simp; rfl)); intro gb337 hg w5 aG hb; have qK := aa.mk (aG); have GW337 : aa (w.heap.size ≤ gb337) := gw_ hg (ax bl_); have GE337 := GW337; replace HB := aa.mk (ai bl_ hb); clear hb aG hg; obtain ⟨kV, kW, kX, kY, kZ, lg, lh, ll, lq, lu⟩ := bg qK.out) | ((with_reducible refine aD (f := 22) rfl ?_); refine aZ (some 7) rfl rfl Tryd.func22 (by kernel_rfl) rfl #[.agg #[.int .i64 ah, .int .i64 au, .int .i64 aj, .int .i64 ak, .slice aM af.length aH]] rfl mp_ ?_; (with_reducible refine (bE.calls k ah au aj ak _ _ af t338 _ ?az ?aA A2.out).mono ?_); (case az => exact cb_ (Kd.aK bu.out HB.out)); (case aA => exact bU.out); rintro e w7 ⟨rfl, hb⟩; refine ⟨_, rfl, ?_⟩; replace qK := kb_ qK hb; replace HB := aa.mk (ai bl_ hb); (try clear hb); (try clear hb2); (try clear hk); (try clear hi)))
  (try simp only [Act.put, List.setIfInBounds_toArray, List.set_cons_zero, List.set_cons_succ])
  go_cut [18] (fun v18 wc => ∃ (kq : Nat) (BN : Bool), v18 = .bool BN ∧ aa (dw.j0 kq BN ah au aj ak af = some (r1, r2)) ∧ aa (kq ≤ k) ∧ aa (wc.heap[gb337]? = some (.cells #[.int .i64 ah, .int .i64 au, .int .i64 aj, .int .i64 ak, (.slice aM af.length aH)] 24 (0, 0))) ∧ aa (Below w.heap.size w wc))
  case first =>
   have H := HC4.out; clear HC4; by_cases c8 : ah = 3
   ·rw [if_pos c8] at H; obtain ⟨gH, jv⟩ := bq_ c8; clear c8; (first | rw [gH] | (simp only [dS, ek]; rw [gH]) | skip)
    have H' := aa.mk H; clear H; obtain ⟨tC, tF, tH, uZ, u6, tJ, tK, tL, u7, vk⟩ := bg qK.out; go_wp2; go_meet
    case rel => exact ⟨_, (true), rs_, H', ⟨by first | omega | exact Nat.le_refl _⟩, ⟨bk_⟩, ⟨bl_⟩⟩
   ·rw [if_neg c8] at H; obtain ⟨gH, jv⟩ := bn_ c8; (first | rw [gH] | (simp only [dS, ek]; rw [gH]) | skip)
    have H' := aa.mk H; clear H; obtain ⟨uj, uk, um, vJ, vK, uo, uq, uu, vL, vM⟩ := bg qK.out; go_wp2; go_meet
    case rel => exact ⟨_, ((ah == 4)), rs_, H', ⟨by first | omega | exact Nat.le_refl _⟩, ⟨bk_⟩, ⟨bl_⟩⟩
  case rest =>
   clear HC4; (try clear c2); (try clear p2); (try clear c3); (try clear gX); (try clear jH); (try clear c5); (try clear c8); (try clear gH); (try clear jv); (try clear uj uk um vJ vK uo uq uu vL vM); (try clear kV kW kX kY kZ lg lh ll lq lu); (try clear tC tF tH uZ u6 tJ tK tL u7 vk); obtain ⟨kq, BN, rfl, HA, HJ3, qK, HB⟩ := hcut; cases kq with
   | zero => exact absurd HA.out (by simp [dw.j0])
   | succ kj3 =>
    have H := HA.out; clear HA; simp only [dw.j0] at H; by_cases c11 : BN = true
    ·subst c11; have H1 : (some (0, 8)) = some (r1, r2) := by rw [if_pos rfl] at H; exact H
     clear H; have H := H1; clear H1; simp only [Option.some.injEq, Prod.mk.injEq] at H; obtain ⟨rfl, rfl⟩ := H; go_wp2; go_ret2; exact ⟨re_, bl_⟩
    ·replace c11 := Bool.eq_false_iff.mpr c11; subst c11; have H1 : ((bq.f kj3 ah au aj ak af).bind fun t339 => (if t339 ≤ 1073741824 then (some (t339, 0)) else (some (0, 9)))) = some (r1, r2) := by rw [if_neg (show ¬ (false = true) by decide)] at H; exact H
     clear H; have H := H1; clear H1; replace H := Option.bind_eq_some_iff.mp H; obtain ⟨t339, A120, H⟩ := H; (try dsimp only at H)
     have A12 := aa.mk A120; clear A120; by_cases c13 : t339 ≤ 1073741824
     ·rw [if_pos c13] at H; have mV := decide_eq_true c13; clear c13; simp only [Option.some.injEq, Prod.mk.injEq] at H; obtain ⟨rfl, rfl⟩ := H; obtain ⟨ja, jb, jc, jd, je, jf, jg, jh, ji, jk⟩ := bg qK.out; go_wp2_with (first | ((with_reducible refine aD (f := 73) rfl ?_); refine aZ (some 20) rfl rfl Tryd.func73 (by kernel_rfl) rfl #[.agg #[.int .i64 ah, .int .i64 au, .int .i64 aj, .int .i64 ak, .slice aM af.length aH]] rfl mp_ ?_; (with_reducible refine (bq.calls kj3 ah au aj ak _ _ af t339 _ ?az ?aA A12.out).mono ?_); (case az => exact cb_ (Kd.aK bu.out HB.out)); (case aA => exact bU.out); rintro e w15 ⟨rfl, hb⟩; refine ⟨_, rfl, ?_⟩; replace qK := kb_ qK hb; replace HB := aa.mk (ai bl_ hb); (try clear hb); (try clear hb2); (try clear hk); (try clear hi)))
      go_ret2; exact ⟨re_, bl_⟩
     ·rw [if_neg c13] at H; have mV := decide_eq_false c13; clear c13; simp only [Option.some.injEq, Prod.mk.injEq] at H; obtain ⟨rfl, rfl⟩ := H; obtain ⟨kC, kD, kE, o8, o9, kF, kG, kH, pg, pq⟩ := bg qK.out; go_wp2_with (first | ((with_reducible refine aD (f := 73) rfl ?_); refine aZ (some 20) rfl rfl Tryd.func73 (by kernel_rfl) rfl #[.agg #[.int .i64 ah, .int .i64 au, .int .i64 aj, .int .i64 ak, .slice aM af.length aH]] rfl mp_ ?_; (with_reducible refine (bq.calls kj3 ah au aj ak _ _ af t339 _ ?az ?aA A12.out).mono ?_); (case az => exact cb_ (Kd.aK bu.out HB.out)); (case aA => exact bU.out); rintro e w17 ⟨rfl, hb⟩; refine ⟨_, rfl, ?_⟩; replace qK := kb_ qK hb; replace HB := aa.mk (ai bl_ hb); (try clear hb); (try clear hb2); (try clear hk); (try clear hi)))
      go_ret2; exact ⟨re_, bl_⟩
 ·rw [if_neg c3] at H; obtain ⟨gX, jH⟩ := bn_ c3; simp only [Option.some.injEq, Prod.mk.injEq] at H; obtain ⟨rfl, rfl⟩ := H; go_enter Tryd.func52, Tryd.ntmps52; go_wp2_with (first | ((with_reducible refine aW (N := 1) rfl ?_); refine bf ?hg (N := 1) ?hd (cs := #[.int .i64 ah, .int .i64 au, .int .i64 aj, .int .i64 ak, .slice aM af.length aH]) (t := 24) ?hr ?_; (case hd => rfl); (case hg => rfl); (case hr => first | (go_simp; done) | (go_simp; rfl)); intro gb337 hg w18 aG hb; have qK := aa.mk (aG); have GW337 : aa (w.heap.size ≤ gb337) := gw_ hg (ax bl_); have GE337 := GW337; replace HB := aa.mk (ai bl_ hb); clear hb aG hg; obtain ⟨yx, yz, yA, yB, yC, yD, yE, yF, yG, yH⟩ := bg qK.out) | ((with_reducible refine aD (f := 22) rfl ?_); refine aZ (some 7) rfl rfl Tryd.func22 (by kernel_rfl) rfl #[.agg #[.int .i64 ah, .int .i64 au, .int .i64 aj, .int .i64 ak, .slice aM af.length aH]] rfl mp_ ?_; (with_reducible refine (bE.calls k ah au aj ak _ _ af t338 _ ?az ?aA A2.out).mono ?_); (case az => exact cb_ (Kd.aK bu.out HB.out)); (case aA => exact bU.out); rintro e w20 ⟨rfl, hb⟩; refine ⟨_, rfl, ?_⟩; replace qK := kb_ qK hb; replace HB := aa.mk (ai bl_ hb); (try clear hb); (try clear hb2); (try clear hk); (try clear hi)))
  go_ret2; exact ⟨re_, bl_⟩

end Go.Proofs.YtggelekooacmnaaDoor.Q
namespace Go.Proofs.YtggelekooacmnaaDoor.Q
open Go.RowKit Go.Proofs.YtggelekooacmnaaDoorW.aU Go.Proofs.YtggelekooacmnaaDoorW.bD Go.Proofs.YtggelekooacmnaaDoorW.bH
attribute [local go_sem] dB dC dN dO cO cZ dD dE   -- for this text's walks alone
set_option linter.unusedVariables false
set_option linter.unusedSimpArgs false

/-! ### ay: function 116 -/
def ay.l0 : Nat → List Int → Int → Option (List Int)
 | 0, _, _ => none
 | k + 1, x0, x3 => if x3 > 0 then (if 0 ≤ (wrap64 (x3 - 1)) then (if (wrap64 (x3 - 1)) < (x0.length : Int) then (if (rd x0 (wrap64 (x3 - 1))) = 0 then (ay.l0 k x0 (wrap64 (x3 - 1))) else (if 0 ≤ x3 then (if x3 ≤ (x0.length : Int) then (if ([] : List Int).length + (x0.take (x3 : Int).toNat).length < 35184372088832 then (some (([] : List Int) ++ (x0.take (x3 : Int).toNat))) else (none)) else (none)) else (none))) else (none)) else (none)) else (if 0 ≤ x3 then (if x3 ≤ (x0.length : Int) then (if ([] : List Int).length + (x0.take (x3 : Int).toNat).length < 35184372088832 then (some (([] : List Int) ++ (x0.take (x3 : Int).toNat))) else (none)) else (none)) else (none))
def ay.f (k : Nat) (l0 : List Int) : Option (List Int) := ay.l0 k l0 (l0.length : Int)
theorem ay.fA : ∀ k, (∀ y0 y1, LeO (ay.l0 k y0 y1) (ay.l0 (k + 1) y0 y1))
 | 0 => fun _ _ r h => by simp [ay.l0] at h
 | k + 1 => by
  have ih0 := ay.fA k
  ·intro y0 y1; unfold ay.l0; repeat' first
   | (with_reducible exact ih0 _ _)
   | (with_reducible exact LeO.refl _)
   | (with_reducible exact LeO.none _)
   | (with_reducible refine LeO.ite ?_ ?_)
   | (with_reducible refine LeO.bind ?_ (fun _ => ?_))
   | exact ih0 _ _
   | exact LeO.none _
   | refine LeO.ite ?_ ?_
   | refine LeO.bind ?_ (fun _ => ?_)
theorem ay.mono : ∀ a0 k, LeO (ay.f k a0) (ay.f (k + 1) a0) := by
 intro a0 k; have ih0 := ay.fA k; unfold ay.f
 repeat' first
   | (with_reducible exact ih0 _ _)
   | (with_reducible exact LeO.refl _)
   | (with_reducible exact LeO.none _)
   | (with_reducible refine LeO.ite ?_ ?_)
   | (with_reducible refine LeO.bind ?_ (fun _ => ?_))
   | exact ih0 _ _
   | exact LeO.none _
   | refine LeO.ite ?_ ?_
   | refine LeO.bind ?_ (fun _ => ?_)
set_option maxHeartbeats 8000000 in
set_option maxRecDepth 100000 in
theorem ay.calls (k : Nat) (A0 : Option Addr) (c0 : Nat) (l0 : List Int) (r : List Int) (w : World) (hr0 : Kd.C (Kd.int .u32) w A0 l0.length l0) (hc0 : l0.length ≤ c0) (h : ay.f k l0 = some r) :
  Calls Tryd.prog 116 #[.slice A0 l0.length c0] w fun e w' => ∃ v0_ : Value, e = .returned (v0_) ∧ Kd.R (Kd.int .u32) 119 w' w.heap.size (fun _ => True) v0_ r ∧ Below w.heap.size w w' := by
 have HR0 := aa.mk hr0; have HC0 := aa.mk hc0; clear hr0 hc0; have HB := aa.mk (Below.refl w.heap.size w); have H : (ay.l0 k l0 (l0.length : Int)) = some r := h; clear h; have H' := aa.mk H; clear H; go_enter Tryd.func116, Tryd.ntmps116; go_wp2; go_loopg [3] k (fun kq v3 w' => ∃ (dL : Int), v3 = .int .i64 dL ∧ aa (ay.l0 kq l0 dL = some r) ∧ aa (kq ≤ k) ∧ aa (Below w.heap.size w w'))
 case atStart => exact ⟨((l0.length : Int)), rs_, H', ⟨Nat.le_refl _⟩, ⟨bl_⟩⟩
 case round =>
  clear H'; (try clear c1); obtain ⟨dL, rfl, HA, HK1, HB⟩ := hrel; cases gk with
  | zero => exact absurd HA.out (by simp [ay.l0])
  | succ k1 =>
   have H := HA.out; clear HA; simp only [ay.l0] at H; by_cases c2 : dL > 0
   ·rw [if_pos c2] at H; have iZ : decide (0 < dL) = true := decide_eq_true c2; clear c2; obtain ⟨ji3, DD⟩ : ∃ j_ : Int, (wrap64 (dL - 1)) = j_ := ⟨_, rfl⟩; replace H : (if 0 ≤ (ji3) then (if (ji3) < (l0.length : Int) then (if (rd l0 (ji3)) = 0 then (ay.l0 k1 l0 ji3) else (if 0 ≤ dL then (if dL ≤ (l0.length : Int) then (if ([] : List Int).length + (l0.take (dL : Int).toNat).length < 35184372088832 then (some (([] : List Int) ++ (l0.take (dL : Int).toNat))) else (none)) else (none)) else (none))) else (none)) else (none)) = some r := by first | (rw [DD] at H; exact H) | (simp only [DD] at H ⊢; exact H)
    have hji3w : (IntKind.i64.wrap (dL - 1)) = ji3 := (dS _).trans DD; by_cases c4 : 0 ≤ (ji3)
    ·rw [if_pos c4] at H; have nK := decide_eq_true c4; clear c4; by_cases c5 : (ji3) < (l0.length : Int)
     ·rw [if_pos c5] at H; have gQ := decide_eq_true c5; clear c5; by_cases c6 : (rd l0 (ji3)) = 0
      ·rw [if_pos c6] at H; obtain ⟨uT, c6b1⟩ := bq_ c6; clear c6; have H' := aa.mk H; clear H; have p340 : 0 ≤ ((ji3) : Int) := dt_; have q340 : (ji3) < (l0.length : Int) := dt_; obtain ⟨ad340, e340, FM⟩ := Kd.jq HR0.out (ji3) p340 q340; cases e340; replace FM := hc_ HB FM; replace p340 := eq_true p340; replace q340 := eq_true q340; go_wp2; go_roundg k1
       case measure => have := HK1.out; omega
       case rel => exact ⟨(ji3), (by first | rfl | (simp; done) | (simp only [← DD] <;> (first | rfl | simp)) | (simp [*]; done)), H', ⟨by have := HK1.out; omega⟩, ⟨bl_⟩⟩
      ·rw [if_neg c6] at H; obtain ⟨uT, c6b1⟩ := bn_ c6; by_cases c7 : 0 ≤ dL
       ·rw [if_pos c7] at H; have jM := eq_true c7; have vo := decide_eq_true c7; clear c7; by_cases c8 : dL ≤ (l0.length : Int)
        ·rw [if_pos c8] at H; have gH := eq_true c8; have jv := decide_eq_true c8; clear c8; by_cases c9 : ([] : List Int).length + (l0.take (dL : Int).toNat).length < 35184372088832
         ·rw [if_pos c9] at H; have LMc9 := aa.mk c9; clear c9; obtain ⟨y342, KL⟩ : ∃ y_ : List Int, y_ = (([] : List Int) ++ (l0.take (dL : Int).toNat)) := ⟨_, rfl⟩; replace H : (some y342) = some r := by first | (rw [KL]; with_reducible exact H) | (have H2_ := (Option.bind_some _ _).symm.trans H; rw [KL]; with_reducible exact H2_) | (have H2_ := (Option.bind_some _ _).symm.trans H; with_reducible exact H2_) | with_reducible exact H | (rw [KL]; exact H) | exact H
          have Ny342 := aa.mk KL; clear KL; obtain rfl := Option.some.inj H; have p340 : 0 ≤ ((ji3) : Int) := dt_; have q340 : (ji3) < (l0.length : Int) := dt_; obtain ⟨ad340, e340, FM⟩ := Kd.jq HR0.out (ji3) p340 q340; cases e340; replace FM := hc_ HB FM; replace p340 := eq_true p340; replace q340 := eq_true q340; obtain ⟨i010, hi010, _, hsz10, _⟩ := info_parts zu; obtain ⟨hcut10, hA10, hC10⟩ := Gv (P := Tryd.prog) (Value.int .u32) 0 102 119 .i64 Tryd.underlying102 hi010 hsz10 (some ad340) c0 l0 dL (dt_) (dt_) HC0.out; have HR341 := aa.mk (Kd.JE (h1 := fun _ => rfl) (hA10 _ (Kd.BH HR0.out))); have HC341 := aa.mk hC10; clear hA10 hC10 hi010 hsz10; go_wp2_with (first | ((with_reducible refine mf (b := .append) (xs := #[.const (.slice none 0 0), .tmp 20]) rfl ?_); at_builtin; refine Kd.oW (Kd.int .u32) (w0 := w) w.heap.size rfl (.const (.slice none 0 0)) (.tmp 20) 102 119 (.int .u32 0) 4 rfl Tryd.underlying102 zu rfl (by decide) (by omega) (.slice none 0 0) ([] : List Int) (l0.take (dL : Int).toNat) _ _ _ (fun _ => True) (fun _ => False) rfl rfl ?aO ?aR (fun _ _ h => h) (fun _ h => h.elim) ?aF ?aB ?aS ?aL ?_; (case aR => (have h_ := Kd.aK HR341.out HB.out; rw [show (l0.take (dL : Int).toNat).length = dL.toNat from (by rw [List.length_take]; have h_ : (dL : Int) ≤ (l0.length : Int) := dt_; omega)] at h_; exact h_)); (case aB => exact bl_); (case aF => exact (fun _ _ => trivial)); (case aO => exact ((Kd.mh _ _ _ _ (fun _ => True)))); (case aS => exact (ax bl_)); (case aL => have := LMc9.out; have hlx_ := (show (l0.take (dL : Int).toNat).length = dL.toNat from (by rw [List.length_take]; have h_ : (dL : Int) ≤ (l0.length : Int) := dt_; omega)); omega); intro v343 w11 ho hb hg hat; rw [← Ny342.out] at ho; have HO344 := aa.mk (ho); replace HB := aa.mk (hb); clear ho hb hg hat))
          go_ret; exact ⟨_, by first | rfl | (simp [eT, eU] <;> rfl) | (simp only [← DD]; first | rfl | (simp [eT, eU] <;> rfl)) | (simp [*, eT, eU] <;> rfl), pR_ HO344.out, bl_⟩
         ·rw [if_neg c9] at H; exact absurd H (by simp)
        ·rw [if_neg c8] at H; exact absurd H (by simp)
       ·rw [if_neg c7] at H; exact absurd H (by simp)
     ·rw [if_neg c5] at H; exact absurd H (by simp)
    ·rw [if_neg c4] at H; exact absurd H (by simp)
   ·rw [if_neg c2] at H; have iZ : decide (0 < dL) = false := decide_eq_false c2; clear c2; by_cases c12 : 0 ≤ dL
    ·rw [if_pos c12] at H; have uN := eq_true c12; have zf := decide_eq_true c12; clear c12; by_cases c13 : dL ≤ (l0.length : Int)
     ·rw [if_pos c13] at H; have mV := eq_true c13; have c13b1 := decide_eq_true c13; clear c13; by_cases c14 : ([] : List Int).length + (l0.take (dL : Int).toNat).length < 35184372088832
      ·rw [if_pos c14] at H; have LMc14 := aa.mk c14; clear c14; obtain ⟨y346, KM⟩ : ∃ y_ : List Int, y_ = (([] : List Int) ++ (l0.take (dL : Int).toNat)) := ⟨_, rfl⟩; replace H : (some y346) = some r := by first | (rw [KM]; with_reducible exact H) | (have H2_ := (Option.bind_some _ _).symm.trans H; rw [KM]; with_reducible exact H2_) | (have H2_ := (Option.bind_some _ _).symm.trans H; with_reducible exact H2_) | with_reducible exact H | (rw [KM]; exact H) | exact H
       have Ny346 := aa.mk KM; clear KM; obtain rfl := Option.some.inj H; obtain ⟨i015, hi015, _, hsz15, _⟩ := info_parts zu; obtain ⟨hcut15, hA15, hC15⟩ := Gv (P := Tryd.prog) (Value.int .u32) 0 102 119 .i64 Tryd.underlying102 hi015 hsz15 A0 c0 l0 dL (dt_) (dt_) HC0.out; have HR345 := aa.mk (Kd.JE (h1 := fun _ => rfl) (hA15 _ (Kd.BH HR0.out))); have HC345 := aa.mk hC15; clear hA15 hC15 hi015 hsz15; go_wp2_with (first | ((with_reducible refine mf (b := .append) (xs := #[.const (.slice none 0 0), .tmp 20]) rfl ?_); at_builtin; refine Kd.oW (Kd.int .u32) (w0 := w) w.heap.size rfl (.const (.slice none 0 0)) (.tmp 20) 102 119 (.int .u32 0) 4 rfl Tryd.underlying102 zu rfl (by decide) (by omega) (.slice none 0 0) ([] : List Int) (l0.take (dL : Int).toNat) _ _ _ (fun _ => True) (fun _ => False) rfl rfl ?aO ?aR (fun _ _ h => h) (fun _ h => h.elim) ?aF ?aB ?aS ?aL ?_; (case aR => (have h_ := Kd.aK HR345.out HB.out; rw [show (l0.take (dL : Int).toNat).length = dL.toNat from (by rw [List.length_take]; have h_ : (dL : Int) ≤ (l0.length : Int) := dt_; omega)] at h_; exact h_)); (case aB => exact bl_); (case aF => exact (fun _ _ => trivial)); (case aO => exact ((Kd.mh _ _ _ _ (fun _ => True)))); (case aS => exact (ax bl_)); (case aL => have := LMc14.out; have hlx_ := (show (l0.take (dL : Int).toNat).length = dL.toNat from (by rw [List.length_take]; have h_ : (dL : Int) ≤ (l0.length : Int) := dt_; omega)); omega); intro v347 w16 ho hb hg hat; rw [← Ny346.out] at ho; have HO348 := aa.mk (ho); replace HB := aa.mk (hb); clear ho hb hg hat))
       go_ret; exact ⟨_, re_, pR_ HO348.out, bl_⟩
      ·rw [if_neg c14] at H; exact absurd H (by simp)
     ·rw [if_neg c13] at H; exact absurd H (by simp)
    ·rw [if_neg c12] at H; exact absurd H (by simp)

end Go.Proofs.YtggelekooacmnaaDoor.Q
namespace Go.Proofs.YtggelekooacmnaaDoor.Q
open Go.RowKit Go.Proofs.YtggelekooacmnaaDoorW.aU Go.Proofs.YtggelekooacmnaaDoorW.bD Go.Proofs.YtggelekooacmnaaDoorW.bH
attribute [local go_sem] dB dC dN dO cO cZ dD dE   -- for this text's walks alone
set_option linter.unusedVariables false
set_option linter.unusedSimpArgs false

/-! ### bA: function 118 -/
def bA.l0 : Nat → List Int → Int → List Int → Int → Int → Option (List Int × Int)
 | 0, _, _, _, _, _ => none
 | k + 1, x0, x1, x6, x7, x8 => if x8 ≥ 0 then (if 0 ≤ x8 then (if x8 < (x0.length : Int) then (if (IntKind.u64.wrap (x1)) = 0 then (none) else (if x8 < (x6.length : Int) then (bA.l0 k x0 x1 (x6.set (x8 : Int).toNat ((IntKind.u64.wrap (Int.tdiv (Go.bits .or .u64 (IntKind.u64.wrap (x7 * 4294967296)) (IntKind.u64.wrap (rd x0 x8))) (IntKind.u64.wrap (x1)))) % 4294967296)) (Int.tmod (Go.bits .or .u64 (IntKind.u64.wrap (x7 * 4294967296)) (IntKind.u64.wrap (rd x0 x8))) (IntKind.u64.wrap (x1))) (wrap64 (x8 - 1))) else (none))) else (none)) else (none)) else ((ay.f k x6).bind fun t354 => (some (t354, (x7) % 4294967296)))
def bA.f (k : Nat) (l0 : List Int) (a1 : Int) : Option (List Int × Int) := if 0 ≤ (l0.length : Int) then (if ((l0.length : Int) : Int).toNat ≤ 70368744177664 then (bA.l0 k l0 a1 (List.replicate ((l0.length : Int) : Int).toNat 0) 0 (wrap64 ((l0.length : Int) - 1))) else (none)) else (none)
theorem bA.fA : ∀ k, (∀ y0 y1 y2 y3 y4, LeO (bA.l0 k y0 y1 y2 y3 y4) (bA.l0 (k + 1) y0 y1 y2 y3 y4))
 | 0 => fun _ _ _ _ _ r h => by simp [bA.l0] at h
 | k + 1 => by
  have ih0 := bA.fA k
  ·intro y0 y1 y2 y3 y4; unfold bA.l0; repeat' first
   | (with_reducible exact ih0 _ _ _ _ _)
   | (with_reducible exact ay.mono _ _)
   | (with_reducible exact LeO.refl _)
   | (with_reducible exact LeO.none _)
   | (with_reducible refine LeO.ite ?_ ?_)
   | (with_reducible refine LeO.bind ?_ (fun _ => ?_))
   | exact ih0 _ _ _ _ _
   | exact ay.mono _ _
   | exact LeO.none _
   | refine LeO.ite ?_ ?_
   | refine LeO.bind ?_ (fun _ => ?_)
theorem bA.mono : ∀ a0 a1 k, LeO (bA.f k a0 a1) (bA.f (k + 1) a0 a1) := by
 intro a0 a1 k; have ih0 := bA.fA k; unfold bA.f
 repeat' first
   | (with_reducible exact ih0 _ _ _ _ _)
   | (with_reducible exact ay.mono _ _)
   | (with_reducible exact LeO.refl _)
   | (with_reducible exact LeO.none _)
   | (with_reducible refine LeO.ite ?_ ?_)
   | (with_reducible refine LeO.bind ?_ (fun _ => ?_))
   | exact ih0 _ _ _ _ _
   | exact ay.mono _ _
   | exact LeO.none _
   | refine LeO.ite ?_ ?_
   | refine LeO.bind ?_ (fun _ => ?_)
set_option maxHeartbeats 8000000 in
set_option maxRecDepth 100000 in
theorem bA.calls (k : Nat) (A0 : Option Addr) (c0 : Nat) (l0 : List Int) (a1 : Int) (r1 : List Int) (r2 : Int) (w : World) (hr0 : Kd.C (Kd.int .u32) w A0 l0.length l0) (hc0 : l0.length ≤ c0) (h : bA.f k l0 a1 = some (r1, r2)) :
  Calls Tryd.prog 118 #[.slice A0 l0.length c0, .int .u32 a1] w fun e w' => ∃ v0_ : Value, e = .returned (.tuple #[v0_, .int .u32 r2]) ∧ Kd.R (Kd.int .u32) 119 w' w.heap.size (fun _ => True) v0_ r1 ∧ Below w.heap.size w w' := by
 have HR0 := aa.mk hr0; have HC0 := aa.mk hc0; clear hr0 hc0; have HB := aa.mk (Below.refl w.heap.size w); have H : (if 0 ≤ (l0.length : Int) then (if ((l0.length : Int) : Int).toNat ≤ 70368744177664 then (bA.l0 k l0 a1 (List.replicate ((l0.length : Int) : Int).toNat 0) 0 (wrap64 ((l0.length : Int) - 1))) else (none)) else (none)) = some (r1, r2) := h; clear h; by_cases c3 : 0 ≤ (l0.length : Int)
 ·rw [if_pos c3] at H; have gX := eq_true c3; have jH := decide_eq_true c3; clear c3; by_cases c4 : ((l0.length : Int) : Int).toNat ≤ 70368744177664
  ·rw [if_pos c4] at H; have nK := eq_true c4; have c4b1 := decide_eq_true c4; clear c4; obtain ⟨y349, KN⟩ : ∃ y_ : List Int, y_ = (List.replicate ((l0.length : Int) : Int).toNat 0) := ⟨_, rfl⟩; replace H : (bA.l0 k l0 a1 y349 0 (wrap64 ((l0.length : Int) - 1))) = some (r1, r2) := by first | (rw [KN]; with_reducible exact H) | (have H2_ := (Option.bind_some _ _).symm.trans H; rw [KN]; with_reducible exact H2_) | (have H2_ := (Option.bind_some _ _).symm.trans H; with_reducible exact H2_) | with_reducible exact H | (rw [KN]; exact H) | exact H
   have Ny349 := aa.mk KN; clear KN; have H' := aa.mk H; clear H; go_enter Tryd.func118, Tryd.ntmps118; go_wp2_with (first | ((with_reducible refine aW (N := 12) rfl ?_); refine Kd.Oq (Kd.int .u32) _ 119 rfl (N := 12) rfl 102 _ _ rfl (l0.length : Int) rfl rfl Tryd.underlying102 (.int .u32 0) 4 zu rfl (by decide) (by omega) 0 (ok := fun _ => True) (okp := fun _ => True) rfl (fun _ hk => hk) trivial (dt_) (Nat.le_trans (Nat.mul_le_mul_right _ (dt_ : (l0.length : Int).toNat ≤ 70368744177664)) (by omega)) (Below.refl _ _) (Nat.le_refl _) ?_; intro v350 w5 ho6 hb hg_ fZ; clear hg_ fZ; (first | rw [← Ny349.out] at ho6 | (simp only [Int.reduceToNat] at ho6; rw [← Ny349.out] at ho6)); have HO351 := aa.mk (Kd.bC ho6 (ax bl_)); replace HB := aa.mk (ai bl_ hb); clear hb ho6))
   go_loopg [7, 8] k (fun kq v7 v8 w' => ∃ (eY : List Int) (dK : Int) (gI : Int), v7 = .int .u64 dK ∧ v8 = .int .i64 gI ∧ aa (bA.l0 kq l0 a1 eY dK gI = some (r1, r2)) ∧ aa (kq ≤ k) ∧ aa (Kd.R (Kd.int .u32) 119 w' w.heap.size (fun _ => True) v350 eY) ∧ aa (Below w.heap.size w w'))
   case atStart => exact ⟨(y349), (0), (wrap64 ((l0.length : Int) - 1)), rs_, rs_, H', ⟨Nat.le_refl _⟩, ⟨pR_ HO351.out⟩, ⟨bl_⟩⟩
   case round =>
    clear H'; (try clear c1); (try clear p2); (try clear c3); (try clear gX); (try clear jH); (try clear c4); (try clear nK); (try clear c4b1); (try clear p6); obtain ⟨eY, dK, gI, rfl, rfl, HA, HK1, DF, HB⟩ := hrel; cases gk with
    | zero => exact absurd HA.out (by simp [bA.l0])
    | succ k1 =>
     have H := HA.out; clear HA; simp only [bA.l0] at H; by_cases c7 : gI ≥ 0
     ·rw [if_pos c7] at H; have jM : decide (0 ≤ gI) = true := decide_eq_true c7; clear c7; by_cases c8 : 0 ≤ gI
      ·rw [if_pos c8] at H; have gH := decide_eq_true c8; clear c8; by_cases c9 : gI < (l0.length : Int)
       ·rw [if_pos c9] at H; have qE := decide_eq_true c9; clear c9; by_cases c10 : (IntKind.u64.wrap (a1)) = 0
        ·rw [if_pos c10] at H; exact absurd H (by simp)
        ·rw [if_neg c10] at H; obtain ⟨ig, zl⟩ := bn_ c10; by_cases c11 : gI < (eY.length : Int)
         ·rw [if_pos c11] at H; have IE := decide_eq_true c11; clear c11; obtain ⟨y353, KO⟩ : ∃ y_ : List Int, y_ = (eY.set (gI : Int).toNat ((IntKind.u64.wrap (Int.tdiv (Go.bits .or .u64 (IntKind.u64.wrap (dK * 4294967296)) (IntKind.u64.wrap (rd l0 gI))) (IntKind.u64.wrap (a1)))) % 4294967296)) := ⟨_, rfl⟩; replace H : (bA.l0 k1 l0 a1 y353 (Int.tmod (Go.bits .or .u64 (IntKind.u64.wrap (dK * 4294967296)) (IntKind.u64.wrap (rd l0 gI))) (IntKind.u64.wrap (a1))) (wrap64 (gI - 1))) = some (r1, r2) := by first | (rw [KO]; with_reducible exact H) | (have H2_ := (Option.bind_some _ _).symm.trans H; rw [KO]; with_reducible exact H2_) | (have H2_ := (Option.bind_some _ _).symm.trans H; with_reducible exact H2_) | with_reducible exact H | (rw [KO]; exact H) | exact H
          have Ny353 := aa.mk KO; clear KO; have H' := aa.mk H; clear H; have p352 : 0 ≤ (gI : Int) := dt_; have q352 : gI < (l0.length : Int) := dt_; obtain ⟨ad352, e352, Ra⟩ := Kd.jq HR0.out gI p352 q352; cases e352; replace Ra := hc_ HB Ra; replace p352 := eq_true p352; replace q352 := eq_true q352; have p12 : 0 ≤ (gI : Int) := dt_; have q12 : (gI : Int) < ((eY.length : Int) : Int) := dt_; obtain ⟨go12, BA, eo12, gb12, gl12, cl12, HG12⟩ := Kd.CX DF.out (by omega); (first | cases eo12 | (injection eo12 with ea_ en_ ec_; (first | subst ea_ | (injection ea_ with ea_; subst ea_)); subst ec_; clear en_))
          have GB12 := aa.mk gb12; have GG12 := aa.mk HG12; clear gb12 gl12 HG12; obtain ⟨hx12_0, hf12_0⟩ := Kd.vC 0 DF.out (gI : Int) p12 q12; replace p12 := eq_true p12; replace q12 := eq_true q12; have HP13 := Kd.Er DF.out (gI : Int) ((IntKind.u64.wrap (Int.tdiv (Go.bits .or .u64 (IntKind.u64.wrap (dK * 4294967296)) (IntKind.u64.wrap (rd l0 gI))) (IntKind.u64.wrap (a1)))) % 4294967296); go_wp2_with (first | ((with_reducible refine vD (t := 119) (p := 35) rfl ?_); refine tN (t := 119) (p := 35) (v := ?vo_w14) (w1 := (wr.setCell ⟨go12, (gI : Int).toNat, none⟩ (.int .u32 ((IntKind.u64.wrap (Int.tdiv (Go.bits .or .u64 (IntKind.u64.wrap (dK * 4294967296)) (IntKind.u64.wrap (rd l0 gI))) (IntKind.u64.wrap (a1)))) % 4294967296)))) ?hg ?ho ?hn ?hr ?_; (case ho => rfl); (case hg => rfl); (case hn => rfl); (case hr => first | (go_simp; done) | (go_simp; rfl)); intro w14 hw; have hg : wr.grownBy w14 (some go12) := (by rw [hw]; exact HP13.2); have hp_ : Kd.R (Kd.int .u32) 119 w14 w.heap.size (fun _ => True) (.slice (some ⟨go12, 0, none⟩) eY.length BA) y353 := (by rw [hw, Ny353.out]; exact HP13.1); clear HP13; replace DF := aa.mk (hp_); replace HB := aa.mk ((by rw [hw]; exact jA (HB.out) GB12.out : Below w.heap.size w w14)); clear hg hw hp_))
          go_roundg k1
          case measure => have := HK1.out; omega
          case rel => exact ⟨(y353), (Int.tmod (Go.bits .or .u64 (IntKind.u64.wrap (dK * 4294967296)) (IntKind.u64.wrap (rd l0 gI))) (IntKind.u64.wrap (a1))), (wrap64 (gI - 1)), rs_, rs_, H', ⟨by have := HK1.out; omega⟩, ⟨pR_ DF.out⟩, ⟨bl_⟩⟩
         ·rw [if_neg c11] at H; exact absurd H (by simp)
       ·rw [if_neg c9] at H; exact absurd H (by simp)
      ·rw [if_neg c8] at H; exact absurd H (by simp)
     ·rw [if_neg c7] at H; have jM : decide (0 ≤ gI) = false := decide_eq_false c7; clear c7; replace H := Option.bind_eq_some_iff.mp H; obtain ⟨t354, A150, H⟩ := H; (try dsimp only at H)
      have A15 := aa.mk A150; clear A150; simp only [Option.some.injEq, Prod.mk.injEq] at H; obtain ⟨rfl, rfl⟩ := H; obtain ⟨Ao16, co16, eo16⟩ := Kd.bK DF.out; subst eo16; go_wp2_with (first | ((with_reducible refine aD (f := 116) rfl ?_); refine aZ (some 41) rfl rfl Tryd.func116 (by kernel_rfl) rfl #[.slice Ao16 eY.length co16] rfl mp_ ?_; (with_reducible refine (ay.calls k1 _ _ eY t354 _ ?az ?aA A15.out).mono ?_); (case az => exact cb_ ((Kd.aY DF.out).2.2)); (case aA => exact (Kd.aY DF.out).2.1); rintro e w17 ⟨v355, rfl, ho0, hb⟩; refine ⟨_, rfl, ?_⟩; have HO356 := aa.mk (Kd.bC (Kd.cz ho0 (Kd.dQ (pR_ DF.out))) (ax bl_)); replace DF := aa.mk (Kd.cB (pR_ DF.out) (Kd.cu ho0) hb); replace HB := aa.mk (ai bl_ hb); (try clear hb); (try clear hb2); (try clear hk); (try clear hi); (try clear ho0)))
      go_ret2; exact ⟨_, re_, by (with_reducible repeat (first | apply Kd.bL | apply Kd.bM | apply Kd.bQ)); exact Kd.bG HO356.out (fun _ hk => trivial), bl_⟩
  ·rw [if_neg c4] at H; exact absurd H (by simp)
 ·rw [if_neg c3] at H; exact absurd H (by simp)

end Go.Proofs.YtggelekooacmnaaDoor.Q
namespace Go.Proofs.YtggelekooacmnaaDoor.Q
open Go.RowKit Go.Proofs.YtggelekooacmnaaDoorW.aU Go.Proofs.YtggelekooacmnaaDoorW.bD Go.Proofs.YtggelekooacmnaaDoorW.bH
attribute [local go_sem] dB dC dN dO cO cZ dD dE   -- for this text's walks alone
set_option linter.unusedVariables false
set_option linter.unusedSimpArgs false

/-! ### bT: function 123 -/
def bT.l0 : Nat → List Int → List Int → Int → Option (Int)
 | 0, _, _, _ => none
 | k + 1, x0, x1, x5 => if x5 ≥ 0 then (if 0 ≤ x5 then (if x5 < (x0.length : Int) then (if x5 < (x1.length : Int) then (if (rd x0 x5) < (rd x1 x5) then (some (-1)) else (if (rd x0 x5) > (rd x1 x5) then (some 1) else (bT.l0 k x0 x1 (wrap64 (x5 - 1))))) else (none)) else (none)) else (none)) else (some 0)
def bT.f (k : Nat) (l0 : List Int) (l1 : List Int) : Option (Int) := (ay.f k l0).bind fun gZ => ((ay.f k l1).bind fun iO => (if (gZ.length : Int) = (iO.length : Int) then (bT.l0 k gZ iO (wrap64 ((gZ.length : Int) - 1))) else (if (gZ.length : Int) < (iO.length : Int) then (some (-1)) else (some 1))))
theorem bT.fA : ∀ k, (∀ y0 y1 y2, LeO (bT.l0 k y0 y1 y2) (bT.l0 (k + 1) y0 y1 y2))
 | 0 => fun _ _ _ r h => by simp [bT.l0] at h
 | k + 1 => by
  have ih0 := bT.fA k
  ·intro y0 y1 y2; unfold bT.l0; repeat' first
   | (with_reducible exact ih0 _ _ _)
   | (with_reducible exact ay.mono _ _)
   | (with_reducible exact LeO.refl _)
   | (with_reducible exact LeO.none _)
   | (with_reducible refine LeO.ite ?_ ?_)
   | (with_reducible refine LeO.bind ?_ (fun _ => ?_))
   | exact ih0 _ _ _
   | exact ay.mono _ _
   | exact LeO.none _
   | refine LeO.ite ?_ ?_
   | refine LeO.bind ?_ (fun _ => ?_)
theorem bT.mono : ∀ a0 a1 k, LeO (bT.f k a0 a1) (bT.f (k + 1) a0 a1) := by
 intro a0 a1 k; have ih0 := bT.fA k; unfold bT.f
 repeat' first
   | (with_reducible exact ih0 _ _ _)
   | (with_reducible exact ay.mono _ _)
   | (with_reducible exact LeO.refl _)
   | (with_reducible exact LeO.none _)
   | (with_reducible refine LeO.ite ?_ ?_)
   | (with_reducible refine LeO.bind ?_ (fun _ => ?_))
   | exact ih0 _ _ _
   | exact ay.mono _ _
   | exact LeO.none _
   | refine LeO.ite ?_ ?_
   | refine LeO.bind ?_ (fun _ => ?_)
set_option maxHeartbeats 8000000 in
set_option maxRecDepth 100000 in
theorem bT.calls (k : Nat) (A0 : Option Addr) (c0 : Nat) (l0 : List Int) (A1 : Option Addr) (c1 : Nat) (l1 : List Int) (r : Int) (w : World) (hr0 : Kd.C (Kd.int .u32) w A0 l0.length l0) (hc0 : l0.length ≤ c0) (hr1 : Kd.C (Kd.int .u32) w A1 l1.length l1) (hc1 : l1.length ≤ c1) (h : bT.f k l0 l1 = some r) :
  Calls Tryd.prog 123 #[.slice A0 l0.length c0, .slice A1 l1.length c1] w fun e w' => e = .returned (.int .i64 r) ∧ Below w.heap.size w w' := by
 have HR0 := aa.mk hr0; have HC0 := aa.mk hc0; clear hr0 hc0; have HR1 := aa.mk hr1; have HC1 := aa.mk hc1; clear hr1 hc1; have HB := aa.mk (Below.refl w.heap.size w); have H : ((ay.f k l0).bind fun gZ => ((ay.f k l1).bind fun iO => (if (gZ.length : Int) = (iO.length : Int) then (bT.l0 k gZ iO (wrap64 ((gZ.length : Int) - 1))) else (if (gZ.length : Int) < (iO.length : Int) then (some (-1)) else (some 1))))) = some r := h; clear h; replace H := Option.bind_eq_some_iff.mp H; obtain ⟨gZ, A30, H⟩ := H; (try dsimp only at H)
 have A3 := aa.mk A30; clear A30; replace H := Option.bind_eq_some_iff.mp H; obtain ⟨iO, A40, H⟩ := H; (try dsimp only at H)
 have A4 := aa.mk A40; clear A40; by_cases c5 : (gZ.length : Int) = (iO.length : Int)
 ·rw [if_pos c5] at H; obtain ⟨gQ, qF⟩ := bq_ c5; have c5b2 : (gZ.length == iO.length) = true := by first | simpa using c5 | (simp at c5 ⊢; omega)
  clear c5; have H' := aa.mk H; clear H; go_enter Tryd.func123, Tryd.ntmps123; go_wp2_with (first | (go_at_call 116; (with_reducible refine (ay.calls k _ _ l0 gZ _ ?az ?aA A3.out).mono ?_); (case az => exact cb_ (HR0.out)); (case aA => exact HC0.out); rintro e w6 ⟨v358, rfl, ho0, hb⟩; have fK := aa.mk (Kd.bC ho0 (ax bl_)); replace HB := aa.mk (ai bl_ hb); (try clear hb); (try clear hb2); (try clear hk); (try clear hi); (try clear ho0)) | (go_at_call 116; (with_reducible refine (ay.calls k _ _ l1 iO _ ?az ?aA A4.out).mono ?_); (case az => exact cb_ (Kd.aK HR1.out HB.out)); (case aA => exact HC1.out); rintro e w7 ⟨v361, rfl, ho0, hb⟩; have oK := aa.mk (Kd.bC (Kd.cz ho0 (Kd.dQ (pR_ fK.out))) (ax bl_)); replace fK := aa.mk (Kd.cB (pR_ fK.out) (Kd.cu ho0) hb); replace HB := aa.mk (ai bl_ hb); (try clear hb); (try clear hb2); (try clear hk); (try clear hi); (try clear ho0); obtain ⟨Ao8, co8, eo8⟩ := Kd.bK fK.out; subst eo8; obtain ⟨Ao9, co9, eo9⟩ := Kd.bK oK.out; subst eo9))
  repeat (go_quiet (first | (go_at_call 116; (with_reducible refine (ay.calls k _ _ l0 gZ _ ?az ?aA A3.out).mono ?_); (case az => exact cb_ (HR0.out)); (case aA => exact HC0.out); rintro e w6 ⟨v358, rfl, ho0, hb⟩; have fK := aa.mk (Kd.bC ho0 (ax bl_)); replace HB := aa.mk (ai bl_ hb); (try clear hb); (try clear hb2); (try clear hk); (try clear hi); (try clear ho0)) | (go_at_call 116; (with_reducible refine (ay.calls k _ _ l1 iO _ ?az ?aA A4.out).mono ?_); (case az => exact cb_ (Kd.aK HR1.out HB.out)); (case aA => exact HC1.out); rintro e w7 ⟨v361, rfl, ho0, hb⟩; have oK := aa.mk (Kd.bC (Kd.cz ho0 (Kd.dQ (pR_ fK.out))) (ax bl_)); replace fK := aa.mk (Kd.cB (pR_ fK.out) (Kd.cu ho0) hb); replace HB := aa.mk (ai bl_ hb); (try clear hb); (try clear hb2); (try clear hk); (try clear hi); (try clear ho0); obtain ⟨Ao8, co8, eo8⟩ := Kd.bK fK.out; subst eo8; obtain ⟨Ao9, co9, eo9⟩ := Kd.bK oK.out; subst eo9)); try go_wp2_with (first | (go_at_call 116; (with_reducible refine (ay.calls k _ _ l0 gZ _ ?az ?aA A3.out).mono ?_); (case az => exact cb_ (HR0.out)); (case aA => exact HC0.out); rintro e w6 ⟨v358, rfl, ho0, hb⟩; have fK := aa.mk (Kd.bC ho0 (ax bl_)); replace HB := aa.mk (ai bl_ hb); (try clear hb); (try clear hb2); (try clear hk); (try clear hi); (try clear ho0)) | (go_at_call 116; (with_reducible refine (ay.calls k _ _ l1 iO _ ?az ?aA A4.out).mono ?_); (case az => exact cb_ (Kd.aK HR1.out HB.out)); (case aA => exact HC1.out); rintro e w7 ⟨v361, rfl, ho0, hb⟩; have oK := aa.mk (Kd.bC (Kd.cz ho0 (Kd.dQ (pR_ fK.out))) (ax bl_)); replace fK := aa.mk (Kd.cB (pR_ fK.out) (Kd.cu ho0) hb); replace HB := aa.mk (ai bl_ hb); (try clear hb); (try clear hb2); (try clear hk); (try clear hi); (try clear ho0); obtain ⟨Ao8, co8, eo8⟩ := Kd.bK fK.out; subst eo8; obtain ⟨Ao9, co9, eo9⟩ := Kd.bK oK.out; subst eo9)))
  go_loopg [5] k (fun kq v5 w' => ∃ (bZ : Int), v5 = .int .i64 bZ ∧ aa (bT.l0 kq gZ iO bZ = some r) ∧ aa (kq ≤ k) ∧ aa (Kd.R (Kd.int .u32) 119 w' w.heap.size (fun k_ => some k_ ≠ ((.slice Ao9 iO.length co9) : Value).ownBlock) (.slice Ao8 gZ.length co8) gZ) ∧ aa (Kd.R (Kd.int .u32) 119 w' w.heap.size (fun k_ => some k_ ≠ ((.slice Ao8 gZ.length co8) : Value).ownBlock) (.slice Ao9 iO.length co9) iO) ∧ aa (Below w.heap.size w w'))
  case atStart => exact ⟨(wrap64 ((gZ.length : Int) - 1)), rs_, H', ⟨Nat.le_refl _⟩, ⟨by (with_reducible repeat (first | apply Kd.bL | apply Kd.bM | apply Kd.bQ)); exact Kd.bG fK.out (fun _ hk => hk.2)⟩, ⟨by (with_reducible repeat (first | apply Kd.bL | apply Kd.bM | apply Kd.bQ)); exact Kd.bG oK.out (fun _ hk => hk.2)⟩, ⟨bl_⟩⟩
  case round =>
   clear H'; (try clear c1); (try clear p2); (try clear c5); (try clear gQ); (try clear qF); (try clear c5b2); (try clear p6); obtain ⟨bZ, rfl, HA, HK1, gW, iX, HB⟩ := hrel; cases gk with
   | zero => exact absurd HA.out (by simp [bT.l0])
   | succ k1 =>
    have H := HA.out; clear HA; simp only [bT.l0] at H; by_cases c10 : bZ ≥ 0
    ·rw [if_pos c10] at H; have ig : decide (0 ≤ bZ) = true := decide_eq_true c10; clear c10; by_cases c11 : 0 ≤ bZ
     ·rw [if_pos c11] at H; have IE := decide_eq_true c11; clear c11; by_cases c12 : bZ < (gZ.length : Int)
      ·rw [if_pos c12] at H; have uN := decide_eq_true c12; clear c12; by_cases c13 : bZ < (iO.length : Int)
       ·rw [if_pos c13] at H; have mV := decide_eq_true c13; clear c13; by_cases c14 : (rd gZ bZ) < (rd iO bZ)
        ·rw [if_pos c14] at H; have AY := decide_eq_true c14; clear c14; obtain rfl := Option.some.inj H; have DI : 0 ≤ (bZ : Int) := dt_; have DJ : bZ < (gZ.length : Int) := dt_; obtain ⟨ad363, e363, Rb⟩ := Kd.jq (Kd.aY gW.out).2.2 bZ DI DJ; cases e363; replace DI := eq_true DI; replace DJ := eq_true DJ; have DK : 0 ≤ (bZ : Int) := dt_; have DL : bZ < (iO.length : Int) := dt_; obtain ⟨ad364, e364, Rc⟩ := Kd.jq (Kd.aY iX.out).2.2 bZ DK DL; cases e364; replace DK := eq_true DK; replace DL := eq_true DL; go_wp2; repeat (go_quiet (fail); try go_wp2)
         go_ret; exact ⟨re_, bl_⟩
        ·rw [if_neg c14] at H; have AY := decide_eq_false c14; clear c14; by_cases c15 : (rd gZ bZ) > (rd iO bZ)
         ·rw [if_pos c15] at H; have uM : decide ((rd iO bZ) < (rd gZ bZ)) = true := decide_eq_true c15; clear c15; obtain rfl := Option.some.inj H; have DI : 0 ≤ (bZ : Int) := dt_; have DJ : bZ < (gZ.length : Int) := dt_; obtain ⟨ad363, e363, Rb⟩ := Kd.jq (Kd.aY gW.out).2.2 bZ DI DJ; cases e363; replace DI := eq_true DI; replace DJ := eq_true DJ; have DK : 0 ≤ (bZ : Int) := dt_; have DL : bZ < (iO.length : Int) := dt_; obtain ⟨ad364, e364, Rc⟩ := Kd.jq (Kd.aY iX.out).2.2 bZ DK DL; cases e364; replace DK := eq_true DK; replace DL := eq_true DL; have p365 : 0 ≤ (bZ : Int) := dt_; have q365 : bZ < (gZ.length : Int) := dt_; obtain ⟨ad365, e365, hx365_0⟩ := Kd.jq (Kd.aY gW.out).2.2 bZ p365 q365; obtain rfl : ad363 = ad365 := (by injection e365); replace p365 := eq_true p365; replace q365 := eq_true q365; have p366 : 0 ≤ (bZ : Int) := dt_; have q366 : bZ < (iO.length : Int) := dt_; obtain ⟨ad366, e366, hx366_0⟩ := Kd.jq (Kd.aY iX.out).2.2 bZ p366 q366; obtain rfl : ad364 = ad366 := (by injection e366); replace p366 := eq_true p366; replace q366 := eq_true q366; go_wp2; repeat (go_quiet (fail); try go_wp2)
          go_ret; exact ⟨re_, bl_⟩
         ·rw [if_neg c15] at H; have uM : decide ((rd iO bZ) < (rd gZ bZ)) = false := decide_eq_false c15; clear c15; have H' := aa.mk H; clear H; have DI : 0 ≤ (bZ : Int) := dt_; have DJ : bZ < (gZ.length : Int) := dt_; obtain ⟨ad363, e363, Rb⟩ := Kd.jq (Kd.aY gW.out).2.2 bZ DI DJ; cases e363; replace DI := eq_true DI; replace DJ := eq_true DJ; have DK : 0 ≤ (bZ : Int) := dt_; have DL : bZ < (iO.length : Int) := dt_; obtain ⟨ad364, e364, Rc⟩ := Kd.jq (Kd.aY iX.out).2.2 bZ DK DL; cases e364; replace DK := eq_true DK; replace DL := eq_true DL; have p365 : 0 ≤ (bZ : Int) := dt_; have q365 : bZ < (gZ.length : Int) := dt_; obtain ⟨ad365, e365, hx365_0⟩ := Kd.jq (Kd.aY gW.out).2.2 bZ p365 q365; obtain rfl : ad363 = ad365 := (by injection e365); replace p365 := eq_true p365; replace q365 := eq_true q365; have p366 : 0 ≤ (bZ : Int) := dt_; have q366 : bZ < (iO.length : Int) := dt_; obtain ⟨ad366, e366, hx366_0⟩ := Kd.jq (Kd.aY iX.out).2.2 bZ p366 q366; obtain rfl : ad364 = ad366 := (by injection e366); replace p366 := eq_true p366; replace q366 := eq_true q366; go_wp2; repeat (go_quiet (fail); try go_wp2)
          go_roundg k1
          case measure => have := HK1.out; omega
          case rel => exact ⟨(wrap64 (bZ - 1)), rs_, H', ⟨by have := HK1.out; omega⟩, ⟨pR_ gW.out⟩, ⟨pR_ iX.out⟩, ⟨bl_⟩⟩
       ·rw [if_neg c13] at H; exact absurd H (by simp)
      ·rw [if_neg c12] at H; exact absurd H (by simp)
     ·rw [if_neg c11] at H; exact absurd H (by simp)
    ·rw [if_neg c10] at H; have ig : decide (0 ≤ bZ) = false := decide_eq_false c10; clear c10; obtain rfl := Option.some.inj H; go_wp2; repeat (go_quiet (fail); try go_wp2)
     go_ret; exact ⟨re_, bl_⟩
 ·rw [if_neg c5] at H; obtain ⟨gQ, qF⟩ := bn_ c5; have c5b2 : (gZ.length == iO.length) = false := by first | simpa using c5 | (simp at c5 ⊢; omega)
  by_cases c16 : (gZ.length : Int) < (iO.length : Int)
  ·rw [if_pos c16] at H; have BJ := decide_eq_true c16; have FZ : decide (gZ.length < iO.length) = true := decide_eq_true (Int.ofNat_lt.mp c16); clear c16; obtain rfl := Option.some.inj H; go_enter Tryd.func123, Tryd.ntmps123; go_wp2_with (first | (go_at_call 116; (with_reducible refine (ay.calls k _ _ l0 gZ _ ?az ?aA A3.out).mono ?_); (case az => exact cb_ (HR0.out)); (case aA => exact HC0.out); rintro e w17 ⟨v358, rfl, ho0, hb⟩; have fK := aa.mk (Kd.bC ho0 (ax bl_)); replace HB := aa.mk (ai bl_ hb); (try clear hb); (try clear hb2); (try clear hk); (try clear hi); (try clear ho0)) | (go_at_call 116; (with_reducible refine (ay.calls k _ _ l1 iO _ ?az ?aA A4.out).mono ?_); (case az => exact cb_ (Kd.aK HR1.out HB.out)); (case aA => exact HC1.out); rintro e w18 ⟨v361, rfl, ho0, hb⟩; have oK := aa.mk (Kd.bC (Kd.cz ho0 (Kd.dQ (pR_ fK.out))) (ax bl_)); replace fK := aa.mk (Kd.cB (pR_ fK.out) (Kd.cu ho0) hb); replace HB := aa.mk (ai bl_ hb); (try clear hb); (try clear hb2); (try clear hk); (try clear hi); (try clear ho0); obtain ⟨Ao19, co19, eo19⟩ := Kd.bK fK.out; subst eo19; obtain ⟨Ao20, co20, eo20⟩ := Kd.bK oK.out; subst eo20))
   repeat (go_quiet (first | (go_at_call 116; (with_reducible refine (ay.calls k _ _ l0 gZ _ ?az ?aA A3.out).mono ?_); (case az => exact cb_ (HR0.out)); (case aA => exact HC0.out); rintro e w17 ⟨v358, rfl, ho0, hb⟩; have fK := aa.mk (Kd.bC ho0 (ax bl_)); replace HB := aa.mk (ai bl_ hb); (try clear hb); (try clear hb2); (try clear hk); (try clear hi); (try clear ho0)) | (go_at_call 116; (with_reducible refine (ay.calls k _ _ l1 iO _ ?az ?aA A4.out).mono ?_); (case az => exact cb_ (Kd.aK HR1.out HB.out)); (case aA => exact HC1.out); rintro e w18 ⟨v361, rfl, ho0, hb⟩; have oK := aa.mk (Kd.bC (Kd.cz ho0 (Kd.dQ (pR_ fK.out))) (ax bl_)); replace fK := aa.mk (Kd.cB (pR_ fK.out) (Kd.cu ho0) hb); replace HB := aa.mk (ai bl_ hb); (try clear hb); (try clear hb2); (try clear hk); (try clear hi); (try clear ho0); obtain ⟨Ao19, co19, eo19⟩ := Kd.bK fK.out; subst eo19; obtain ⟨Ao20, co20, eo20⟩ := Kd.bK oK.out; subst eo20)); try go_wp2_with (first | (go_at_call 116; (with_reducible refine (ay.calls k _ _ l0 gZ _ ?az ?aA A3.out).mono ?_); (case az => exact cb_ (HR0.out)); (case aA => exact HC0.out); rintro e w17 ⟨v358, rfl, ho0, hb⟩; have fK := aa.mk (Kd.bC ho0 (ax bl_)); replace HB := aa.mk (ai bl_ hb); (try clear hb); (try clear hb2); (try clear hk); (try clear hi); (try clear ho0)) | (go_at_call 116; (with_reducible refine (ay.calls k _ _ l1 iO _ ?az ?aA A4.out).mono ?_); (case az => exact cb_ (Kd.aK HR1.out HB.out)); (case aA => exact HC1.out); rintro e w18 ⟨v361, rfl, ho0, hb⟩; have oK := aa.mk (Kd.bC (Kd.cz ho0 (Kd.dQ (pR_ fK.out))) (ax bl_)); replace fK := aa.mk (Kd.cB (pR_ fK.out) (Kd.cu ho0) hb); replace HB := aa.mk (ai bl_ hb); (try clear hb); (try clear hb2); (try clear hk); (try clear hi); (try clear ho0); obtain ⟨Ao19, co19, eo19⟩ := Kd.bK fK.out; subst eo19; obtain ⟨Ao20, co20, eo20⟩ := Kd.bK oK.out; subst eo20)))
   go_ret; exact ⟨re_, bl_⟩
  ·rw [if_neg c16] at H; have BJ := decide_eq_false c16; have FZ : decide (gZ.length < iO.length) = false := decide_eq_false (fun h => c16 (Int.ofNat_lt.mpr h)); clear c16; obtain rfl := Option.some.inj H; go_enter Tryd.func123, Tryd.ntmps123; go_wp2_with (first | (go_at_call 116; (with_reducible refine (ay.calls k _ _ l0 gZ _ ?az ?aA A3.out).mono ?_); (case az => exact cb_ (HR0.out)); (case aA => exact HC0.out); rintro e w21 ⟨v358, rfl, ho0, hb⟩; have fK := aa.mk (Kd.bC ho0 (ax bl_)); replace HB := aa.mk (ai bl_ hb); (try clear hb); (try clear hb2); (try clear hk); (try clear hi); (try clear ho0)) | (go_at_call 116; (with_reducible refine (ay.calls k _ _ l1 iO _ ?az ?aA A4.out).mono ?_); (case az => exact cb_ (Kd.aK HR1.out HB.out)); (case aA => exact HC1.out); rintro e w22 ⟨v361, rfl, ho0, hb⟩; have oK := aa.mk (Kd.bC (Kd.cz ho0 (Kd.dQ (pR_ fK.out))) (ax bl_)); replace fK := aa.mk (Kd.cB (pR_ fK.out) (Kd.cu ho0) hb); replace HB := aa.mk (ai bl_ hb); (try clear hb); (try clear hb2); (try clear hk); (try clear hi); (try clear ho0); obtain ⟨xL, vv, zm⟩ := Kd.bK fK.out; subst zm; obtain ⟨r9, oN, Am⟩ := Kd.bK oK.out; subst Am))
   repeat (go_quiet (first | (go_at_call 116; (with_reducible refine (ay.calls k _ _ l0 gZ _ ?az ?aA A3.out).mono ?_); (case az => exact cb_ (HR0.out)); (case aA => exact HC0.out); rintro e w21 ⟨v358, rfl, ho0, hb⟩; have fK := aa.mk (Kd.bC ho0 (ax bl_)); replace HB := aa.mk (ai bl_ hb); (try clear hb); (try clear hb2); (try clear hk); (try clear hi); (try clear ho0)) | (go_at_call 116; (with_reducible refine (ay.calls k _ _ l1 iO _ ?az ?aA A4.out).mono ?_); (case az => exact cb_ (Kd.aK HR1.out HB.out)); (case aA => exact HC1.out); rintro e w22 ⟨v361, rfl, ho0, hb⟩; have oK := aa.mk (Kd.bC (Kd.cz ho0 (Kd.dQ (pR_ fK.out))) (ax bl_)); replace fK := aa.mk (Kd.cB (pR_ fK.out) (Kd.cu ho0) hb); replace HB := aa.mk (ai bl_ hb); (try clear hb); (try clear hb2); (try clear hk); (try clear hi); (try clear ho0); obtain ⟨xL, vv, zm⟩ := Kd.bK fK.out; subst zm; obtain ⟨r9, oN, Am⟩ := Kd.bK oK.out; subst Am)); try go_wp2_with (first | (go_at_call 116; (with_reducible refine (ay.calls k _ _ l0 gZ _ ?az ?aA A3.out).mono ?_); (case az => exact cb_ (HR0.out)); (case aA => exact HC0.out); rintro e w21 ⟨v358, rfl, ho0, hb⟩; have fK := aa.mk (Kd.bC ho0 (ax bl_)); replace HB := aa.mk (ai bl_ hb); (try clear hb); (try clear hb2); (try clear hk); (try clear hi); (try clear ho0)) | (go_at_call 116; (with_reducible refine (ay.calls k _ _ l1 iO _ ?az ?aA A4.out).mono ?_); (case az => exact cb_ (Kd.aK HR1.out HB.out)); (case aA => exact HC1.out); rintro e w22 ⟨v361, rfl, ho0, hb⟩; have oK := aa.mk (Kd.bC (Kd.cz ho0 (Kd.dQ (pR_ fK.out))) (ax bl_)); replace fK := aa.mk (Kd.cB (pR_ fK.out) (Kd.cu ho0) hb); replace HB := aa.mk (ai bl_ hb); (try clear hb); (try clear hb2); (try clear hk); (try clear hi); (try clear ho0); obtain ⟨xL, vv, zm⟩ := Kd.bK fK.out; subst zm; obtain ⟨r9, oN, Am⟩ := Kd.bK oK.out; subst Am)))
   go_ret; exact ⟨re_, bl_⟩

end Go.Proofs.YtggelekooacmnaaDoor.Q
namespace Go.Proofs.YtggelekooacmnaaDoor.Q
open Go.RowKit Go.Proofs.YtggelekooacmnaaDoorW.aU Go.Proofs.YtggelekooacmnaaDoorW.bD Go.Proofs.YtggelekooacmnaaDoorW.bH
set_option linter.unusedVariables false

def dF.f (k : Nat) (l0 : List Int) (a1 : Int) : Option (List Int) := none  -- never reached
theorem dF.mono : ∀ a0 a1 k, LeO (dF.f k a0 a1) (dF.f (k + 1) a0 a1) := fun _ _ _ => LeO.none _
theorem dF.calls (k : Nat) (A0 : Option Addr) (c0 : Nat) (l0 : List Int) (a1 : Int) (r : List Int) (w : World) (hr0 : Kd.C (Kd.int .u32) w A0 l0.length l0) (hc0 : l0.length ≤ c0) (h : dF.f k l0 a1 = some r) :
    Calls Tryd.prog 124 #[.slice A0 l0.length c0, .int .i64 a1] w fun e w' => ∃ v0_ : Value, e = .returned (v0_) ∧ Kd.R (Kd.int .u32) 119 w' w.heap.size (fun _ => True) v0_ r ∧ Below w.heap.size w w' := by
  cases h

end Go.Proofs.YtggelekooacmnaaDoor.Q
namespace Go.Proofs.YtggelekooacmnaaDoor.Q
open Go.RowKit Go.Proofs.YtggelekooacmnaaDoorW.aU Go.Proofs.YtggelekooacmnaaDoorW.bD Go.Proofs.YtggelekooacmnaaDoorW.bH
set_option linter.unusedVariables false

def fq.f (k : Nat) (l0 : List Int) (l1 : List Int) (a2 : Int) : Option (Int × List Int) := none  -- never reached
theorem fq.mono : ∀ a0 a1 a2 k, LeO (fq.f k a0 a1 a2) (fq.f (k + 1) a0 a1 a2) := fun _ _ _ _ => LeO.none _
theorem fq.calls (k : Nat) (P0_ : Nat → Prop) (Oz : Value) (l0 : List Int) (A1 : Option Addr) (c1 : Nat) (l1 : List Int) (a2 : Int) (r1 : Int) (r2 : List Int) (w0 w : World) (hB : Below w0.heap.size w0 w) (ho0 : Kd.R (Kd.int .u32) 119 w w0.heap.size P0_ Oz l0) (hr1 : ∀ W_, Kept w W_ (fun k_ => P0_ k_) → Kd.C (Kd.int .u32) W_ A1 l1.length l1) (hc1 : l1.length ≤ c1) (h : fq.f k l0 l1 a2 = some (r1, r2)) :
    Calls Tryd.prog 125 #[Oz, .slice A1 l1.length c1, .int .i64 a2] w fun e w' => e = .returned (.int .u32 r1) ∧ Kd.R (Kd.int .u32) 119 w' w0.heap.size (fun k_ => (P0_ k_ ∨ w.heap.size ≤ k_)) Oz r2 ∧ Below w0.heap.size w0 w' ∧ Kept w w' (fun k_ => P0_ k_) := by
  cases h

end Go.Proofs.YtggelekooacmnaaDoor.Q
namespace Go.Proofs.YtggelekooacmnaaDoor.Q
open Go.RowKit Go.Proofs.YtggelekooacmnaaDoorW.aU Go.Proofs.YtggelekooacmnaaDoorW.bD Go.Proofs.YtggelekooacmnaaDoorW.bH
set_option linter.unusedVariables false

def eP.f (k : Nat) (l0 : List Int) (a1 : Int) : Option (List Int) := none  -- never reached
theorem eP.mono : ∀ a0 a1 k, LeO (eP.f k a0 a1) (eP.f (k + 1) a0 a1) := fun _ _ _ => LeO.none _
theorem eP.calls (k : Nat) (A0 : Option Addr) (c0 : Nat) (l0 : List Int) (a1 : Int) (r : List Int) (w : World) (hr0 : Kd.C (Kd.int .u32) w A0 l0.length l0) (hc0 : l0.length ≤ c0) (h : eP.f k l0 a1 = some r) :
    Calls Tryd.prog 126 #[.slice A0 l0.length c0, .int .i64 a1] w fun e w' => ∃ v0_ : Value, e = .returned (v0_) ∧ Kd.R (Kd.int .u32) 119 w' w.heap.size (fun _ => True) v0_ r ∧ Below w.heap.size w w' := by
  cases h

end Go.Proofs.YtggelekooacmnaaDoor.Q
