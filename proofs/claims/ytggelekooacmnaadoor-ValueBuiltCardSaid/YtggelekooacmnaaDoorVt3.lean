/- Lemmas for: l9 -/
import Derived.StillTailTactics
import Derived.Lib.QuietBelow
import Derived.Lib.Hide
import Derived.Test.YtggelekooacmnaaDoorVt2
namespace Go.Proofs.YtggelekooacmnaaDoor.Q
open Go.RowKit Go.Proofs.YtggelekooacmnaaDoorW.aJ Go.Proofs.YtggelekooacmnaaDoorW.bu Go.Proofs.YtggelekooacmnaaDoorW.bB
attribute [local go_sem] cZ dh dO dP bX bY dm dn   -- for this text's walks alone
set_option linter.unusedVariables false
set_option linter.unusedSimpArgs false

/-! ### bz: function 47 -/
mutual
def bz.j0 : Nat → Int → Bool → Int → Int → Int → Int → List (S24) → Option ((List (S41)))
 | 0, _, _, _, _, _, _, _ => none
 | k + 1, x8, x21, zD, Cm, Cn, xV, mO => if x21 = true then (some (([(⟨zD, 0, 0⟩ : S41)] : List (S41)))) else (if x8 = 6 then (bz.l0 k (([(⟨2, 0, xV⟩ : S41)] : List (S41))) 0 zD Cm Cn xV mO) else (bz.l1 k ([] : List (S41)) 0 zD Cm Cn xV mO))
def bz.l0 : Nat → List (S41) → Int → Int → Int → Int → Int → List (S24) → Option ((List (S41)))
 | 0, _, _, _, _, _, _, _ => none
 | k + 1, x3, x4, zD, Cm, Cn, xV, mO => if x4 < xV then (if 0 < (mO.length : Int) then ((bz.f k ((ag mO 0).f0) ((ag mO 0).f1) ((ag mO 0).f2) ((ag mO 0).f3) ((ag mO 0).f4)).bind fun t304 => (if x3.length + t304.length < 5864062014805 then (bz.l0 k (x3 ++ t304) (wrap64 (x4 + 1)) zD Cm Cn xV mO) else (none))) else (none)) else (some x3)
def bz.l1 : Nat → List (S41) → Int → Int → Int → Int → Int → List (S24) → Option ((List (S41)))
 | 0, _, _, _, _, _, _, _ => none
 | k + 1, x5, x6, zD, Cm, Cn, xV, mO => if x6 < (mO.length : Int) then (if 0 ≤ x6 then ((bz.f k ((ag mO x6).f0) ((ag mO x6).f1) ((ag mO x6).f2) ((ag mO x6).f3) ((ag mO x6).f4)).bind fun t311 => (if x5.length + t311.length < 5864062014805 then (bz.l1 k (x5 ++ t311) (wrap64 (x6 + 1)) zD Cm Cn xV mO) else (none))) else (none)) else (some x5)
def bz.f : Nat → Int → Int → Int → Int → List (S24) → Option ((List (S41)))
 | 0, _, _, _, _, _ => none
 | k + 1, ah, ak, aj, ai, af => if ah = 1 then (some (([(⟨1, 0, 1⟩ : S41)] : List (S41)))) else (if ah = 2 then (some (([(⟨2, ak, aj⟩ : S41)] : List (S41)))) else (if ah = 3 then (bz.j0 k ah (ah == 3) ah ak aj ai af) else (bz.j0 k ah (ah == 4) ah ak aj ai af)))
end
set_option maxHeartbeats 8000000 in
set_option maxRecDepth 100000 in
theorem bz.calls (k : Nat) : ∀ (ah ak aj ai : Int) (aY : Option Addr) (aT : Nat) (af : List (S24)) (r : List (S41)) (w : World) (dD : Kd.C k24 w aY af.length af) (dX : af.length ≤ aT) (h : bz.f k ah ak aj ai af = some r),
  Calls Tryd.prog 47 #[.agg #[.int .i64 ah, .int .i64 ak, .int .i64 aj, .int .i64 ai, .slice aY af.length aT]] w fun e w' => ∃ v0_ : Value, e = .returned (v0_) ∧ Kd.R k41 41 w' w.heap.size (fun _ => True) v0_ r ∧ Below w.heap.size w w' := by
 induction k using Nat.strongRecOn with
 | _ k ih =>
 intro ah ak aj ai aY aT af r w dD dX h; cases k with
 | zero => exact absurd h (by simp [bz.f])
 | succ k =>
 simp only [bz.f] at h; have bT := aa.mk dD; clear dD dX; have HB := aa.mk (Below.refl w.heap.size w); have H := h; unfold bz.f at H; clear h; by_cases c2 : ah = 1
 ·rw [if_pos c2] at H; obtain ⟨uW, c2b1⟩ := bq_ c2; clear c2; generalize hy291 : (([(⟨1, 0, 1⟩ : S41)] : List (S41))) = y291 at H; replace hy291 := hy291.symm; have Ny291 := aa.mk hy291; clear hy291; obtain rfl := Option.some.inj H; go_enter Tryd.func47, Tryd.ntmps47; go_wp2_with (first | ((with_reducible refine aM (N := 1) rfl ?_); refine bx_ ((t5_ ah ak aj ai aY af.length aT)) 24 ?_; intro GJ hg w3 nE _ HB hb; clear hb hg; obtain ⟨hcz4_0, _, _, _, _, _, _, _, _, _⟩ := bE nE.out) | ((with_reducible refine aM (N := 12) rfl ?_); refine Kd.nM k41 _ 41 ?hg (N := 12) ?hd (xs := ([(⟨1, 0, 1⟩ : S41)] : List (S41))) (inner := [.int .i64 1, .int .i64 0, .int .i64 1]) (ok := fun _ => True) (okp := fun _ => True) ?hr ?hp (fun _ hk => hk) trivial (Below.refl _ _) (Nat.le_refl _) (by simp) ?_; (case hd => rfl); (case hg => rfl); (case hr => (go_simp; done)); (case hp => exact (dB.c3 (show Kd.M k41 _ _ _ (⟨1, 0, 1⟩ : S41) [.int .i64 1, .int .i64 0, .int .i64 1] from (Jt _ _ _ (⟨1, 0, 1⟩ : S41) )) (dB.none _ _))); intro v292 w5 ho6 hb hg_ iy; clear hg_ iy; (rw [← Ny291.out] at ho6); have HO293 := aa.mk (Kd.bN ho6 (aI bl_)); replace HB := aa.mk (ax bl_ hb); clear hb ho6))
  go_ret; exact ⟨_, re_, pR_ HO293.out, bl_⟩
 ·rw [if_neg c2] at H; obtain ⟨uW, c2b1⟩ := bn_ c2; by_cases c7 : ah = 2
  ·rw [if_pos c7] at H; obtain ⟨tO, AX⟩ := bq_ c7; clear c7; generalize hy294 : (([(⟨2, ak, aj⟩ : S41)] : List (S41))) = y294 at H; replace hy294 := hy294.symm; have Ny294 := aa.mk hy294; clear hy294; obtain rfl := Option.some.inj H; go_enter Tryd.func47, Tryd.ntmps47; go_wp2_with (first | ((with_reducible refine aM (N := 1) rfl ?_); refine bx_ ((t5_ ah ak aj ai aY af.length aT)) 24 ?_; intro GJ hg w8 nE _ HB hb; clear hb hg; obtain ⟨qy, uY, AJ, _, _, _, _, _, _, _⟩ := bE nE.out) | ((with_reducible refine aM (N := 20) rfl ?_); refine Kd.nM k41 _ 41 ?hg (N := 20) ?hd (xs := ([(⟨2, ak, aj⟩ : S41)] : List (S41))) (inner := [.int .i64 2, .int .i64 ak, .int .i64 aj]) (ok := fun _ => True) (okp := fun _ => True) ?hr ?hp (fun _ hk => hk) trivial (Below.refl _ _) (Nat.le_refl _) (by simp) ?_; (case hd => rfl); (case hg => rfl); (case hr => (go_simp; done)); (case hp => exact (dB.c3 (show Kd.M k41 _ _ _ (⟨2, ak, aj⟩ : S41) [.int .i64 2, .int .i64 ak, .int .i64 aj] from (Jt _ _ _ (⟨2, ak, aj⟩ : S41) )) (dB.none _ _))); intro v295 w10 ho11 hb hg_ iy; clear hg_ iy; (rw [← Ny294.out] at ho11); have HO296 := aa.mk (Kd.bN ho11 (aI bl_)); replace HB := aa.mk (ax bl_ hb); clear hb ho11))
   go_ret; exact ⟨_, re_, pR_ HO296.out, bl_⟩
  ·rw [if_neg c7] at H; obtain ⟨tO, AX⟩ := bn_ c7; have HC12 := aa.mk H; clear H; go_enter Tryd.func47, Tryd.ntmps47; go_upto_if 21 with (((with_reducible refine aM (N := 1) rfl ?_); refine bx_ ((t5_ ah ak aj ai aY af.length aT)) 24 ?_; intro GJ hg w13 nE _ HB hb; clear hb hg; obtain ⟨uF, _, _, _, _, _, _, _, _, _⟩ := bE nE.out))
   go_cut [21] (fun v21 wc => ∃ (kq : Nat) (Nb : Bool), v21 = .bool Nb ∧ aa (bz.j0 kq ah Nb ah ak aj ai af = some r) ∧ aa (kq ≤ k) ∧ aa (wc.heap[GJ]? = some (.cells #[.int .i64 ah, .int .i64 ak, .int .i64 aj, .int .i64 ai, (.slice aY af.length aT)] 24 (0, 0))) ∧ aa (Below w.heap.size w wc))
   case first =>
    have H := HC12.out; clear HC12; by_cases c15 : ah = 3
    ·rw [if_pos c15] at H; obtain ⟨Ag, MS⟩ := bq_ c15; clear c15; (rw [Ag]); have H' := aa.mk H; clear H; go_wp2; go_meet
     case rel => exact ⟨_, ((ah == 3)), rs_, H', ⟨by omega⟩, ⟨bk_⟩, ⟨bl_⟩⟩
    ·rw [if_neg c15] at H; obtain ⟨Ag, MS⟩ := bn_ c15; (rw [Ag]); have H' := aa.mk H; clear H; go_wp2; go_meet
     case rel => exact ⟨_, ((ah == 4)), rs_, H', ⟨by omega⟩, ⟨bk_⟩, ⟨bl_⟩⟩
   case rest =>
    clear HC12; obtain ⟨kq, Nb, rfl, HA, HJ11, nE, HB⟩ := hcut; cases kq with
    | zero => exact absurd HA.out (by simp [bz.j0])
    | succ kj11 =>
     have H := HA.out; clear HA; simp only [bz.j0] at H; by_cases c16 : Nb = true
     ·subst c16; rw [if_pos rfl] at H; generalize hy297 : (([(⟨ah, 0, 0⟩ : S41)] : List (S41))) = y297 at H; replace hy297 := hy297.symm
      have Ny297 := aa.mk hy297; clear hy297; obtain rfl := Option.some.inj H; obtain ⟨hcz17_0, _, _, _, _, _, _, _, _, _⟩ := bE nE.out; go_wp2_with (((with_reducible refine aM (N := 27) rfl ?_); refine Kd.nM k41 _ 41 ?hg (N := 27) ?hd (xs := ([(⟨ah, 0, 0⟩ : S41)] : List (S41))) (inner := [.int .i64 ah, .int .i64 0, .int .i64 0]) (ok := fun _ => True) (okp := fun _ => True) ?hr ?hp (fun _ hk => hk) trivial (Below.refl _ _) (Nat.le_refl _) (by simp) ?_; (case hd => rfl); (case hg => rfl); (case hr => (go_simp; done)); (case hp => exact (dB.c3 (show Kd.M k41 _ _ _ (⟨ah, 0, 0⟩ : S41) [.int .i64 ah, .int .i64 0, .int .i64 0] from (Jt _ _ _ (⟨ah, 0, 0⟩ : S41) )) (dB.none _ _))); intro v298 w18 ho19 hb hg_ iy; clear hg_ iy; (rw [← Ny297.out] at ho19); have HO299 := aa.mk (Kd.bN ho19 (aI bl_)); replace HB := aa.mk (ax bl_ hb); clear hb ho19))
      go_ret; exact ⟨_, re_, pR_ HO299.out, bl_⟩
     ·replace c16 := Bool.eq_false_iff.mpr c16; subst c16; rw [if_neg (show ¬ (false = true) by decide)] at H; by_cases c20 : ah = 6
      ·rw [if_pos c20] at H; obtain ⟨wR, Nc⟩ := bq_ c20; clear c20; generalize hy300 : (([(⟨2, 0, ai⟩ : S41)] : List (S41))) = y300 at H; replace hy300 := hy300.symm; have Ny300 := aa.mk hy300; clear hy300; have H' := aa.mk H; clear H; obtain ⟨_, _, _, PR, _, _, _, _, _, _⟩ := bE nE.out; go_wp2_with (((with_reducible refine aM (N := 33) rfl ?_); refine Kd.nM k41 _ 41 ?hg (N := 33) ?hd (xs := ([(⟨2, 0, ai⟩ : S41)] : List (S41))) (inner := [.int .i64 2, .int .i64 0, .int .i64 ai]) (ok := fun _ => True) (okp := fun _ => True) ?hr ?hp (fun _ hk => hk) trivial (Below.refl _ _) (Nat.le_refl _) (by simp) ?_; (case hd => rfl); (case hg => rfl); (case hr => (go_simp; done)); (case hp => exact (dB.c3 (show Kd.M k41 _ _ _ (⟨2, 0, ai⟩ : S41) [.int .i64 2, .int .i64 0, .int .i64 ai] from (Jt _ _ _ (⟨2, 0, ai⟩ : S41) )) (dB.none _ _))); intro v301 w22 ho23 hb hg_ iy; clear hg_ iy; (rw [← Ny300.out] at ho23); have HO302 := aa.mk (Kd.bN ho23 (aI bl_)); replace nE := kb_ nE hb; replace HB := aa.mk (ax bl_ hb); clear hb ho23))
       go_loopg [3, 4] kj11 (fun kq v3 v4 w' => ∃ (qz : List (S41)) (ll : Int), v4 = .int .i64 ll ∧ aa (bz.l0 kq qz ll ah ak aj ai af = some r) ∧ aa (kq ≤ kj11) ∧ aa (Kd.R k41 41 w' w.heap.size (fun _ => True) v3 qz) ∧ aa (w'.heap[GJ]? = some (.cells #[.int .i64 ah, .int .i64 ak, .int .i64 aj, .int .i64 ai, (.slice aY af.length aT)] 24 (0, 0))) ∧ aa (Below w.heap.size w w'))
       case atStart => exact ⟨(y300), (0), rs_, H', ⟨Nat.le_refl _⟩, ⟨pR_ HO302.out⟩, ⟨bk_⟩, ⟨bl_⟩⟩
       case round =>
        clear H'; obtain ⟨qz, ll, rfl, HA, HK2, nZ, nE, HB⟩ := hrel; cases gk with
        | zero => exact absurd HA.out (by simp [bz.l0])
        | succ k2 =>
         have H := HA.out; clear HA; simp only [bz.l0] at H; by_cases c24 : ll < ai
         ·rw [if_pos c24] at H; have Ah := decide_eq_true c24; clear c24; by_cases c25 : 0 < (af.length : Int)
          ·rw [if_pos c25] at H; have MX := decide_eq_true c25; clear c25; replace H := Option.bind_eq_some_iff.mp H; obtain ⟨t304, A260, H⟩ := H; have A26 := aa.mk A260; clear A260; by_cases c27 : qz.length + t304.length < 5864062014805
           ·rw [if_pos c27] at H; have LMc27 := aa.mk c27; clear c27; generalize hy307 : (qz ++ t304) = y307 at H; replace hy307 := hy307.symm; have Ny307 := aa.mk hy307; clear hy307; have H' := aa.mk H; clear H; obtain ⟨_, _, _, PI, PK, _, _, _, _, _⟩ := bE nE.out; have p303 : 0 ≤ (0 : Int) := (by omega); have q303 : 0 < (af.length : Int) := dt_; obtain ⟨ad303, A303_4, c303_4, e303, PS, PT, PU, PV, PW, VA, VB⟩ := gu bT.out 0 p303 q303; cases e303; have qi303 : (0 < af.length) = True := eq_true (by omega); (try simp only [z0_, Nat.zero_mul, Addr.add_zero'] at PS PT PU PV PW); replace PS := hc_ HB PS; replace PT := hc_ HB PT; replace PU := hc_ HB PU; replace PV := hc_ HB PV; replace PW := hc_ HB PW; have HR303_4 := aa.mk VB; have HC303_4 := aa.mk VA; clear VB VA; go_wp2_with (first | ((with_reducible refine ay (f := 47) rfl ?_); refine gl_ (some 45) Tryd.func47 #[.agg (t5_ ((ag af 0).f0) ((ag af 0).f1) ((ag af 0).f2) ((ag af 0).f3) A303_4 ((ag af 0).f4).length c303_4)] ?_; (with_reducible refine (ih k2 (by have := HJ11.out; have := HK2.out; omega) ((ag af 0).f0) ((ag af 0).f1) ((ag af 0).f2) ((ag af 0).f3) _ _ ((ag af 0).f4) t304 _ ?au ?av A26.out).mono ?_); (case au => exact cb_ (Kd.aV HR303_4.out HB.out)); (case av => exact HC303_4.out); rintro e w29 ⟨v305, rfl, ho0, hb⟩; refine ⟨_, rfl, ?_⟩; have HO306 := aa.mk (Kd.bN (Kd.eG ho0 (Kd.fK (pR_ nZ.out))) (aI bl_)); replace nZ := aa.mk (Kd.fI (pR_ nZ.out) (Kd.dI ho0) hb); replace nE := kb_ nE hb; replace HB := aa.mk (ax bl_ hb); obtain ⟨CW, CX, eo31⟩ := Kd.bF HO306.out; subst eo31) | ((with_reducible refine lC (b := .append) (xs := #[.tmp 40, .tmp 45]) rfl ?_); at_builtin; refine Kd.uo k41 (w0 := w) w.heap.size rfl (.tmp 40) (.tmp 45) 37 41 (.agg #[(.int .i64 0), (.int .i64 0), (.int .i64 0)]) 24 rfl Tryd.underlying37 info41 rfl (by decide) (by omega) u3 qz t304 _ _ _ (fun k_ => some k_ ≠ (.slice CW t304.length CX : Value).ownBlock) (fun _ => False) rfl rfl ?aO ?aR (fun _ _ h => h) (fun _ h => h.elim) ?aF ?aB ?aS ?aL ?_; (case aR => exact cb_ ((Kd.aZ HO306.out).2.2)); (case aB => exact bl_); (case aF => exact (fun k_ hk => Kd.fresh' (Kd.fK (pR_ HO306.out)) k_ hk)); (case aO => exact (by exact Kd.aX nZ.out (fun _ hk => hk.2))); (case aS => exact (aI bl_)); (case aL => have := LMc27.out; omega); intro v308 w30 ho hb hg hat; rw [← Ny307.out] at ho; have HO309 := aa.mk (ho); replace nE := aa.mk (eF (g := GJ) (o := .cells (t5_ ah ak aj ai (some ad303) af.length aT) 24 (0, 0)) bk_ hg (Kd.nY nZ.out nE.out (by decide))); replace HB := aa.mk (hb); clear nZ; clear ho hb hg hat))
            go_roundg k2
            case measure => have := HJ11.out; have := HK2.out; omega
            case rel => exact ⟨(y307), (wrap64 (ll + 1)), rs_, H', ⟨by have := HJ11.out; have := HK2.out; omega⟩, ⟨by exact Kd.aX HO309.out (fun _ hk => trivial)⟩, ⟨bk_⟩, ⟨bl_⟩⟩
           ·rw [if_neg c27] at H; exact absurd H (by simp)
          ·rw [if_neg c25] at H; exact absurd H (by simp)
         ·rw [if_neg c24] at H; have Ah := decide_eq_false c24; clear c24; obtain rfl := Option.some.inj H; obtain ⟨_, _, _, hcz32_3, _, _, _, _, _, _⟩ := bE nE.out; go_wp2; go_ret; exact ⟨_, re_, pR_ nZ.out, bl_⟩
      ·rw [if_neg c20] at H; obtain ⟨wR, Nc⟩ := bn_ c20; have H' := aa.mk H; clear H; go_wp2; go_loopg [5, 6] kj11 (fun kq v5 v6 w' => ∃ (gq : List (S41)) (dw : Int), v6 = .int .i64 dw ∧ aa (bz.l1 kq gq dw ah ak aj ai af = some r) ∧ aa (kq ≤ kj11) ∧ aa (Kd.R k41 41 w' w.heap.size (fun _ => True) v5 gq) ∧ aa (w'.heap[GJ]? = some (.cells #[.int .i64 ah, .int .i64 ak, .int .i64 aj, .int .i64 ai, (.slice aY af.length aT)] 24 (0, 0))) ∧ aa (Below w.heap.size w w'))
       case atStart => exact ⟨(([] : List (S41))), (0), rs_, H', ⟨Nat.le_refl _⟩, ⟨by exact Kd.jy _ _ _ _ _⟩, ⟨bk_⟩, ⟨bl_⟩⟩
       case round =>
        clear H'; obtain ⟨gq, dw, rfl, HA, HK2, fE, nE, HB⟩ := hrel; cases gk with
        | zero => exact absurd HA.out (by simp [bz.l1])
        | succ k2 =>
         have H := HA.out; clear HA; simp only [bz.l1] at H; by_cases c33 : dw < (af.length : Int)
         ·rw [if_pos c33] at H; have DI := decide_eq_true c33; clear c33; by_cases c34 : 0 ≤ dw
          ·rw [if_pos c34] at H; have c34b0 := decide_eq_true c34; clear c34; replace H := Option.bind_eq_some_iff.mp H; obtain ⟨t311, A350, H⟩ := H; have A35 := aa.mk A350; clear A350; by_cases c36 : gq.length + t311.length < 5864062014805
           ·rw [if_pos c36] at H; have LMc36 := aa.mk c36; clear c36; generalize hy314 : (gq ++ t311) = y314 at H; replace hy314 := hy314.symm; have Ny314 := aa.mk hy314; clear hy314; have H' := aa.mk H; clear H; obtain ⟨_, _, _, _, JO, _, _, _, _, _⟩ := bE nE.out; have p310 : 0 ≤ (dw : Int) := dt_; have q310 : dw < (af.length : Int) := dt_; obtain ⟨ad310, A310_4, c310_4, e310, VC, VD, VE, VF, VG, VH, VI⟩ := gu bT.out dw p310 q310; cases e310; replace VC := hc_ HB VC; replace VD := hc_ HB VD; replace VE := hc_ HB VE; replace VF := hc_ HB VF; replace VG := hc_ HB VG; have HR310_4 := aa.mk VI; have HC310_4 := aa.mk VH; clear VI VH; replace p310 := eq_true p310; replace q310 := eq_true q310; go_wp2_with (first | ((with_reducible refine ay (f := 47) rfl ?_); refine gl_ (some 61) Tryd.func47 #[.agg (t5_ ((ag af dw).f0) ((ag af dw).f1) ((ag af dw).f2) ((ag af dw).f3) A310_4 ((ag af dw).f4).length c310_4)] ?_; (with_reducible refine (ih k2 (by have := HJ11.out; have := HK2.out; omega) ((ag af dw).f0) ((ag af dw).f1) ((ag af dw).f2) ((ag af dw).f3) _ _ ((ag af dw).f4) t311 _ ?au ?av A35.out).mono ?_); (case au => exact cb_ (Kd.aV HR310_4.out HB.out)); (case av => exact HC310_4.out); rintro e w38 ⟨v312, rfl, ho0, hb⟩; refine ⟨_, rfl, ?_⟩; have HO313 := aa.mk (Kd.bN (Kd.eG ho0 (Kd.fK (pR_ fE.out))) (aI bl_)); replace fE := aa.mk (Kd.fI (pR_ fE.out) (Kd.dI ho0) hb); replace nE := kb_ nE hb; replace HB := aa.mk (ax bl_ hb); obtain ⟨Ao40, co40, eo40⟩ := Kd.bF HO313.out; subst eo40) | ((with_reducible refine lC (b := .append) (xs := #[.tmp 55, .tmp 61]) rfl ?_); at_builtin; refine Kd.uo k41 (w0 := w) w.heap.size rfl (.tmp 55) (.tmp 61) 37 41 (.agg #[(.int .i64 0), (.int .i64 0), (.int .i64 0)]) 24 rfl Tryd.underlying37 info41 rfl (by decide) (by omega) u5 gq t311 _ _ _ (fun k_ => some k_ ≠ (.slice Ao40 t311.length co40 : Value).ownBlock) (fun _ => False) rfl rfl ?aO ?aR (fun _ _ h => h) (fun _ h => h.elim) ?aF ?aB ?aS ?aL ?_; (case aR => exact cb_ ((Kd.aZ HO313.out).2.2)); (case aB => exact bl_); (case aF => exact (fun k_ hk => Kd.fresh' (Kd.fK (pR_ HO313.out)) k_ hk)); (case aO => exact (by exact Kd.aX fE.out (fun _ hk => hk.2))); (case aS => exact (aI bl_)); (case aL => have := LMc36.out; omega); intro v315 w39 ho hb hg hat; rw [← Ny314.out] at ho; have HO316 := aa.mk (ho); replace nE := aa.mk (eF (g := GJ) (o := .cells (t5_ ah ak aj ai (some ad310) af.length aT) 24 (0, 0)) bk_ hg (Kd.nY fE.out nE.out (by decide))); replace HB := aa.mk (hb); clear fE; clear ho hb hg hat))
            go_roundg k2
            case measure => have := HJ11.out; have := HK2.out; omega
            case rel => exact ⟨(y314), (wrap64 (dw + 1)), rs_, H', ⟨by have := HJ11.out; have := HK2.out; omega⟩, ⟨by exact Kd.aX HO316.out (fun _ hk => trivial)⟩, ⟨bk_⟩, ⟨bl_⟩⟩
           ·rw [if_neg c36] at H; exact absurd H (by simp)
          ·rw [if_neg c34] at H; exact absurd H (by simp)
         ·rw [if_neg c33] at H; have DI := decide_eq_false c33; clear c33; obtain rfl := Option.some.inj H; obtain ⟨_, _, _, _, hcz41_4, _, _, _, _, _⟩ := bE nE.out; go_wp2; go_ret; exact ⟨_, re_, pR_ fE.out, bl_⟩


/-! ### gL: function 22 -/
def gL.f (k : Nat) (ah ak aj ai : Int) (af : List (S24)) : Option (Int) := (dQ.f k ah ak aj ai af 11).bind fun t318 => (if t318 > 10 then (some 9) else ((aG.f k ah ak aj ai af).bind fun t319 => (if t319 = 0 then ((bz.f k ah ak aj ai af).bind fun t320 => (if (t320.length : Int) > 24 then (some 9) else (some 0))) else (some t319))))
set_option maxHeartbeats 8000000 in
set_option maxRecDepth 100000 in
theorem gL.calls (k : Nat) (ah ak aj ai : Int) (aY : Option Addr) (aT : Nat) (af : List (S24)) (r : Int) (w : World) (dD : Kd.C k24 w aY af.length af) (dX : af.length ≤ aT) (h : gL.f k ah ak aj ai af = some r) :
  Calls Tryd.prog 22 #[.agg #[.int .i64 ah, .int .i64 ak, .int .i64 aj, .int .i64 ai, .slice aY af.length aT]] w fun e w' => e = .returned (.int .i64 r) ∧ Below w.heap.size w w' := by
 have bT := aa.mk dD; have ed := aa.mk dX; clear dD dX; have HB := aa.mk (Below.refl w.heap.size w); have H : ((dQ.f k ah ak aj ai af 11).bind fun t318 => (if t318 > 10 then (some 9) else ((aG.f k ah ak aj ai af).bind fun t319 => (if t319 = 0 then ((bz.f k ah ak aj ai af).bind fun t320 => (if (t320.length : Int) > 24 then (some 9) else (some 0))) else (some t319))))) = some r := h; clear h; replace H := Option.bind_eq_some_iff.mp H; obtain ⟨t318, A20, H⟩ := H; have A2 := aa.mk A20; clear A20; by_cases c3 : t318 > 10
 focus
  rw [if_pos c3] at H; have kM : decide (10 < t318) = true := decide_eq_true c3; clear c3
 rotate_left
 focus
  rw [if_neg c3] at H; have kM : decide (10 < t318) = false := decide_eq_false c3; clear c3; replace H := Option.bind_eq_some_iff.mp H; obtain ⟨t319, A70, H⟩ := H; have A7 := aa.mk A70; clear A70; by_cases c8 : t319 = 0
  ·rw [if_pos c8] at H; obtain ⟨wE, AV⟩ := bq_ c8; clear c8; replace H := Option.bind_eq_some_iff.mp H; obtain ⟨t320, A90, H⟩ := H; have A9 := aa.mk A90; clear A90; by_cases c10 : (t320.length : Int) > 24
   focus
    rw [if_pos c10] at H; have pR : decide (24 < (t320.length : Int)) = true := decide_eq_true c10
   rotate_left
   focus
    rw [if_neg c10] at H; have pR : decide (24 < (t320.length : Int)) = false := decide_eq_false c10
   rotate_left
   all_goals
    clear c10; obtain rfl := Option.some.inj H; go_enter Tryd.func22, Tryd.ntmps22; go_wp2_with (first | ((with_reducible refine aM (N := 1) rfl ?_); refine bx_ ((t5_ ah ak aj ai aY af.length aT)) 24 ?_; intro gb317 hg w11 wS _ HB hb; clear hb hg; obtain ⟨pq, rZ, Ci, Cj, zm, _, _, _, _, _⟩ := bE wS.out) | ((with_reducible refine ay (f := 45) rfl ?_); refine gl_ (some 5) Tryd.func45 #[.agg (t5_ ah ak aj ai aY af.length aT), .int .i64 11] ?_; (with_reducible refine (dQ.calls k ah ak aj ai _ _ af 11 t318 _ ?au ?av A2.out).mono ?_); (case au => exact cb_ (Kd.aV bT.out HB.out)); (case av => exact ed.out); rintro e w13 ⟨rfl, hb⟩; refine ⟨_, rfl, ?_⟩; replace wS := kb_ wS hb; replace HB := aa.mk (ax bl_ hb); obtain ⟨uF, vV, BX, xN, xO, _, _, _, _, _⟩ := bE wS.out) | ((with_reducible refine ay (f := 46) rfl ?_); refine gl_ (some 8) Tryd.func46 #[.agg (t5_ ah ak aj ai aY af.length aT)] ?_; (with_reducible refine (aG.calls k ah ak aj ai _ _ af t319 _ ?au ?av A7.out).mono ?_); (case au => exact cb_ (Kd.aV bT.out HB.out)); (case av => exact ed.out); rintro e w15 ⟨rfl, hb⟩; refine ⟨_, rfl, ?_⟩; replace wS := kb_ wS hb; replace HB := aa.mk (ax bl_ hb); obtain ⟨qP, rY, uG, zn, zo, _, _, _, _, _⟩ := bE wS.out) | ((with_reducible refine ay (f := 47) rfl ?_); refine gl_ (some 13) Tryd.func47 #[.agg (t5_ ah ak aj ai aY af.length aT)] ?_; (with_reducible refine (bz.calls k ah ak aj ai _ _ af t320 _ ?au ?av A9.out).mono ?_); (case au => exact cb_ (Kd.aV bT.out HB.out)); (case av => exact ed.out); rintro e w17 ⟨v321, rfl, ho0, hb⟩; refine ⟨_, rfl, ?_⟩; have HO322 := aa.mk (Kd.bN ho0 (aI bl_)); replace HB := aa.mk (ax bl_ hb); obtain ⟨Ao18, CY, CZ⟩ := Kd.bF HO322.out; subst CZ))
    go_ret; exact ⟨re_, bl_⟩
  rw [if_neg c8] at H; obtain ⟨wE, AV⟩ := bn_ c8
 rotate_left
 all_goals
  obtain rfl := Option.some.inj H; go_enter Tryd.func22, Tryd.ntmps22; go_wp2_with (first | ((with_reducible refine aM (N := 1) rfl ?_); refine bx_ ((t5_ ah ak aj ai aY af.length aT)) 24 ?_; intro gb317 hg w4 wS _ HB hb; clear hb hg; obtain ⟨CO, hcz5_1, hcz5_2, hcz5_3, hcz5_4, _, _, _, _, _⟩ := bE wS.out) | ((with_reducible refine ay (f := 45) rfl ?_); refine gl_ (some 5) Tryd.func45 #[.agg (t5_ ah ak aj ai aY af.length aT), .int .i64 11] ?_; (with_reducible refine (dQ.calls k ah ak aj ai _ _ af 11 t318 _ ?au ?av A2.out).mono ?_); (case au => exact cb_ (Kd.aV bT.out HB.out)); (case av => exact ed.out); rintro e w6 ⟨rfl, hb⟩; refine ⟨_, rfl, ?_⟩; replace wS := kb_ wS hb; replace HB := aa.mk (ax bl_ hb); (try (obtain ⟨zh, zi, BZ, Ca, Cb, _, _, _, _, _⟩ := bE wS.out))) | ((with_reducible refine ay (f := 46) rfl ?_); refine gl_ (some 8) Tryd.func46 #[.agg (t5_ ah ak aj ai aY af.length aT)] ?_; (with_reducible refine (aG.calls k ah ak aj ai _ _ af t319 _ ?au ?av A7.out).mono ?_); (case au => exact cb_ (Kd.aV bT.out HB.out)); (case av => exact ed.out); rintro e w31 ⟨rfl, hb⟩; refine ⟨_, rfl, ?_⟩; replace HB := aa.mk (ax bl_ hb)))
  go_ret; exact ⟨re_, bl_⟩

end Go.Proofs.YtggelekooacmnaaDoor.Q
-- types.Equal and slices.EqualFunc at types, walked by hand
namespace Go.Proofs.YtggelekooacmnaaDoor.Q
open Go.RowKit Go.Proofs.YtggelekooacmnaaDoorW.aJ Go.Proofs.YtggelekooacmnaaDoorW.bu Go.Proofs.YtggelekooacmnaaDoorW.bB
set_option linter.unusedVariables false
set_option linter.unusedSimpArgs false
end Go.Proofs.YtggelekooacmnaaDoor.Q
set_option linter.unusedVariables false
set_option linter.unusedSimpArgs false
namespace Go.Proofs.YtggelekooacmnaaDoor.Pure
open Go.RowKit Go.Proofs.YtggelekooacmnaaDoor.Q Go.Proofs.YtggelekooacmnaaDoorW.aJ Go.Proofs.YtggelekooacmnaaDoorW.bu Go.Proofs.YtggelekooacmnaaDoorW.bB
-- plain laws on types: what the printed functions of the types come to
theorem VJ {n : Int} (h1 : -9223372036854775808 ≤ n) (h2 : n ≤ 9223372036854775807) : wrap64 n = n := by unfold wrap64; omega
theorem iJ {n : Nat} (h2 : n ≤ 1000000000) : wrap64 ((n : Int) + 1) = ((n + 1 : Nat) : Int) := by unfold wrap64; omega
theorem rdT {l : List S24} {i : Nat} (h : i < l.length) : ag l (i : Int) = l[i] := by
  unfold ag; simp [List.getD, h]
theorem rdT0 {l : List S24} (h : 0 < l.length) : ag l 0 = l[0] := by
  unfold ag; simp [List.getD, h]
/-- bounded: n levels at most, each list of at most a thousand -/
def Bd : Nat → S24 → Prop
  | 0, _ => False
  | n + 1, t => t.f4.length ≤ 1000 ∧ ∀ x ∈ t.f4, Bd n x
/-- an evaluation of a function of types at a type -/
def at_ {α : Type} (g : Nat → Int → Int → Int → Int → List S24 → Option α) (t : S24) : Nat → Option α := fun k => g k t.f0 t.f1 t.f2 t.f3 t.f4
def mxl (f : S24 → Int) : List S24 → Int → Int
  | [], m => m
  | x :: l, m => mxl f l (mx m (f x))
def dep : Nat → S24 → Int
  | 0, _ => 0
  | n + 1, t => mxl (dep n) t.f4 0 + 1
theorem mx_le {a b c : Int} (h1 : a ≤ c) (h2 : b ≤ c) : mx a b ≤ c := by unfold mx; split <;> omega
theorem mx_ge {a b : Int} : a ≤ mx a b ∧ b ≤ mx a b := by unfold mx; split <;> omega
theorem IC (f : S24 → Int) : ∀ (l : List S24) (m : Int), m ≤ mxl f l m
  | [], m => Int.le_refl _
  | x :: l, m => Int.le_trans mx_ge.1 (IC f l _)
theorem RS {f : S24 → Int} {c : Int} : ∀ {l : List S24} {m : Int}, (∀ x ∈ l, f x ≤ c) → m ≤ c → mxl f l m ≤ c
  | [], m, _, h => h
  | x :: l, m, h, hm => RS (l := l) (fun y hy => h y (List.mem_cons_of_mem x hy)) (mx_le hm (h x List.mem_cons_self))
theorem Nf : ∀ (n : Nat) (t : S24), 0 ≤ dep n t ∧ dep n t ≤ n
  | 0, t => by simp [dep]
  | n + 1, t => by
    have h1 := IC (dep n) t.f4 0
    have h2 := RS (f := dep n) (c := n) (l := t.f4) (m := 0) (fun x _ => (Nf n x).2) (by omega)
    simp only [dep]; omega
theorem depth_l0 (n : Nat) (hn : n ≤ 1000) (l : List S24) (hl : l.length ≤ 1000) (ih : ∀ t ∈ l, Ev (at_ eu.f t) (dep n t)) :
    ∀ (d i : Nat) (m : Int), 0 ≤ m → m ≤ 1000 → i + d = l.length → Ev (fun k => eu.l0 k m l l.length i) (mxl (dep n) (l.drop i) m + 1) := by
  intro d
  induction d with
  | zero =>
    intro i m h0 h1 hi
    refine ⟨1, fun k hk => ?_⟩
    obtain ⟨k, rfl⟩ : ∃ j, k = j + 1 := ⟨k - 1, by omega⟩
    simp only [eu.l0]
    rw [if_neg (by omega), List.drop_eq_nil_of_le (by omega), VJ (by omega) (by omega)]; rfl
  | succ d IH =>
    intro i m h0 h1 hi
    have hlt : i < l.length := by omega
    obtain ⟨K1, e1⟩ := ih l[i] (List.getElem_mem hlt)
    have hb := Nf n l[i]
    obtain ⟨K2, e2⟩ := IH (i + 1) (mx m (dep n l[i])) (Int.le_trans h0 mx_ge.1) (mx_le h1 (by omega)) (by omega)
    refine ⟨max K1 K2 + 1, fun k hk => ?_⟩
    obtain ⟨k, rfl⟩ : ∃ j, k = j + 1 := ⟨k - 1, by omega⟩
    have e1' := e1 k (by omega)
    have e2' := e2 k (by omega)
    unfold at_ at e1'
    dsimp only at e1' e2'
    simp only [eu.l0]
    rw [if_pos (by omega), if_pos (by omega), if_pos (by omega), rdT hlt, e1', Option.bind_some, iJ (by omega), e2', List.drop_eq_getElem_cons hlt]; rfl
theorem RU (n : Nat) : ∀ (t : S24), n ≤ 1000 → Bd n t → Ev (at_ eu.f t) (dep n t) := by
  induction n with
  | zero => intro t _ h; exact h.elim
  | succ n ih =>
    intro t hn hb
    have h := depth_l0 n (by omega) t.f4 hb.1 (fun x hx => ih x (by omega) (hb.2 x hx)) t.f4.length 0 0 (by omega) (by omega) (by omega)
    exact h.step (fun k => by simp only [at_, eu.f]; rfl)
/-- the Ee depth -/
theorem Ng (a b : Int) : mn a b = min a b := by unfold mn; split <;> omega
theorem mx_eq (a b : Int) : mx a b = max a b := by unfold mx; split <;> omega
theorem mxl_eq (f : S24 → Int) : ∀ (l : List S24) (m c : Int), mxl (fun x => min (f x) c) l (min m c) = min (mxl f l m) c
  | [], m, c => rfl
  | x :: l, m, c => by
    simp only [mxl]
    rw [show mx (min m c) (min (f x) c) = min (mx m (f x)) c from by simp only [mx_eq]; omega]
    exact mxl_eq f l _ c
theorem Depth_l0 (n : Nat) (hn : n ≤ 1000) (l : List S24) (hl : l.length ≤ 1000) (c a b m' : Int) (hc : 1 ≤ c) (hc' : c ≤ 1000) (ih : ∀ t ∈ l, Ev (fun k => dQ.f k t.f0 t.f1 t.f2 t.f3 t.f4 c) (min (dep n t) c)) (k0 : Int) :
    ∀ (d i : Nat) (m : Int), 0 ≤ m → m ≤ c → i + d = l.length → Ev (fun k => dQ.l0 k (c + 1) m i k0 a b m' l) (min (mxl (fun x => min (dep n x) c) (l.drop i) m + 1) (c + 1)) := by
  intro d
  induction d with
  | zero =>
    intro i m h0 h1 hi
    refine ⟨1, fun k hk => ?_⟩
    obtain ⟨k, rfl⟩ : ∃ j, k = j + 1 := ⟨k - 1, by omega⟩
    simp only [dQ.l0]
    rw [if_neg (by omega), List.drop_eq_nil_of_le (by omega), VJ (by omega) (by omega), Ng]; rfl
  | succ d IH =>
    intro i m h0 h1 hi
    have hlt : i < l.length := by omega
    obtain ⟨K1, e1⟩ := ih l[i] (List.getElem_mem hlt)
    have hb := Nf n l[i]
    obtain ⟨K2, e2⟩ := IH (i + 1) (mx m (min (dep n l[i]) c)) (Int.le_trans h0 mx_ge.1) (mx_le h1 (by omega)) (by omega)
    refine ⟨max K1 K2 + 1, fun k hk => ?_⟩
    obtain ⟨k, rfl⟩ : ∃ j, k = j + 1 := ⟨k - 1, by omega⟩
    have e1' := e1 k (by omega)
    have e2' := e2 k (by omega)
    dsimp only at e1' e2'
    have ew : wrap64 (c + 1 - 1) = c := by unfold wrap64; omega
    simp only [dQ.l0]
    rw [if_pos (by omega), if_pos (by omega), rdT hlt, ew, e1', Option.bind_some, iJ (by omega), e2', List.drop_eq_getElem_cons hlt]; rfl
theorem RV (n : Nat) : ∀ (t : S24) (c : Int), n ≤ 1000 → 1 ≤ c → c ≤ 1000 → Bd n t → Ev (fun k => dQ.f k t.f0 t.f1 t.f2 t.f3 t.f4 c) (min (dep n t) c) := by
  induction n with
  | zero => intro t c _ _ _ h; exact h.elim
  | succ n ih =>
    intro t c hn h1 h2 hb
    by_cases hc : c = 1
    · subst hc
      have hd := Nf n
      have hd1 : 1 ≤ dep (n + 1) t := by have := IC (dep n) t.f4 0; simp only [dep]; omega
      refine ⟨1, fun k hk => ?_⟩
      obtain ⟨k, rfl⟩ : ∃ j, k = j + 1 := ⟨k - 1, by omega⟩
      simp only [dQ.f]
      rw [if_neg (by omega)]
      have : min (dep (n + 1) t) 1 = 1 := by omega
      rw [this]
      split
      · rfl
      · rw [Ng]; rfl
    · obtain ⟨c, rfl⟩ : ∃ e, c = e + 1 := ⟨c - 1, by omega⟩
      have h := Depth_l0 n (by omega) t.f4 hb.1 c t.f1 t.f2 t.f3 (by omega) (by omega) (fun x hx => ih x c (by omega) (by omega) (by omega) (hb.2 x hx)) t.f0 t.f4.length 0 0 (by omega) (by omega) (by omega)
      have e : min (mxl (fun x => min (dep n x) c) (t.f4.drop 0) 0 + 1) (c + 1) = min (dep (n + 1) t) (c + 1) := by
        have := mxl_eq (dep n) t.f4 0 c
        rw [show min (0 : Int) c = 0 from by omega] at this
        simp only [dep, List.drop_zero, this]; omega
      rw [← e]
      exact h.step (fun k => by simp only [dQ.f]; rw [if_pos (by omega)]; rfl)

end Go.Proofs.YtggelekooacmnaaDoor.Pure
set_option linter.unusedVariables false
set_option linter.unusedSimpArgs false
namespace Go.Proofs.YtggelekooacmnaaDoor.Pure
open Go.RowKit Go.Proofs.YtggelekooacmnaaDoor.Q Go.Proofs.YtggelekooacmnaaDoorW.aJ Go.Proofs.YtggelekooacmnaaDoorW.bu Go.Proofs.YtggelekooacmnaaDoorW.bB
-- faults
def fl1 (f : S24 → Int) : List S24 → Int
  | [] => 0
  | x :: l => if f x = 0 then (if x.f0 = 3 then 8 else if x.f0 = 4 then 8 else fl1 f l) else f x
abbrev unus (a0 a1 a2 a3 : Int) (l : List S24) : Prop := (a0 ≠ 2 ∧ (a1 ≠ 0 ∨ a2 ≠ 0)) ∨ (a0 ≠ 6 ∧ a3 ≠ 0) ∨ (a0 < 5 ∧ l.length ≠ 0)
def lst1 (f : S24 → Int) : List S24 → Int
  | [x] => if f x = 0 then (if x.f0 = 1 then 0 else if x.f0 = 2 then 0 else 8) else f x
  | _ => 2
def flt : Nat → S24 → Int
  | 0, _ => 0
  | n + 1, t => if t.f0 < 1 ∨ 6 < t.f0 then 14 else if unus t.f0 t.f1 t.f2 t.f3 t.f4 then 2
    else if t.f0 = 2 then (if t.f1 < -1000 ∨ t.f1 > t.f2 ∨ t.f2 > 1000 then 1 else 0)
    else if t.f0 = 5 then (if t.f4.length < 2 ∨ t.f4.length > 4 then 1 else fl1 (flt n) t.f4)
    else if t.f0 = 6 then (if t.f3 < 1 ∨ t.f3 > 4 then 1 else lst1 (flt n) t.f4)
    else 0
theorem LZ {a : Int} (h : ¬ (a < 1 ∨ 6 < a)) : a = 1 ∨ a = 2 ∨ a = 3 ∨ a = 4 ∨ a = 5 ∨ a = 6 := by omega
theorem QU {a0 a1 a2 a3 : Int} {l : List S24} (h : ¬ (a0 < 1 ∨ 6 < a0)) : kP.f a0 a1 a2 a3 l = some (decide (unus a0 a1 a2 a3 l)) := by
  unfold kP.f unus
  rcases LZ h with rfl | rfl | rfl | rfl | rfl | rfl <;> by_cases h1 : a1 = 0 <;> by_cases h2 : a2 = 0 <;> by_cases h3 : a3 = 0 <;> by_cases h4 : l = [] <;> simp [h1, h2, h3, h4]
theorem fault_l0 (n : Nat) (l : List S24) (hl : l.length ≤ 1000) (ih : ∀ t ∈ l, Ev (at_ bg.f t) (flt n t)) :
    ∀ (d i : Nat), i + d = l.length → Ev (fun k => bg.l0 k l l.length i) (fl1 (flt n) (l.drop i)) := by
  intro d
  induction d with
  | zero =>
    intro i hi
    refine ⟨1, fun k hk => ?_⟩
    obtain ⟨k, rfl⟩ : ∃ j, k = j + 1 := ⟨k - 1, by omega⟩
    simp only [bg.l0]
    rw [if_neg (by omega), List.drop_eq_nil_of_le (by omega)]; rfl
  | succ d IH =>
    intro i hi
    have hlt : i < l.length := by omega
    obtain ⟨K1, e1⟩ := ih l[i] (List.getElem_mem hlt)
    obtain ⟨K2, e2⟩ := IH (i + 1) (by omega)
    refine ⟨max K1 K2 + 1, fun k hk => ?_⟩
    obtain ⟨k, rfl⟩ : ∃ j, k = j + 1 := ⟨k - 1, by omega⟩
    have e1' := e1 k (by omega)
    have e2' := e2 k (by omega)
    unfold at_ at e1'
    dsimp only at e1' e2'
    simp only [bg.l0]
    rw [if_pos (by omega), if_pos (by omega), if_pos (by omega), rdT hlt, e1', Option.bind_some, iJ (by omega), e2', List.drop_eq_getElem_cons hlt]
    simp only [fl1]
    repeat' split
    all_goals rfl
theorem RX (n : Nat) : ∀ (t : S24), n ≤ 1000 → Bd n t → Ev (at_ bg.f t) (flt n t) := by
  induction n with
  | zero => intro t _ h; exact h.elim
  | succ n ih =>
    intro t hn hb
    obtain ⟨a0, a1, a2, a3, l⟩ := t
    have hl : l.length ≤ 1000 := hb.1
    by_cases hk : a0 < 1 ∨ 6 < a0
    · refine ⟨2, fun k hk2 => ?_⟩
      obtain ⟨k, rfl⟩ : ∃ j, k = j + 2 := ⟨k - 2, by omega⟩
      simp only [at_, bg.f, flt]
      rw [if_pos hk]
      split
      · simp only [bg.j0, if_true]
      · rw [show decide (a0 > 6) = true from by simp; omega]; simp only [bg.j0, if_true]
    · have hj : ∀ k, at_ bg.f ⟨a0, a1, a2, a3, l⟩ (k + 2) = bg.j0 (k + 1) false a0 a1 a2 a3 l := by
        intro k
        simp only [at_, bg.f]
        rw [if_neg (by omega), show decide (a0 > 6) = false from by simp; omega]
      by_cases hu : unus a0 a1 a2 a3 l
      · refine ⟨2, fun k hk2 => ?_⟩
        obtain ⟨k, rfl⟩ : ∃ j, k = j + 2 := ⟨k - 2, by omega⟩
        rw [hj]
        simp only [bg.j0]
        rw [QU hk, decide_eq_true hu]
        simp only [flt, if_neg hk, if_pos hu]; rfl
      · have hj0 : ∀ k, at_ bg.f ⟨a0, a1, a2, a3, l⟩ (k + 2) = (if a0 = 2 then (if a1 < (-1000) then (some 1) else (if a1 > a2 then (some 1) else (if a2 > 1000 then (some 1) else (some 0)))) else (if a0 = 5 then (if (l.length : Int) < 2 then (bg.j1 k true a0 a1 a2 a3 l) else (bg.j1 k (decide ((l.length : Int) > 4)) a0 a1 a2 a3 l)) else (if a0 = 6 then (if a3 < 1 then (bg.j3 k true a0 a1 a2 a3 l) else (bg.j3 k (decide (a3 > 4)) a0 a1 a2 a3 l)) else (some 0)))) := by
          intro k
          rw [hj]
          simp only [bg.j0]
          rw [QU hk, decide_eq_false hu]; rfl
        have hs : flt (n + 1) ⟨a0, a1, a2, a3, l⟩ = (if a0 = 2 then (if a1 < -1000 ∨ a1 > a2 ∨ a2 > 1000 then 1 else 0) else if a0 = 5 then (if l.length < 2 ∨ l.length > 4 then 1 else fl1 (flt n) l) else if a0 = 6 then (if a3 < 1 ∨ a3 > 4 then 1 else lst1 (flt n) l) else 0) := by
          simp only [flt, if_neg hk, if_neg hu]
        rw [hs]
        by_cases k2 : a0 = 2
        · refine ⟨2, fun k hk2 => ?_⟩
          obtain ⟨k, rfl⟩ : ∃ j, k = j + 2 := ⟨k - 2, by omega⟩
          rw [hj0, if_pos k2, if_pos k2]
          by_cases c1 : a1 < -1000
          · rw [if_pos c1, if_pos (by omega)]
          · by_cases c2 : a1 > a2
            · rw [if_neg c1, if_pos c2, if_pos (by omega)]
            · by_cases c3 : a2 > 1000
              · rw [if_neg c1, if_neg c2, if_pos c3, if_pos (by omega)]
              · rw [if_neg c1, if_neg c2, if_neg c3, if_neg (by omega)]
        · by_cases k5 : a0 = 5
          · by_cases c : l.length < 2 ∨ l.length > 4
            · refine ⟨3, fun k hk2 => ?_⟩
              obtain ⟨k, rfl⟩ : ∃ j, k = j + 3 := ⟨k - 3, by omega⟩
              rw [hj0, if_neg k2, if_neg k2, if_pos k5, if_pos k5, if_pos c]
              split
              · simp only [bg.j1, if_true]
              · rw [show decide ((l.length : Int) > 4) = true from by simp; omega]; simp only [bg.j1, if_true]
            · obtain ⟨K, e⟩ := fault_l0 n l hl (fun x hx => ih x (by omega) (hb.2 x hx)) l.length 0 (by omega)
              refine ⟨K + 3, fun k hk2 => ?_⟩
              obtain ⟨k, rfl⟩ : ∃ j, k = j + 3 := ⟨k - 3, by omega⟩
              rw [hj0, if_neg k2, if_neg k2, if_pos k5, if_pos k5, if_neg c, if_neg (by omega), show decide ((l.length : Int) > 4) = false from by simp; omega]
              have e' := e k (by omega)
              dsimp only at e'
              simp only [bg.j1]
              rw [if_neg (by decide)]
              exact e'
          · by_cases k6 : a0 = 6
            · by_cases c : a3 < 1 ∨ a3 > 4
              · refine ⟨3, fun k hk2 => ?_⟩
                obtain ⟨k, rfl⟩ : ∃ j, k = j + 3 := ⟨k - 3, by omega⟩
                rw [hj0, if_neg k2, if_neg k2, if_neg k5, if_neg k5, if_pos k6, if_pos k6, if_pos c]
                split
                · simp only [bg.j3, if_true]
                · rw [show decide (a3 > 4) = true from by simp; omega]; simp only [bg.j3, if_true]
              · have hj3 : ∀ k, at_ bg.f ⟨a0, a1, a2, a3, l⟩ (k + 3) = bg.j3 (k + 1) false a0 a1 a2 a3 l := by
                  intro k
                  rw [hj0, if_neg k2, if_neg k5, if_pos k6, if_neg (by omega), show decide (a3 > 4) = false from by simp; omega]
                rw [if_neg k2, if_neg k5, if_pos k6, if_neg c]
                match l, hl, hb, hj3 with
                | [x], hl, hb, hj3 =>
                  obtain ⟨K, e⟩ := ih x (by omega) (hb.2 x List.mem_cons_self)
                  refine ⟨K + 3, fun k hk2 => ?_⟩
                  obtain ⟨k, rfl⟩ : ∃ j, k = j + 3 := ⟨k - 3, by omega⟩
                  have e' := e k (by omega)
                  unfold at_ at e'
                  rw [hj3]
                  simp only [bg.j3]
                  rw [if_neg (by decide), if_pos (by simp), if_pos (by simp), rdT0 (by simp), List.getElem_cons_zero, e', Option.bind_some]
                  simp only [lst1]
                  repeat' split
                  all_goals rfl
                | [], hl, hb, hj3 =>
                  refine ⟨3, fun k hk2 => ?_⟩
                  obtain ⟨k, rfl⟩ : ∃ j, k = j + 3 := ⟨k - 3, by omega⟩
                  rw [hj3]; simp only [bg.j3]; rfl
                | x :: y :: l, hl, hb, hj3 =>
                  refine ⟨3, fun k hk2 => ?_⟩
                  obtain ⟨k, rfl⟩ : ∃ j, k = j + 3 := ⟨k - 3, by omega⟩
                  rw [hj3]; simp only [bg.j3]
                  rw [if_neg (by decide), if_neg (by simp; omega)]; rfl
            · refine ⟨2, fun k hk2 => ?_⟩
              obtain ⟨k, rfl⟩ : ∃ j, k = j + 2 := ⟨k - 2, by omega⟩
              rw [hj0]
              simp only [if_neg k2, if_neg k5, if_neg k6]
theorem wrong_j0 {a0 a1 a2 a3 : Int} {l : List S24} (k : Nat) (h : ¬ (a0 < 1 ∨ 6 < a0)) : aG.j0 (k + 1) a0 false a0 a1 a2 a3 l = aG.j1 k a0 (decide (unus a0 a1 a2 a3 l)) a0 a1 a2 a3 l := by
  unfold unus
  simp only [aG.j0]
  rcases LZ h with rfl | rfl | rfl | rfl | rfl | rfl <;> by_cases h1 : a1 = 0 <;> by_cases h2 : a2 = 0 <;> by_cases h3 : a3 = 0 <;> by_cases h4 : l = [] <;> simp [h1, h2, h3, h4] <;> (congr 1; cases l <;> simp_all <;> omega)
theorem wrong_l0 (n : Nat) (l : List S24) (hl : l.length ≤ 1000) (a0 a1 a2 a3 : Int) (ih : ∀ t ∈ l, Ev (at_ aG.f t) (flt n t)) :
    ∀ (d i : Nat), i + d = l.length → Ev (fun k => aG.l0 k i a0 a1 a2 a3 l) (fl1 (flt n) (l.drop i)) := by
  intro d
  induction d with
  | zero =>
    intro i hi
    refine ⟨1, fun k hk => ?_⟩
    obtain ⟨k, rfl⟩ : ∃ j, k = j + 1 := ⟨k - 1, by omega⟩
    simp only [aG.l0]
    rw [if_neg (by omega), List.drop_eq_nil_of_le (by omega)]; rfl
  | succ d IH =>
    intro i hi
    have hlt : i < l.length := by omega
    obtain ⟨K1, e1⟩ := ih l[i] (List.getElem_mem hlt)
    obtain ⟨K2, e2⟩ := IH (i + 1) (by omega)
    refine ⟨max K1 K2 + 1, fun k hk => ?_⟩
    obtain ⟨k, rfl⟩ : ∃ j, k = j + 1 := ⟨k - 1, by omega⟩
    have e1' := e1 k (by omega)
    have e2' := e2 k (by omega)
    unfold at_ at e1'
    dsimp only at e1' e2'
    simp only [aG.l0]
    rw [if_pos (by omega), if_pos (by omega), rdT hlt, e1', Option.bind_some, iJ (by omega), e2', List.drop_eq_getElem_cons hlt]
    simp only [fl1]
    repeat' split
    all_goals rfl
theorem RY (n : Nat) : ∀ (t : S24), n ≤ 1000 → Bd n t → Ev (at_ aG.f t) (flt n t) := by
  induction n with
  | zero => intro t _ h; exact h.elim
  | succ n ih =>
    intro t hn hb
    obtain ⟨a0, a1, a2, a3, l⟩ := t
    have hl : l.length ≤ 1000 := hb.1
    by_cases hk : a0 < 1 ∨ 6 < a0
    · refine ⟨2, fun k hk2 => ?_⟩
      obtain ⟨k, rfl⟩ : ∃ j, k = j + 2 := ⟨k - 2, by omega⟩
      simp only [at_, aG.f, flt]
      rw [if_pos hk]
      split
      · simp only [aG.j0, if_true]
      · rw [show decide (a0 > 6) = true from by simp; omega]; simp only [aG.j0, if_true]
    · have hj : ∀ k, at_ aG.f ⟨a0, a1, a2, a3, l⟩ (k + 2) = aG.j1 k a0 (decide (unus a0 a1 a2 a3 l)) a0 a1 a2 a3 l := by
        intro k
        simp only [at_, aG.f]
        rw [if_neg (by omega), show decide (a0 > 6) = false from by simp; omega, wrong_j0 k hk]
      by_cases hu : unus a0 a1 a2 a3 l
      · refine ⟨3, fun k hk2 => ?_⟩
        obtain ⟨k, rfl⟩ : ∃ j, k = j + 3 := ⟨k - 3, by omega⟩
        rw [hj, decide_eq_true hu]
        simp only [aG.j1, flt, if_neg hk, if_pos hu, if_true]
      · have hj0 : ∀ k, at_ aG.f ⟨a0, a1, a2, a3, l⟩ (k + 3) = (if a0 = 2 then (if a1 < (-1000) then (some 1) else (if a1 > a2 then (some 1) else (if a2 > 1000 then (some 1) else (some 0)))) else (if a0 = 5 then (if (l.length : Int) < 2 then (aG.j2 k true a0 a1 a2 a3 l) else (aG.j2 k (decide ((l.length : Int) > 4)) a0 a1 a2 a3 l)) else (if a0 = 6 then (if a3 < 1 then (aG.j4 k true a0 a1 a2 a3 l) else (aG.j4 k (decide (a3 > 4)) a0 a1 a2 a3 l)) else (some 0)))) := by
          intro k
          rw [hj, decide_eq_false hu]
          simp only [aG.j1]
          rw [if_neg (by decide)]
        have hs : flt (n + 1) ⟨a0, a1, a2, a3, l⟩ = (if a0 = 2 then (if a1 < -1000 ∨ a1 > a2 ∨ a2 > 1000 then 1 else 0) else if a0 = 5 then (if l.length < 2 ∨ l.length > 4 then 1 else fl1 (flt n) l) else if a0 = 6 then (if a3 < 1 ∨ a3 > 4 then 1 else lst1 (flt n) l) else 0) := by
          simp only [flt, if_neg hk, if_neg hu]
        rw [hs]
        by_cases k2 : a0 = 2
        · refine ⟨3, fun k hk2 => ?_⟩
          obtain ⟨k, rfl⟩ : ∃ j, k = j + 3 := ⟨k - 3, by omega⟩
          rw [hj0, if_pos k2, if_pos k2]
          by_cases c1 : a1 < -1000
          · rw [if_pos c1, if_pos (by omega)]
          · by_cases c2 : a1 > a2
            · rw [if_neg c1, if_pos c2, if_pos (by omega)]
            · by_cases c3 : a2 > 1000
              · rw [if_neg c1, if_neg c2, if_pos c3, if_pos (by omega)]
              · rw [if_neg c1, if_neg c2, if_neg c3, if_neg (by omega)]
        · by_cases k5 : a0 = 5
          · by_cases c : l.length < 2 ∨ l.length > 4
            · refine ⟨4, fun k hk2 => ?_⟩
              obtain ⟨k, rfl⟩ : ∃ j, k = j + 4 := ⟨k - 4, by omega⟩
              rw [hj0, if_neg k2, if_neg k2, if_pos k5, if_pos k5, if_pos c]
              split
              · simp only [aG.j2, if_true]
              · rw [show decide ((l.length : Int) > 4) = true from by simp; omega]; simp only [aG.j2, if_true]
            · obtain ⟨K, e⟩ := wrong_l0 n l hl a0 a1 a2 a3 (fun x hx => ih x (by omega) (hb.2 x hx)) l.length 0 (by omega)
              refine ⟨K + 4, fun k hk2 => ?_⟩
              obtain ⟨k, rfl⟩ : ∃ j, k = j + 4 := ⟨k - 4, by omega⟩
              rw [hj0, if_neg k2, if_neg k2, if_pos k5, if_pos k5, if_neg c, if_neg (by omega), show decide ((l.length : Int) > 4) = false from by simp; omega]
              have e' := e k (by omega)
              dsimp only at e'
              simp only [aG.j2]
              rw [if_neg (by decide)]
              exact e'
          · by_cases k6 : a0 = 6
            · by_cases c : a3 < 1 ∨ a3 > 4
              · refine ⟨4, fun k hk2 => ?_⟩
                obtain ⟨k, rfl⟩ : ∃ j, k = j + 4 := ⟨k - 4, by omega⟩
                rw [hj0, if_neg k2, if_neg k2, if_neg k5, if_neg k5, if_pos k6, if_pos k6, if_pos c]
                split
                · simp only [aG.j4, if_true]
                · rw [show decide (a3 > 4) = true from by simp; omega]; simp only [aG.j4, if_true]
              · have hj3 : ∀ k, at_ aG.f ⟨a0, a1, a2, a3, l⟩ (k + 4) = aG.j4 (k + 1) false a0 a1 a2 a3 l := by
                  intro k
                  rw [hj0, if_neg k2, if_neg k5, if_pos k6, if_neg (by omega), show decide (a3 > 4) = false from by simp; omega]
                rw [if_neg k2, if_neg k5, if_pos k6, if_neg c]
                match l, hl, hb, hj3 with
                | [x], hl, hb, hj3 =>
                  obtain ⟨K, e⟩ := ih x (by omega) (hb.2 x List.mem_cons_self)
                  refine ⟨K + 4, fun k hk2 => ?_⟩
                  obtain ⟨k, rfl⟩ : ∃ j, k = j + 4 := ⟨k - 4, by omega⟩
                  have e' := e k (by omega)
                  unfold at_ at e'
                  rw [hj3]
                  simp only [aG.j4]
                  rw [if_neg (by decide), if_pos (by simp), if_pos (by simp), rdT0 (by simp), List.getElem_cons_zero, e', Option.bind_some]
                  simp only [lst1]
                  repeat' split
                  all_goals rfl
                | [], hl, hb, hj3 =>
                  refine ⟨4, fun k hk2 => ?_⟩
                  obtain ⟨k, rfl⟩ : ∃ j, k = j + 4 := ⟨k - 4, by omega⟩
                  rw [hj3]; simp only [aG.j4]; rfl
                | x :: y :: l, hl, hb, hj3 =>
                  refine ⟨4, fun k hk2 => ?_⟩
                  obtain ⟨k, rfl⟩ : ∃ j, k = j + 4 := ⟨k - 4, by omega⟩
                  rw [hj3]; simp only [aG.j4]
                  rw [if_neg (by decide), if_neg (by simp; omega)]; rfl
            · refine ⟨3, fun k hk2 => ?_⟩
              obtain ⟨k, rfl⟩ : ∃ j, k = j + 3 := ⟨k - 3, by omega⟩
              rw [hj0]
              simp only [if_neg k2, if_neg k5, if_neg k6]

end Go.Proofs.YtggelekooacmnaaDoor.Pure
set_option linter.unusedVariables false
set_option linter.unusedSimpArgs false
namespace Go.Proofs.YtggelekooacmnaaDoor.Pure
open Go.RowKit Go.Proofs.YtggelekooacmnaaDoor.Q Go.Proofs.YtggelekooacmnaaDoorW.aJ Go.Proofs.YtggelekooacmnaaDoorW.bu Go.Proofs.YtggelekooacmnaaDoorW.bB
-- valid types, their parts, Validate
inductive Vt : Nat → S24 → Prop
  | bool (n : Nat) : Vt (n + 1) ⟨1, 0, 0, 0, []⟩
  | int (n : Nat) (lo hi : Int) (h1 : -1000 ≤ lo) (h2 : lo ≤ hi) (h3 : hi ≤ 1000) : Vt (n + 1) ⟨2, lo, hi, 0, []⟩
  | nat (n : Nat) : Vt (n + 1) ⟨3, 0, 0, 0, []⟩
  | real (n : Nat) : Vt (n + 1) ⟨4, 0, 0, 0, []⟩
  | tup (n : Nat) (l : List S24) (h1 : 2 ≤ l.length) (h2 : l.length ≤ 4) (h3 : ∀ x ∈ l, Vt n x) (h4 : ∀ x ∈ l, x.f0 ≠ 3 ∧ x.f0 ≠ 4) : Vt (n + 1) ⟨5, 0, 0, 0, l⟩
  | lst (n : Nat) (m : Int) (x : S24) (h1 : 1 ≤ m) (h2 : m ≤ 4) (h3 : Vt n x) (h4 : x.f0 = 1 ∨ x.f0 = 2) : Vt (n + 1) ⟨6, 0, 0, m, [x]⟩
theorem Vt.up {n : Nat} : ∀ {t : S24}, Vt n t → Vt (n + 1) t := by
  induction n with
  | zero => intro t h; cases h
  | succ n ih =>
    intro t h
    cases h with
    | bool => exact .bool _
    | int _ lo hi h1 h2 h3 => exact .int _ _ _ h1 h2 h3
    | nat => exact .nat _
    | real => exact .real _
    | tup _ l h1 h2 h3 h4 => exact .tup _ _ h1 h2 (fun x hx => ih (h3 x hx)) h4
    | lst _ m x h1 h2 h3 h4 => exact .lst _ _ _ h1 h2 (ih h3) h4
theorem Vt.mono {n m : Nat} (h : n ≤ m) {t : S24} (ht : Vt n t) : Vt m t := by
  induction h with
  | refl => exact ht
  | step _ ih => exact ih.up
theorem Vt.bd {n : Nat} : ∀ {t : S24}, Vt n t → Bd n t := by
  induction n with
  | zero => intro t h; cases h
  | succ n ih =>
    intro t h
    cases h with
    | bool => exact ⟨by simp, by simp⟩
    | int _ lo hi h1 h2 h3 => exact ⟨by simp, by simp⟩
    | nat => exact ⟨by simp, by simp⟩
    | real => exact ⟨by simp, by simp⟩
    | tup _ l h1 h2 h3 h4 => exact ⟨by show l.length ≤ 1000; omega, fun x hx => ih (h3 x hx)⟩
    | lst _ m x h1 h2 h3 h4 => exact ⟨by simp, fun y hy => by simp at hy; subst hy; exact ih h3⟩
theorem L6 {f : S24 → Int} : ∀ {l : List S24}, fl1 f l = 0 ↔ ∀ x ∈ l, f x = 0 ∧ x.f0 ≠ 3 ∧ x.f0 ≠ 4
  | [] => by simp [fl1]
  | x :: l => by
    simp only [fl1, List.forall_mem_cons]
    by_cases h : f x = 0
    · by_cases h3 : x.f0 = 3
      · simp [h, h3]
      · by_cases h4 : x.f0 = 4
        · simp [h, h4]
        · simp only [h, h3, h4, if_true, if_false, true_and, not_false_eq_true, ne_eq, L6]
    · simp [h]
theorem flt_vt (n : Nat) : ∀ {t : S24}, Bd n t → flt n t = 0 → Vt n t := by
  induction n with
  | zero => intro t h; exact h.elim
  | succ n ih =>
    intro t hb h
    obtain ⟨a0, a1, a2, a3, l⟩ := t
    simp only [flt] at h
    by_cases hk : a0 < 1 ∨ 6 < a0
    · rw [if_pos hk] at h; omega
    · rw [if_neg hk] at h
      by_cases hu : unus a0 a1 a2 a3 l
      · rw [if_pos hu] at h; omega
      · rw [if_neg hu] at h
        unfold unus at hu
        have hnil : a0 < 5 → l = [] := fun h5 => List.eq_nil_of_length_eq_zero (by omega)
        rcases LZ hk with rfl | rfl | rfl | rfl | rfl | rfl
        · obtain rfl := hnil (by omega)
          obtain rfl : a1 = 0 := by omega
          obtain rfl : a2 = 0 := by omega
          obtain rfl : a3 = 0 := by omega
          exact .bool _
        · obtain rfl := hnil (by omega)
          obtain rfl : a3 = 0 := by omega
          simp at h
          exact .int _ _ _ (by omega) (by omega) (by omega)
        · obtain rfl := hnil (by omega)
          obtain rfl : a1 = 0 := by omega
          obtain rfl : a2 = 0 := by omega
          obtain rfl : a3 = 0 := by omega
          exact .nat _
        · obtain rfl := hnil (by omega)
          obtain rfl : a1 = 0 := by omega
          obtain rfl : a2 = 0 := by omega
          obtain rfl : a3 = 0 := by omega
          exact .real _
        · obtain rfl : a1 = 0 := by omega
          obtain rfl : a2 = 0 := by omega
          obtain rfl : a3 = 0 := by omega
          rw [if_neg (by omega), if_pos rfl] at h
          by_cases hc : l.length < 2 ∨ l.length > 4
          · rw [if_pos hc] at h; omega
          · rw [if_neg hc, L6] at h
            exact .tup _ _ (by omega) (by omega) (fun x hx => ih (hb.2 x hx) (h x hx).1) (fun x hx => (h x hx).2)
        · obtain rfl : a1 = 0 := by omega
          obtain rfl : a2 = 0 := by omega
          rw [if_neg (by omega), if_neg (by omega), if_pos rfl] at h
          by_cases hc : a3 < 1 ∨ a3 > 4
          · rw [if_pos hc] at h; omega
          · rw [if_neg hc] at h
            match l, hb, h with
            | [x], hb, h =>
              simp only [lst1] at h
              by_cases hx : flt n x = 0
              · rw [if_pos hx] at h
                refine .lst _ _ _ (by omega) (by omega) (ih (hb.2 x List.mem_cons_self) hx) ?_
                by_cases h1 : x.f0 = 1
                · exact .inl h1
                · by_cases h2 : x.f0 = 2
                  · exact .inr h2
                  · simp [h1, h2] at h
              · rw [if_neg hx] at h; exact absurd h hx
            | [], _, h => simp [lst1] at h
            | _ :: _ :: _, _, h => simp [lst1] at h
theorem vt_flt (n : Nat) : ∀ {t : S24}, Vt n t → flt n t = 0 := by
  induction n with
  | zero => intro t h; cases h
  | succ n ih =>
    intro t h
    cases h with
    | bool => simp [flt]
    | int _ lo hi h1 h2 h3 =>
      simp only [flt]
      rw [if_neg (by omega), if_neg (by simp), if_pos trivial, if_neg (by omega)]
    | nat => simp [flt]
    | real => simp [flt]
    | tup _ l h1 h2 h3 h4 =>
      simp only [flt]
      rw [if_neg (by omega), if_neg (by simp), if_neg (by omega), if_pos trivial, if_neg (by omega), L6]
      exact fun x hx => ⟨ih (h3 x hx), h4 x hx⟩
    | lst _ m x h1 h2 h3 h4 =>
      simp only [flt]
      rw [if_neg (by omega), if_neg (by simp), if_neg (by omega), if_neg (by omega), if_pos trivial, if_neg (by omega)]
      simp only [lst1]
      rw [if_pos (ih h3)]
      rcases h4 with h4 | h4 <;> simp [h4]
theorem vt_dep (n : Nat) : ∀ {t : S24}, Vt n t → ∀ m, dep m t ≤ n := by
  induction n with
  | zero => intro t h; cases h
  | succ n ih =>
    intro t h m
    cases m with
    | zero => simp [dep]; omega
    | succ m =>
      simp only [dep]
      have : mxl (dep m) t.f4 0 ≤ n := by
        refine RS (fun x hx => ?_) (by omega)
        cases h with
        | bool => simp at hx
        | int _ lo hi h1 h2 h3 => simp at hx
        | nat => simp at hx
        | real => simp at hx
        | tup _ l h1 h2 h3 h4 => exact ih (h3 x hx) m
        | lst _ m' y h1 h2 h3 h4 => simp at hx; subst hx; exact ih h3 m
      omega
theorem PX {f : S24 → Int} : ∀ {l : List S24} {m : Int} {x : S24}, x ∈ l → f x ≤ mxl f l m
  | y :: l, m, x, h => by
    simp only [mxl]
    rcases List.mem_cons.1 h with rfl | h
    · exact Int.le_trans mx_ge.2 (IC f l _)
    · exact PX h
theorem vt_low (n : Nat) : ∀ {t : S24} (d : Nat), Vt n t → dep n t ≤ d → Vt d t := by
  induction n with
  | zero => intro t d h; cases h
  | succ n ih =>
    intro t d h hd
    simp only [dep] at hd
    have h0 := IC (dep n) t.f4 0
    obtain ⟨d, rfl⟩ : ∃ e, d = e + 1 := ⟨d - 1, by omega⟩
    cases h with
    | bool => exact .bool _
    | int _ lo hi h1 h2 h3 => exact .int _ _ _ h1 h2 h3
    | nat => exact .nat _
    | real => exact .real _
    | tup _ l h1 h2 h3 h4 => exact .tup _ _ h1 h2 (fun x hx => ih d (h3 x hx) (by have := PX (f := dep n) (m := 0) hx; simp only at hd; omega)) h4
    | lst _ m x h1 h2 h3 h4 => exact .lst _ _ _ h1 h2 (ih d h3 (by have := PX (f := dep n) (m := 0) (x := x) (l := [x]) List.mem_cons_self; simp only at hd; omega)) h4
def prt : Nat → S24 → List S41
  | 0, _ => []
  | n + 1, t => if t.f0 = 1 then [⟨1, 0, 1⟩] else if t.f0 = 2 then [⟨2, t.f1, t.f2⟩] else if t.f0 = 3 ∨ t.f0 = 4 then [⟨t.f0, 0, 0⟩]
    else if t.f0 = 6 then ⟨2, 0, t.f3⟩ :: (List.replicate t.f3.toNat (prt n (ag t.f4 0))).flatten else (t.f4.map (prt n)).flatten
theorem flat_len {l : List S24} {f : S24 → List S41} {c : Nat} (h : ∀ x ∈ l, (f x).length ≤ c) : (l.map f).flatten.length ≤ l.length * c := by
  induction l with
  | nil => simp
  | cons x l ih =>
    have h1 := h x List.mem_cons_self
    have h2 := ih (fun y hy => h y (List.mem_cons_of_mem x hy))
    simp only [List.map_cons, List.flatten_cons, List.length_append, List.length_cons, Nat.add_mul]
    omega
theorem J3 {α : Type} (m : Nat) (l : List α) : (List.replicate m l).flatten.length = m * l.length := by simp
theorem rd1 (x : S24) : ag [x] 0 = x := by simp [ag]
theorem Co (n : Nat) : ∀ {t : S24}, Vt n t → (prt n t).length ≤ 5 ^ n ∧ 1 ≤ (prt n t).length := by
  induction n with
  | zero => intro t h; cases h
  | succ n ih =>
    intro t h
    have hp : 1 ≤ 5 ^ n := Nat.pos_of_ne_zero (by simp)
    have h5 : 5 ^ (n + 1) = 5 ^ n * 5 := Nat.pow_succ ..
    cases h with
    | bool => simp [prt]; omega
    | int _ lo hi h1 h2 h3 => simp [prt]; omega
    | nat => simp [prt]; omega
    | real => simp [prt]; omega
    | tup _ l h1 h2 h3 h4 =>
      have e : prt (n + 1) ⟨5, 0, 0, 0, l⟩ = (l.map (prt n)).flatten := by simp [prt]
      rw [e]
      have hl := flat_len (fun x hx => (ih (h3 x hx)).1)
      have : l.length * 5 ^ n ≤ 4 * 5 ^ n := Nat.mul_le_mul_right _ h2
      refine ⟨by omega, ?_⟩
      match l, h1, h3 with
      | x :: l, _, h3 =>
        have := (ih (h3 x List.mem_cons_self)).2
        simp only [List.map_cons, List.flatten_cons, List.length_append]; omega
    | lst _ m x h1 h2 h3 h4 =>
      have e : prt (n + 1) ⟨6, 0, 0, m, [x]⟩ = ⟨2, 0, m⟩ :: (List.replicate m.toNat (prt n x)).flatten := by simp [prt, rd1]
      have e1 : (prt n x).length = 1 := by
        cases h3 with
        | bool => simp [prt]
        | int _ lo hi h1 h2 h3 => simp [prt]
        | nat => simp at h4
        | real => simp at h4
        | tup _ l _ _ _ _ => simp at h4
        | lst _ m x _ _ _ _ => simp at h4
      rw [e, List.length_cons, J3, e1]
      omega

end Go.Proofs.YtggelekooacmnaaDoor.Pure
set_option linter.unusedVariables false
set_option linter.unusedSimpArgs false
namespace Go.Proofs.YtggelekooacmnaaDoor.Pure
open Go.RowKit Go.Proofs.YtggelekooacmnaaDoor.Q Go.Proofs.YtggelekooacmnaaDoorW.aJ Go.Proofs.YtggelekooacmnaaDoorW.bu Go.Proofs.YtggelekooacmnaaDoorW.bB
-- width, Parts, Validate
theorem wid_l0 (n : Nat) (l : List S24) (hl : l.length ≤ 4) (B : Nat) (hB : B ≤ 10000000) (ih : ∀ t ∈ l, Ev (at_ cO.f t) ((prt n t).length : Int) ∧ (prt n t).length ≤ B) :
    ∀ (d i m : Nat), m ≤ i * B → i + d = l.length → Ev (fun k => cO.l0 k m l l.length i) ((m + ((l.drop i).map (prt n)).flatten.length : Nat) : Int) := by
  intro d
  induction d with
  | zero =>
    intro i m h0 hi
    refine ⟨1, fun k hk => ?_⟩
    obtain ⟨k, rfl⟩ : ∃ j, k = j + 1 := ⟨k - 1, by omega⟩
    simp only [cO.l0]
    rw [if_neg (by omega), List.drop_eq_nil_of_le (by omega)]; rfl
  | succ d IH =>
    intro i m h0 hi
    have hlt : i < l.length := by omega
    obtain ⟨⟨K1, e1⟩, hb⟩ := ih l[i] (List.getElem_mem hlt)
    have hm : m + (prt n l[i]).length ≤ (i + 1) * B := by rw [Nat.add_mul]; omega
    have hm2 : (i + 1) * B ≤ 4 * B := Nat.mul_le_mul_right _ (by omega)
    obtain ⟨K2, e2⟩ := IH (i + 1) (m + (prt n l[i]).length) hm (by omega)
    refine ⟨max K1 K2 + 1, fun k hk => ?_⟩
    obtain ⟨k, rfl⟩ : ∃ j, k = j + 1 := ⟨k - 1, by omega⟩
    have e1' := e1 k (by omega)
    have e2' := e2 k (by omega)
    unfold at_ at e1'
    dsimp only at e1' e2'
    simp only [cO.l0]
    have ew : wrap64 ((m : Int) + ((prt n l[i]).length : Int)) = ((m + (prt n l[i]).length : Nat) : Int) := by unfold wrap64; omega
    rw [if_pos (by omega), if_pos (by omega), if_pos (by omega), rdT hlt, e1', Option.bind_some, iJ (by omega), ew, e2', List.drop_eq_getElem_cons hlt]
    simp only [List.map_cons, List.flatten_cons, List.length_append, Nat.add_assoc]
theorem Nh {n : Nat} {x : S24} (h3 : Vt n x) (h4 : x.f0 = 1 ∨ x.f0 = 2) : (prt n x).length = 1 := by
  cases h3 with
  | bool => simp [prt]
  | int _ lo hi h1 h2 h3 => simp [prt]
  | nat => simp at h4
  | real => simp at h4
  | tup _ l _ _ _ _ => simp at h4
  | lst _ m x _ _ _ _ => simp at h4
theorem prt5 (n : Nat) (a1 a2 a3 : Int) (l : List S24) : prt (n + 1) ⟨5, a1, a2, a3, l⟩ = (l.map (prt n)).flatten := by simp [prt]
theorem prt6 (n : Nat) (a1 a2 m : Int) (x : S24) : prt (n + 1) ⟨6, a1, a2, m, [x]⟩ = ⟨2, 0, m⟩ :: (List.replicate m.toNat (prt n x)).flatten := by simp [prt, rd1]
theorem pow5 {n : Nat} (h : n ≤ 9) : 5 ^ n ≤ 5 ^ 9 := Nat.pow_le_pow_right (by omega) h
theorem RZ (n : Nat) : ∀ {t : S24}, n ≤ 10 → Vt n t → Ev (at_ cO.f t) ((prt n t).length : Int) := by
  induction n with
  | zero => intro t _ h; cases h
  | succ n ih =>
    intro t hn h
    have one : ∀ a0 a1 a2 a3 : Int, ∀ l, a0 ≠ 5 → a0 ≠ 6 → Ev (at_ cO.f ⟨a0, a1, a2, a3, l⟩) (1 : Int) := by
      intro a0 a1 a2 a3 l h5 h6
      refine ⟨1, fun k hk => ?_⟩
      obtain ⟨k, rfl⟩ : ∃ j, k = j + 1 := ⟨k - 1, by omega⟩
      simp only [at_, cO.f, if_neg h5, if_neg h6]
    cases h with
    | bool => exact one _ _ _ _ _ (by decide) (by decide)
    | int _ lo hi h1 h2 h3 => exact one _ _ _ _ _ (by decide) (by decide)
    | nat => exact one _ _ _ _ _ (by decide) (by decide)
    | real => exact one _ _ _ _ _ (by decide) (by decide)
    | tup _ l h1 h2 h3 h4 =>
      have hp := pow5 (show n ≤ 9 by omega)
      obtain ⟨K, e⟩ := wid_l0 n l h2 (5 ^ n) (by omega) (fun x hx => ⟨ih (by omega) (h3 x hx), (Co n (h3 x hx)).1⟩) l.length 0 0 (by omega) (by omega)
      rw [prt5]
      refine ⟨K + 1, fun k hk => ?_⟩
      obtain ⟨k, rfl⟩ : ∃ j, k = j + 1 := ⟨k - 1, by omega⟩
      have e' := e k (by omega)
      simp only [at_, cO.f, if_pos]
      simpa using e'
    | lst _ m x h1 h2 h3 h4 =>
      obtain ⟨K, e⟩ := ih (by omega) h3
      have e1 := Nh h3 h4
      rw [prt6, List.length_cons, J3, e1]
      refine ⟨K + 1, fun k hk => ?_⟩
      obtain ⟨k, rfl⟩ : ∃ j, k = j + 1 := ⟨k - 1, by omega⟩
      have e' := e k (by omega)
      unfold at_ at e'
      simp only [at_, cO.f]
      rw [if_neg (by decide), if_pos trivial, if_pos (by simp), rd1, e', Option.bind_some, e1]
      have : wrap64 (1 + wrap64 (m * ((1 : Nat) : Int))) = ((m.toNat * 1 + 1 : Nat) : Int) := by unfold wrap64; omega
      rw [this]
theorem Parts_l0 (n : Nat) (x : S24) (a0 a1 a2 m : Int) (hm : m ≤ 4) (ih : Ev (at_ bz.f x) (prt n x)) (hx : (prt n x).length = 1) :
    ∀ (d i : Nat) (o : List S41), o.length ≤ i + 1 → (i : Int) + d = m → Ev (fun k => bz.l0 k o i a0 a1 a2 m [x]) (o ++ (List.replicate d (prt n x)).flatten) := by
  intro d
  induction d with
  | zero =>
    intro i o ho hi
    refine ⟨1, fun k hk => ?_⟩
    obtain ⟨k, rfl⟩ : ∃ j, k = j + 1 := ⟨k - 1, by omega⟩
    simp only [bz.l0]
    rw [if_neg (by omega)]; simp
  | succ d IH =>
    intro i o ho hi
    obtain ⟨K1, e1⟩ := ih
    obtain ⟨K2, e2⟩ := IH (i + 1) (o ++ prt n x) (by rw [List.length_append]; omega) (by omega)
    refine ⟨max K1 K2 + 1, fun k hk => ?_⟩
    obtain ⟨k, rfl⟩ : ∃ j, k = j + 1 := ⟨k - 1, by omega⟩
    have e1' := e1 k (by omega)
    have e2' := e2 k (by omega)
    unfold at_ at e1'
    dsimp only at e1' e2'
    simp only [bz.l0]
    rw [if_pos (by omega), if_pos (by simp), rd1, e1', Option.bind_some, if_pos (by omega), iJ (by omega), e2', List.append_assoc]
    simp only [List.replicate_succ, List.flatten_cons]
theorem Parts_l1 (n : Nat) (l : List S24) (hl : l.length ≤ 4) (a0 a1 a2 a3 : Int) (B : Nat) (hB : B ≤ 10000000) (ih : ∀ t ∈ l, Ev (at_ bz.f t) (prt n t) ∧ (prt n t).length ≤ B) :
    ∀ (d i : Nat) (o : List S41), o.length ≤ i * B → i + d = l.length → Ev (fun k => bz.l1 k o i a0 a1 a2 a3 l) (o ++ ((l.drop i).map (prt n)).flatten) := by
  intro d
  induction d with
  | zero =>
    intro i o ho hi
    refine ⟨1, fun k hk => ?_⟩
    obtain ⟨k, rfl⟩ : ∃ j, k = j + 1 := ⟨k - 1, by omega⟩
    simp only [bz.l1]
    rw [if_neg (by omega), List.drop_eq_nil_of_le (by omega)]; simp
  | succ d IH =>
    intro i o ho hi
    have hlt : i < l.length := by omega
    obtain ⟨⟨K1, e1⟩, hb⟩ := ih l[i] (List.getElem_mem hlt)
    have hm : (o ++ prt n l[i]).length ≤ (i + 1) * B := by rw [List.length_append, Nat.add_mul]; omega
    have hm2 : (i + 1) * B ≤ 4 * B := Nat.mul_le_mul_right _ (by omega)
    obtain ⟨K2, e2⟩ := IH (i + 1) (o ++ prt n l[i]) hm (by omega)
    refine ⟨max K1 K2 + 1, fun k hk => ?_⟩
    obtain ⟨k, rfl⟩ : ∃ j, k = j + 1 := ⟨k - 1, by omega⟩
    have e1' := e1 k (by omega)
    have e2' := e2 k (by omega)
    unfold at_ at e1'
    dsimp only at e1' e2'
    simp only [bz.l1]
    rw [List.length_append] at hm
    rw [if_pos (by omega), if_pos (by omega), rdT hlt, e1', Option.bind_some, if_pos (by omega), iJ (by omega), e2', List.append_assoc, List.drop_eq_getElem_cons hlt]
    simp only [List.map_cons, List.flatten_cons]
theorem L8 (n : Nat) : ∀ {t : S24}, n ≤ 10 → Vt n t → Ev (at_ bz.f t) (prt n t) := by
  induction n with
  | zero => intro t _ h; cases h
  | succ n ih =>
    intro t hn h
    cases h with
    | bool =>
      refine ⟨2, fun k hk => ?_⟩
      obtain ⟨k, rfl⟩ : ∃ j, k = j + 2 := ⟨k - 2, by omega⟩
      simp [at_, bz.f, prt]
    | int _ lo hi h1 h2 h3 =>
      refine ⟨2, fun k hk => ?_⟩
      obtain ⟨k, rfl⟩ : ∃ j, k = j + 2 := ⟨k - 2, by omega⟩
      simp [at_, bz.f, prt]
    | nat =>
      refine ⟨2, fun k hk => ?_⟩
      obtain ⟨k, rfl⟩ : ∃ j, k = j + 2 := ⟨k - 2, by omega⟩
      simp [at_, bz.f, bz.j0, prt]
    | real =>
      refine ⟨2, fun k hk => ?_⟩
      obtain ⟨k, rfl⟩ : ∃ j, k = j + 2 := ⟨k - 2, by omega⟩
      simp [at_, bz.f, bz.j0, prt]
    | tup _ l h1 h2 h3 h4 =>
      have hp := pow5 (show n ≤ 9 by omega)
      obtain ⟨K, e⟩ := Parts_l1 n l h2 5 0 0 0 (5 ^ n) (by omega) (fun x hx => ⟨ih (by omega) (h3 x hx), (Co n (h3 x hx)).1⟩) l.length 0 [] (by simp) (by omega)
      rw [prt5]
      refine ⟨K + 2, fun k hk => ?_⟩
      obtain ⟨k, rfl⟩ : ∃ j, k = j + 2 := ⟨k - 2, by omega⟩
      have e' := e k (by omega)
      simp [at_, bz.f, bz.j0]
      simpa using e'
    | lst _ m x h1 h2 h3 h4 =>
      have e1 := Nh h3 h4
      obtain ⟨K, e⟩ := Parts_l0 n x 6 0 0 m h2 (ih (by omega) h3) e1 m.toNat 0 [⟨2, 0, m⟩] (by simp) (by omega)
      rw [prt6]
      refine ⟨K + 2, fun k hk => ?_⟩
      obtain ⟨k, rfl⟩ : ∃ j, k = j + 2 := ⟨k - 2, by omega⟩
      have e' := e k (by omega)
      simp [at_, bz.f, bz.j0]
      simpa using e'
/-- Validate, of whatever type within the bounds: program and reference agree; and what is valid. -/
theorem TB {n : Nat} {t : S24} (hn : n ≤ 1000) (hb : Bd n t) : ∃ e, Ev (at_ iI.f t) e ∧ Ev (at_ gL.f t) e ∧ (e = 0 → Vt 10 t ∧ (prt 10 t).length ≤ 24) := by
  obtain ⟨K1, e1⟩ := RU n t hn hb
  obtain ⟨K2, e2⟩ := RX n t hn hb
  obtain ⟨K3, e3⟩ := RV n t 11 hn (by omega) (by omega) hb
  obtain ⟨K4, e4⟩ := RY n t hn hb
  unfold at_ at e1 e2 e4
  dsimp only at e3
  by_cases hd : dep n t > 10
  · refine ⟨9, ⟨K1, fun k hk => ?_⟩, ⟨K3, fun k hk => ?_⟩, fun h => absurd h (by decide)⟩
    · simp only [at_, iI.f]
      rw [e1 k hk, Option.bind_some, if_pos hd]
    · simp only [at_, gL.f]
      rw [e3 k hk, Option.bind_some, if_pos (by omega)]
  · by_cases hf : flt n t = 0
    · have hv := vt_low n 10 (flt_vt n hb hf) (by omega)
      obtain ⟨K5, e5⟩ := RZ 10 (by omega) hv
      obtain ⟨K6, e6⟩ := L8 10 (by omega) hv
      unfold at_ at e5 e6
      refine ⟨if (prt 10 t).length > 24 then 9 else 0, ⟨K1 + K2 + K5, fun k hk => ?_⟩, ⟨K3 + K4 + K6, fun k hk => ?_⟩, fun h => ⟨hv, ?_⟩⟩
      · simp only [at_, iI.f]
        rw [e1 k (by omega), Option.bind_some, if_neg hd, e2 k (by omega), Option.bind_some, if_pos hf, e5 k (by omega), Option.bind_some]
        split <;> split <;> first | rfl | omega
      · simp only [at_, gL.f]
        rw [e3 k (by omega), Option.bind_some, if_neg (by omega), e4 k (by omega), Option.bind_some, if_pos hf, e6 k (by omega), Option.bind_some]
        split <;> split <;> first | rfl | omega
      · split at h <;> omega
    · refine ⟨flt n t, ⟨K1 + K2, fun k hk => ?_⟩, ⟨K3 + K4, fun k hk => ?_⟩, fun h => absurd h hf⟩
      · simp only [at_, iI.f]
        rw [e1 k (by omega), Option.bind_some, if_neg hd, e2 k (by omega), Option.bind_some, if_neg hf]
      · simp only [at_, gL.f]
        rw [e3 k (by omega), Option.bind_some, if_neg (by omega), e4 k (by omega), Option.bind_some, if_neg hf]
theorem TC {t : S24} (hv : Vt 10 t) (hl : (prt 10 t).length ≤ 24) : Ev (at_ iI.f t) 0 ∧ Ev (at_ gL.f t) 0 := by
  obtain ⟨K1, e1⟩ := RU 10 t (by omega) hv.bd
  obtain ⟨K2, e2⟩ := RX 10 t (by omega) hv.bd
  obtain ⟨K3, e3⟩ := RV 10 t 11 (by omega) (by omega) (by omega) hv.bd
  obtain ⟨K4, e4⟩ := RY 10 t (by omega) hv.bd
  obtain ⟨K5, e5⟩ := RZ 10 (by omega) hv
  obtain ⟨K6, e6⟩ := L8 10 (by omega) hv
  unfold at_ at e1 e2 e4 e5 e6
  dsimp only at e3
  have hd := vt_dep 10 hv 10
  have hf := vt_flt 10 hv
  refine ⟨⟨K1 + K2 + K5, fun k hk => ?_⟩, ⟨K3 + K4 + K6, fun k hk => ?_⟩⟩
  · simp only [at_, iI.f]
    rw [e1 k (by omega), Option.bind_some, if_neg (by omega), e2 k (by omega), Option.bind_some, if_pos hf, e5 k (by omega), Option.bind_some, if_neg (by omega)]
  · simp only [at_, gL.f]
    rw [e3 k (by omega), Option.bind_some, if_neg (by omega), e4 k (by omega), Option.bind_some, if_pos hf, e6 k (by omega), Option.bind_some, if_neg (by omega)]

end Go.Proofs.YtggelekooacmnaaDoor.Pure
set_option linter.unusedVariables false
set_option linter.unusedSimpArgs false
namespace Go.Proofs.YtggelekooacmnaaDoor.Pure
open Go.RowKit Go.Proofs.YtggelekooacmnaaDoor.Q Go.Proofs.YtggelekooacmnaaDoorW.aJ Go.Proofs.YtggelekooacmnaaDoorW.bu Go.Proofs.YtggelekooacmnaaDoorW.bB
theorem eta_s (x : S24) : (⟨x.f0, x.f1, x.f2, x.f3, x.f4⟩ : S24) = x := by cases x; rfl

-- values: check, zero, flatten, read
def Bv : Nat → S51 → Prop
  | 0, _ => False
  | n + 1, v => v.f1.length ≤ 1000 ∧ ∀ x ∈ v.f1, Bv n x
theorem rdV {l : List S51} {i : Nat} (h : i < l.length) : bq l (i : Int) = l[i] := by
  unfold bq; simp [List.getD, h]
theorem rdV0 {l : List S51} (h : 0 < l.length) : bq l 0 = l[0] := by
  unfold bq; simp [List.getD, h]
/-- two lists, element by element: the first error -/
def ck1 (f : S24 → S51 → Int) : List S24 → List S51 → Int
  | t :: ts, v :: vs => if f t v = 0 then ck1 f ts vs else f t v
  | _, _ => 0
def ck2 (f : S51 → Int) : List S51 → Int
  | v :: vs => if f v = 0 then ck2 f vs else f v
  | [] => 0
/-- the error of a value of a valid type -/
def chk : Nat → S24 → S51 → Int
  | 0, _, _ => 0
  | n + 1, t, v =>
    if t.f0 = 5 then (if v.f0 ≠ 0 ∨ v.f1.length ≠ t.f4.length then 2 else ck1 (chk n) t.f4 v.f1)
    else if t.f0 = 6 then (if v.f0 ≠ 0 ∨ (v.f1.length : Int) > t.f3 then 2 else ck2 (chk n (ag t.f4 0)) v.f1)
    else if v.f1.length ≠ 0 then 2
    else if t.f0 = 1 then (if v.f0 < 0 ∨ v.f0 > 1 then 1 else 0)
    else if t.f0 = 3 then (if v.f0 < 0 then 1 else 0)
    else (if v.f0 < t.f1 ∨ v.f0 > t.f2 then 1 else 0)

end Go.Proofs.YtggelekooacmnaaDoor.Pure
-- value.element and value.check, walked by hand: what they say of a valid type
namespace Go.Proofs.YtggelekooacmnaaDoor.Q
open Go.RowKit Go.Proofs.YtggelekooacmnaaDoorW.aJ Go.Proofs.YtggelekooacmnaaDoorW.bu Go.Proofs.YtggelekooacmnaaDoorW.bB
open Go.Proofs.YtggelekooacmnaaDoor.Pure
set_option linter.unusedVariables false
set_option linter.unusedSimpArgs false
/-- a type's cells as a call hands them on -/
abbrev tyV (x : S24) (A : Option Addr) (c : Nat) : Value := .agg #[.int .i64 x.f0, .int .i64 x.f1, .int .i64 x.f2, .int .i64 x.f3, .slice A x.f4.length c]
abbrev vaV (v : S51) (A : Option Addr) (c : Nat) : Value := .agg #[.int .i64 v.f0, .slice A v.f1.length c]
set_option maxHeartbeats 4000000 in
set_option maxRecDepth 100000 in
/-- element: in every world behind this one it has one answer -/
theorem Ni (t : S24) (A : Option Addr) (c : Nat) (i : Nat) (w0 : World) (hA : Kd.C k24 w0 A t.f4.length t.f4) (hc : t.f4.length ≤ c) (j : Nat) (hj : (if t.f0 = 6 then 0 else i) = j) (hi : j < t.f4.length) :
    ∃ A4 c4, Kd.C k24 w0 A4 (ag t.f4 j).f4.length (ag t.f4 j).f4 ∧ (ag t.f4 j).f4.length ≤ c4 ∧ ∀ w, Below w0.heap.size w0 w → Calls Tryd.prog 81 #[tyV t A c, .int .i64 i] w fun e w' => e = .returned (tyV (ag t.f4 j) A4 c4) ∧ Below w.heap.size w w' := by
  have hn := hA.2.1
  obtain ⟨a0, a1, a2, a3, l⟩ := t
  dsimp only [tyV] at hA hc hj hi hn ⊢
  obtain ⟨ad, A4, c4, rfl, d0, d1, d2, d3, d4, l4, g4⟩ := gu hA (j : Int) (by omega) (by omega)
  refine ⟨A4, c4, g4, l4, fun w hw => ?_⟩
  rw [Int.toNat_natCast] at d0 d1 d2 d3 d4
  replace d0 := kg hw d0
  replace d1 := kg hw d1
  replace d2 := kg hw d2
  replace d3 := kg hw d3
  replace d4 := kg hw d4
  obtain ⟨x, hx⟩ : ∃ x, x = ag l (j : Int) := ⟨_, rfl⟩
  rw [← hx] at d0 d1 d2 d3 d4 l4 ⊢
  have u1 := World.block_lt_of_cell? _ _ d0
  clear g4 hx hA hw
  by_cases h6 : a0 = 6
  · subst h6
    obtain rfl : 0 = j := by simpa using hj
    have e0 : ad.add (0 * 5) = ad := by simp [Addr.add]
    rw [e0] at d0 d1 d2 d3 d4 u1
    go_enter Tryd.func81, Tryd.ntmps81
    go_wp2
    have hb2 : Below w.heap.size w ((w.alloc (.cells #[.int .i64 6, .int .i64 a1, .int .i64 a2, .int .i64 a3, .slice (some ad) l.length c] 24)).alloc (.cells #[.int .i64 x.f0, .int .i64 x.f1, .int .i64 x.f2, .int .i64 x.f3, .slice A4 x.f4.length c4] 24)) := ((Below.refl _ w).alloc (Nat.le_refl _) _).alloc (by simp) _
    refine bodyPost_ret (results_cell_row rfl _ _ (w.heap.size + 1) 24 #[.int .i64 x.f0, .int .i64 x.f1, .int .i64 x.f2, .int .i64 x.f3, .slice A4 x.f4.length c4] (0, 0) _ rfl ?_ Tryd.underlying24 rfl (by kernel_rfl)) rfl ⟨rfl, hb2⟩
    have := heap_alloc_new (w.alloc (.cells #[.int .i64 6, .int .i64 a1, .int .i64 a2, .int .i64 a3, .slice (some ad) l.length c] 24)) (.cells #[.int .i64 x.f0, .int .i64 x.f1, .int .i64 x.f2, .int .i64 x.f3, .slice A4 x.f4.length c4] 24)
    simpa using this
  · have q6 : (a0 == 6) = false := beq_false_of_ne h6
    obtain rfl : i = j := by simpa [h6] using hj
    go_enter Tryd.func81, Tryd.ntmps81
    go_wp2
    have hb2 : Below w.heap.size w ((w.alloc (.cells #[.int .i64 a0, .int .i64 a1, .int .i64 a2, .int .i64 a3, .slice (some ad) l.length c] 24)).alloc (.cells #[.int .i64 x.f0, .int .i64 x.f1, .int .i64 x.f2, .int .i64 x.f3, .slice A4 x.f4.length c4] 24)) := ((Below.refl _ w).alloc (Nat.le_refl _) _).alloc (by simp) _
    refine bodyPost_ret (results_cell_row rfl _ _ (w.heap.size + 1) 24 #[.int .i64 x.f0, .int .i64 x.f1, .int .i64 x.f2, .int .i64 x.f3, .slice A4 x.f4.length c4] (0, 0) _ rfl ?_ Tryd.underlying24 rfl (by kernel_rfl)) rfl ⟨rfl, hb2⟩
    have := heap_alloc_new (w.alloc (.cells #[.int .i64 a0, .int .i64 a1, .int .i64 a2, .int .i64 a3, .slice (some ad) l.length c] 24)) (.cells #[.int .i64 x.f0, .int .i64 x.f1, .int .i64 x.f2, .int .i64 x.f3, .slice A4 x.f4.length c4] 24)
    simpa using this
theorem QV (n : Nat) (v : S51) : chk (n + 1) ⟨1, 0, 0, 0, []⟩ v = if v.f1.length ≠ 0 then 2 else if v.f0 < 0 ∨ v.f0 > 1 then 1 else 0 := by simp [chk]
theorem QW (n : Nat) (lo hi : Int) (v : S51) : chk (n + 1) ⟨2, lo, hi, 0, []⟩ v = if v.f1.length ≠ 0 then 2 else if v.f0 < lo ∨ v.f0 > hi then 1 else 0 := by simp [chk]
theorem QX (n : Nat) (v : S51) : chk (n + 1) ⟨3, 0, 0, 0, []⟩ v = if v.f1.length ≠ 0 then 2 else if v.f0 < 0 then 1 else 0 := by simp [chk]
/-- what check says of a leaf: kind q of low and high bounds -/
def C8 (t : S24) (v : S51) (r : Int) : Prop := ∀ (A : Option Addr) (c : Nat) (B : Option Addr) (d : Nat) (w : World), Kd.C k24 w A t.f4.length t.f4 → t.f4.length ≤ c → Kd.C k51 w B v.f1.length v.f1 → v.f1.length ≤ d →
  Calls Tryd.prog 78 #[tyV t A c, vaV v B d] w fun e w' => e = .returned (.int .i64 r) ∧ Below w.heap.size w w'
set_option maxHeartbeats 4000000 in
set_option maxRecDepth 100000 in
theorem GK (q lo hi : Int) (v : S51) (hq : q = 1 ∨ q = 2 ∨ q = 3) : C8 ⟨q, lo, hi, 0, []⟩ v (if v.f1.length ≠ 0 then 2 else if v.f0 < lo ∨ v.f0 > (if q = 1 then 1 else if q = 3 then v.f0 else hi) then 1 else 0) := by
  intro A c B d w hA hc hB hd
  have hn := hB.2.1
  obtain ⟨v0, vs⟩ := v
  dsimp only [tyV, vaV, List.length_nil] at hd hn ⊢
  obtain ⟨L, hL⟩ : ∃ L, L = vs.length := ⟨_, rfl⟩
  rw [← hL] at hd hn ⊢
  have hb2 : Below w.heap.size w ((w.alloc (.cells #[.int .i64 q, .int .i64 lo, .int .i64 hi, .int .i64 0, .slice A 0 c] 24)).alloc (.cells #[.int .i64 v0, .slice B L d] 51)) := ((Below.refl _ w).alloc (Nat.le_refl _) _).alloc (by simp) _
  have HB2 := Lib.hid hb2
  clear hA hB hL hb2
  have q5 : (q == 5) = false := beq_false_of_ne (by omega)
  have q6 : (q == 6) = false := beq_false_of_ne (by omega)
  by_cases h0 : L = 0
  · subst h0
    rw [if_neg (by simp)]
    rcases hq with rfl | rfl | rfl
    · have eH : (if (1 : Int) = 1 then (1 : Int) else if (1 : Int) = 3 then v0 else hi) = 1 := by simp
      rw [eH]
      by_cases c1 : v0 < lo
      · rw [if_pos (.inl c1)]
        go_enter Tryd.func78, Tryd.ntmps78
        go_wp2
        go_quiet (fail)
        go_wp2
        go_ret
        exact ⟨rfl, (by first | exact iF HB2.out _ | exact eX HB2.out)⟩
      · by_cases c2 : v0 > 1
        · rw [if_pos (.inr c2)]
          go_enter Tryd.func78, Tryd.ntmps78
          go_wp2
          go_quiet (fail)
          go_wp2
          go_ret
          exact ⟨rfl, (by first | exact iF HB2.out _ | exact eX HB2.out)⟩
        · rw [if_neg (by omega)]
          go_enter Tryd.func78, Tryd.ntmps78
          go_wp2
          go_quiet (fail)
          go_wp2
          go_ret
          exact ⟨rfl, (by first | exact iF HB2.out _ | exact eX HB2.out)⟩
    · have eH : (if (2 : Int) = 1 then (1 : Int) else if (2 : Int) = 3 then v0 else hi) = hi := by simp
      rw [eH]
      by_cases c1 : v0 < lo
      · rw [if_pos (.inl c1)]
        go_enter Tryd.func78, Tryd.ntmps78
        go_wp2
        go_quiet (fail)
        go_wp2
        go_ret
        exact ⟨rfl, (by first | exact iF HB2.out _ | exact eX HB2.out)⟩
      · by_cases c2 : v0 > hi
        · rw [if_pos (.inr c2)]
          go_enter Tryd.func78, Tryd.ntmps78
          go_wp2
          go_quiet (fail)
          go_wp2
          go_ret
          exact ⟨rfl, (by first | exact iF HB2.out _ | exact eX HB2.out)⟩
        · rw [if_neg (by omega)]
          go_enter Tryd.func78, Tryd.ntmps78
          go_wp2
          go_quiet (fail)
          go_wp2
          go_ret
          exact ⟨rfl, (by first | exact iF HB2.out _ | exact eX HB2.out)⟩
    · have eH : (if (3 : Int) = 1 then (1 : Int) else if (3 : Int) = 3 then v0 else hi) = v0 := by simp
      rw [eH]
      have c2 : ¬ v0 < v0 := by omega
      by_cases c1 : v0 < lo
      · rw [if_pos (.inl c1)]
        go_enter Tryd.func78, Tryd.ntmps78
        go_wp2
        go_quiet (fail)
        go_wp2
        go_ret
        exact ⟨rfl, (by first | exact iF HB2.out _ | exact eX HB2.out)⟩
      · rw [if_neg (by omega)]
        go_enter Tryd.func78, Tryd.ntmps78
        go_wp2
        go_quiet (fail)
        go_wp2
        go_ret
        exact ⟨rfl, (by first | exact iF HB2.out _ | exact eX HB2.out)⟩
  · rw [if_pos h0]
    have hz : ((L : Int) != 0) = true := by simp; omega
    go_enter Tryd.func78, Tryd.ntmps78
    go_wp2
    go_ret
    exact ⟨rfl, HB2.out⟩
set_option maxHeartbeats 8000000 in
set_option maxRecDepth 100000 in
theorem TD (m : Int) (l : List S24) (v : S51) (g : Nat → Int) (r : Int) (hv0 : v.f0 = 0) (hL : v.f1.length = l.length)
    (hE : ∀ j, j < v.f1.length → C8 (ag l (j : Int)) (bq v.f1 (j : Int)) (g j))
    (h1 : ∀ k, k < v.f1.length → (∀ j, j < k → g j = 0) → g k ≠ 0 → r = g k) (h2 : (∀ j, j < v.f1.length → g j = 0) → r = 0) : C8 ⟨5, 0, 0, m, l⟩ v r := by
  intro A c B d w hA hc hB hd
  have hn := hB.2.1
  obtain ⟨v0, vs⟩ := v
  dsimp only [tyV, vaV] at hA hc hB hd hn hv0 hL hE h1 h2 ⊢
  subst hv0
  have HA := Lib.hid hA
  have HV := Lib.hid hB
  have HE := Lib.hid hE
  have H1 := Lib.hid h1
  have H2 := Lib.hid h2
  obtain ⟨L, hLe⟩ : ∃ L, L = vs.length := ⟨_, rfl⟩
  have HL := Lib.hid hLe
  have HLL := Lib.hid hL
  rw [← hL] at hc ⊢
  rw [← hLe] at hd hn hc ⊢
  have hb2 : Below w.heap.size w ((w.alloc (.cells #[.int .i64 5, .int .i64 0, .int .i64 0, .int .i64 m, .slice A L c] 24)).alloc (.cells #[.int .i64 0, .slice B L d] 51)) := ((Below.refl _ w).alloc (Nat.le_refl _) _).alloc (by simp) _
  have hbt : ((w.alloc (.cells #[.int .i64 5, .int .i64 0, .int .i64 0, .int .i64 m, .slice A L c] 24)).alloc (.cells #[.int .i64 0, .slice B L d] 51)).heap[w.heap.size]? = some (.cells #[.int .i64 5, .int .i64 0, .int .i64 0, .int .i64 m, .slice A L c] 24 (0, 0)) := (Below.heap_alloc _ _ _ (by simp)).trans (heap_alloc_new w _)
  have hs2 : w.heap.size < ((w.alloc (.cells #[.int .i64 5, .int .i64 0, .int .i64 0, .int .i64 m, .slice A L c] 24)).alloc (.cells #[.int .i64 0, .slice B L d] 51)).heap.size := by simp; omega
  have HB2 := Lib.hid hb2
  have HBT := Lib.hid hbt
  have HS2 := Lib.hid hs2
  clear hA hB hE h1 h2 hLe hL hb2 hbt hs2
  go_enter Tryd.func78, Tryd.ntmps78
  go_wp2
  generalize (w.alloc (.cells #[.int .i64 5, .int .i64 0, .int .i64 0, .int .i64 m, .slice A L c] 24)).alloc (.cells #[.int .i64 0, .slice B L d] 51) = W2 at HB2 HBT HS2 ⊢
  go_loopw [51] (fun i wr => ∃ k : Nat, i = .int .i64 k ∧ k ≤ L ∧ Below W2.heap.size W2 wr ∧ aa (∀ j, j < k → g j = 0)) (fun i _ => L - (intOf i).toNat)
  case atStart => exact ⟨0, rfl, Nat.zero_le _, Below.refl _ _, ⟨fun j hj => by omega⟩⟩
  case round =>
    obtain ⟨k, rfl, hk, hbw, hal⟩ := hrel
    have hbW : Below w.heap.size w wr := HB2.out.trans (hbw.mono HB2.out.size)
    by_cases hlt : k < L
    · obtain ⟨ae, B4, e4, rfl, q0, q1, m4, r4⟩ := rW (Kd.aV HV.out hbW) (k : Int) (by omega) (by have := HL.out; omega)
      rw [Int.toNat_natCast] at q0 q1
      have hEE := HE.out k (by have := HL.out; omega)
      obtain ⟨A4, c4, g4, l4, hel⟩ := Ni ⟨5, 0, 0, m, l⟩ A c k wr (Kd.aV HA.out hbW) (by have := HL.out; have := HLL.out; dsimp only; omega) k (by simp) (by have := HL.out; have := HLL.out; dsimp only; omega)
      dsimp only [tyV] at g4 l4 hel
      obtain ⟨x, hx⟩ : ∃ x, x = ag l (k : Int) := ⟨_, rfl⟩
      obtain ⟨y, hy⟩ : ∃ y, y = bq vs (k : Int) := ⟨_, rfl⟩
      rw [← hx] at g4 l4 hel hEE
      rw [← hy] at q0 q1 m4 r4 hEE
      have hlen : l.length = L := by have := HL.out; have := HLL.out; omega
      rw [hlen] at hel
      have HEE := Lib.hid hEE
      have HG4 := Lib.hid g4
      have HR4 := Lib.hid r4
      have HBW := Lib.hid hbW
      have C9 := Lib.hid hbw
      have HAL := Lib.hid hal.out
      have HEL := Lib.hid hel
      have u2 := World.block_lt_of_cell? _ _ q0
      have hbt := (hbw.block _ HS2.out).trans HBT.out
      have HBTr := Lib.hid hbt
      clear hEE g4 r4 hbW hbw hal hel hx hy hlen hbt
      go_wp2
      have hB3 : Below wr.heap.size wr (wr.alloc (.cells #[.int .i64 y.f0, .slice B4 y.f1.length e4] 51)) := (Below.refl _ wr).alloc (Nat.le_refl _) _
      have hb3 := (hB3.block _ (kE HBTr.out)).trans HBTr.out
      have hy3 := heap_alloc_new wr (.cells #[.int .i64 y.f0, .slice B4 y.f1.length e4] 51)
      generalize wr.alloc (.cells #[.int .i64 y.f0, .slice B4 y.f1.length e4] 51) = W3 at hB3 hb3 hy3 ⊢
      have k0 := cell_regrown ((bH hb3 0).trans rfl)
      have k1 := cell_regrown ((bH hb3 1).trans rfl)
      have k2 := cell_regrown ((bH hb3 2).trans rfl)
      have k3 := cell_regrown ((bH hb3 3).trans rfl)
      have k4 := cell_regrown ((bH hb3 4).trans rfl)
      have k5 := cell_regrown ((bH hy3 0).trans rfl)
      have k6 := cell_regrown ((bH hy3 1).trans rfl)
      have hBr : ∀ d os, Below wr.heap.size wr (Go.Sort.grow (redrawn W3 d) os) := fun d os => hB3.trans ((below_regrown W3 d os).mono hB3.size)
      have cE : ∀ d os, Calls Tryd.prog 81 _ (Go.Sort.grow (redrawn W3 d) os) _ := fun d os => Calls.regrown_of (HEL.out _ (hBr d os))
      have cC : ∀ d os, Calls Tryd.prog 78 _ (Go.Sort.grow (redrawn W3 d) os) _ := fun d os => Calls.regrown_of (HEE.out A4 c4 B4 e4 _ (Kd.aV HG4.out (hBr d os)) l4 (Kd.aV HR4.out (hBr d os)) m4)
      have HBR := Lib.hid hBr
      clear hBr hB3 hb3 hy3
      dsimp only [tyV, vaV] at cE cC
      refine wp_region_quiet_below (by kernel_rfl) (by kernel_rfl) ?_
      repeat (quiet_step (first | exact cE _ _ | exact cC _ _))
      refine wpQuiet_nil ?_
      intro _ hw'
      obtain ⟨⟨dq, osq⟩, hw''⟩ := hw'
      subst hw''
      dsimp only
      by_cases hg : g k = 0
      · have hgz : (g k != 0) = false := by simp [hg]
        go_wp2
        go_roundw
        case rel =>
          refine ⟨k + 1, by go_num, hlt, C9.out.trans ((HBR.out dq osq).mono C9.out.size), ⟨fun j hj => ?_⟩⟩
          by_cases hjk : j = k
          · rw [hjk]; exact hg
          · exact HAL.out j (by omega)
        case measure => simp [intOf]; omega
      · have hgz : (g k != 0) = true := by simp [hg]
        go_wp2
        go_ret
        exact ⟨by rw [H1.out k (by have := HL.out; omega) HAL.out hg]; rfl, HBW.out.trans ((HBR.out dq osq).mono HBW.out.size)⟩
    · go_wp2
      go_ret
      exact ⟨by rw [H2.out (fun j hj => hal.out j (by have := HL.out; omega))]; rfl, hbW⟩
set_option maxHeartbeats 8000000 in
set_option maxRecDepth 100000 in
theorem TE (m : Int) (l : List S24) (v : S51) (g : Nat → Int) (r : Int) (hv0 : v.f0 = 0) (hL : (v.f1.length : Int) ≤ m) (h1l : l.length = 1)
    (hE : ∀ j, j < v.f1.length → C8 (ag l ((0 : Nat) : Int)) (bq v.f1 (j : Int)) (g j))
    (h1 : ∀ k, k < v.f1.length → (∀ j, j < k → g j = 0) → g k ≠ 0 → r = g k) (h2 : (∀ j, j < v.f1.length → g j = 0) → r = 0) : C8 ⟨6, 0, 0, m, l⟩ v r := by
  intro A c B d w hA hc hB hd
  have hn := hB.2.1
  obtain ⟨v0, vs⟩ := v
  dsimp only [tyV, vaV] at hA hc hB hd hn hv0 hL h1l hE h1 h2 ⊢
  subst hv0
  have HA := Lib.hid hA
  have HV := Lib.hid hB
  have HE := Lib.hid hE
  have H1 := Lib.hid h1
  have H2 := Lib.hid h2
  obtain ⟨L, hLe⟩ : ∃ L, L = vs.length := ⟨_, rfl⟩
  have HL := Lib.hid hLe
  have HLL := Lib.hid h1l
  rw [h1l] at hc ⊢
  rw [← hLe] at hd hn hL ⊢
  have hb2 : Below w.heap.size w ((w.alloc (.cells #[.int .i64 6, .int .i64 0, .int .i64 0, .int .i64 m, .slice A 1 c] 24)).alloc (.cells #[.int .i64 0, .slice B L d] 51)) := ((Below.refl _ w).alloc (Nat.le_refl _) _).alloc (by simp) _
  have hbt : ((w.alloc (.cells #[.int .i64 6, .int .i64 0, .int .i64 0, .int .i64 m, .slice A 1 c] 24)).alloc (.cells #[.int .i64 0, .slice B L d] 51)).heap[w.heap.size]? = some (.cells #[.int .i64 6, .int .i64 0, .int .i64 0, .int .i64 m, .slice A 1 c] 24 (0, 0)) := (Below.heap_alloc _ _ _ (by simp)).trans (heap_alloc_new w _)
  have hs2 : w.heap.size < ((w.alloc (.cells #[.int .i64 6, .int .i64 0, .int .i64 0, .int .i64 m, .slice A 1 c] 24)).alloc (.cells #[.int .i64 0, .slice B L d] 51)).heap.size := by simp; omega
  have HB2 := Lib.hid hb2
  have HBT := Lib.hid hbt
  have HS2 := Lib.hid hs2
  clear hA hB hE h1 h2 hLe h1l hb2 hbt hs2
  go_enter Tryd.func78, Tryd.ntmps78
  go_wp2
  generalize (w.alloc (.cells #[.int .i64 6, .int .i64 0, .int .i64 0, .int .i64 m, .slice A 1 c] 24)).alloc (.cells #[.int .i64 0, .slice B L d] 51) = W2 at HB2 HBT HS2 ⊢
  go_loopw [51] (fun i wr => ∃ k : Nat, i = .int .i64 k ∧ k ≤ L ∧ Below W2.heap.size W2 wr ∧ aa (∀ j, j < k → g j = 0)) (fun i _ => L - (intOf i).toNat)
  case atStart => exact ⟨0, rfl, Nat.zero_le _, Below.refl _ _, ⟨fun j hj => by omega⟩⟩
  case round =>
    obtain ⟨k, rfl, hk, hbw, hal⟩ := hrel
    have hbW : Below w.heap.size w wr := HB2.out.trans (hbw.mono HB2.out.size)
    by_cases hlt : k < L
    · obtain ⟨ae, B4, e4, rfl, q0, q1, m4, r4⟩ := rW (Kd.aV HV.out hbW) (k : Int) (by omega) (by have := HL.out; omega)
      rw [Int.toNat_natCast] at q0 q1
      have hEE := HE.out k (by have := HL.out; omega)
      obtain ⟨A4, c4, g4, l4, hel⟩ := Ni ⟨6, 0, 0, m, l⟩ A c k wr (Kd.aV HA.out hbW) (by have := HLL.out; dsimp only; omega) 0 (by simp) (by have := HLL.out; dsimp only; omega)
      dsimp only [tyV] at g4 l4 hel
      obtain ⟨x, hx⟩ : ∃ x, x = ag l ((0 : Nat) : Int) := ⟨_, rfl⟩
      obtain ⟨y, hy⟩ : ∃ y, y = bq vs (k : Int) := ⟨_, rfl⟩
      rw [← hx] at g4 l4 hel hEE
      rw [← hy] at q0 q1 m4 r4 hEE
      have hlen : l.length = 1 := HLL.out
      rw [hlen] at hel
      have HEE := Lib.hid hEE
      have HG4 := Lib.hid g4
      have HR4 := Lib.hid r4
      have HBW := Lib.hid hbW
      have C9 := Lib.hid hbw
      have HAL := Lib.hid hal.out
      have HEL := Lib.hid hel
      have u2 := World.block_lt_of_cell? _ _ q0
      have hbt := (hbw.block _ HS2.out).trans HBT.out
      have HBTr := Lib.hid hbt
      clear hEE g4 r4 hbW hbw hal hel hx hy hlen hbt
      go_wp2
      have hB3 : Below wr.heap.size wr (wr.alloc (.cells #[.int .i64 y.f0, .slice B4 y.f1.length e4] 51)) := (Below.refl _ wr).alloc (Nat.le_refl _) _
      have hb3 := (hB3.block _ (kE HBTr.out)).trans HBTr.out
      have hy3 := heap_alloc_new wr (.cells #[.int .i64 y.f0, .slice B4 y.f1.length e4] 51)
      generalize wr.alloc (.cells #[.int .i64 y.f0, .slice B4 y.f1.length e4] 51) = W3 at hB3 hb3 hy3 ⊢
      have k0 := cell_regrown ((bH hb3 0).trans rfl)
      have k1 := cell_regrown ((bH hb3 1).trans rfl)
      have k2 := cell_regrown ((bH hb3 2).trans rfl)
      have k3 := cell_regrown ((bH hb3 3).trans rfl)
      have k4 := cell_regrown ((bH hb3 4).trans rfl)
      have k5 := cell_regrown ((bH hy3 0).trans rfl)
      have k6 := cell_regrown ((bH hy3 1).trans rfl)
      have hBr : ∀ d os, Below wr.heap.size wr (Go.Sort.grow (redrawn W3 d) os) := fun d os => hB3.trans ((below_regrown W3 d os).mono hB3.size)
      have cE : ∀ d os, Calls Tryd.prog 81 _ (Go.Sort.grow (redrawn W3 d) os) _ := fun d os => Calls.regrown_of (HEL.out _ (hBr d os))
      have cC : ∀ d os, Calls Tryd.prog 78 _ (Go.Sort.grow (redrawn W3 d) os) _ := fun d os => Calls.regrown_of (HEE.out A4 c4 B4 e4 _ (Kd.aV HG4.out (hBr d os)) l4 (Kd.aV HR4.out (hBr d os)) m4)
      have HBR := Lib.hid hBr
      clear hBr hB3 hb3 hy3
      dsimp only [tyV, vaV] at cE cC
      refine wp_region_quiet_below (by kernel_rfl) (by kernel_rfl) ?_
      repeat (quiet_step (first | exact cE _ _ | exact cC _ _))
      refine wpQuiet_nil ?_
      intro _ hw'
      obtain ⟨⟨dq, osq⟩, hw''⟩ := hw'
      subst hw''
      dsimp only
      by_cases hg : g k = 0
      · have hgz : (g k != 0) = false := by simp [hg]
        go_wp2
        go_roundw
        case rel =>
          refine ⟨k + 1, by go_num, hlt, C9.out.trans ((HBR.out dq osq).mono C9.out.size), ⟨fun j hj => ?_⟩⟩
          by_cases hjk : j = k
          · rw [hjk]; exact hg
          · exact HAL.out j (by omega)
        case measure => simp [intOf]; omega
      · have hgz : (g k != 0) = true := by simp [hg]
        go_wp2
        go_ret
        exact ⟨by rw [H1.out k (by have := HL.out; omega) HAL.out hg]; rfl, HBW.out.trans ((HBR.out dq osq).mono HBW.out.size)⟩
    · go_wp2
      go_ret
      exact ⟨by rw [H2.out (fun j hj => hal.out j (by have := HL.out; omega))]; rfl, hbW⟩
set_option maxHeartbeats 4000000 in
set_option maxRecDepth 100000 in
theorem QY (a0 m : Int) (l : List S24) (v : S51) (h : (a0 = 5 ∧ (v.f0 ≠ 0 ∨ v.f1.length ≠ l.length)) ∨ (a0 = 6 ∧ (v.f0 ≠ 0 ∨ (v.f1.length : Int) > m))) : C8 ⟨a0, 0, 0, m, l⟩ v 2 := by
  intro A c B d w hA hc hB hd
  have hn := hB.2.1
  have hm := hA.2.1
  obtain ⟨v0, vs⟩ := v
  dsimp only [tyV, vaV] at hc hd hn hm h ⊢
  obtain ⟨L, hL⟩ : ∃ L, L = vs.length := ⟨_, rfl⟩
  obtain ⟨N, hN⟩ : ∃ N, N = l.length := ⟨_, rfl⟩
  rw [← hL] at hd hn h ⊢
  rw [← hN] at hc hm h ⊢
  have hb2 : Below w.heap.size w ((w.alloc (.cells #[.int .i64 a0, .int .i64 0, .int .i64 0, .int .i64 m, .slice A N c] 24)).alloc (.cells #[.int .i64 v0, .slice B L d] 51)) := ((Below.refl _ w).alloc (Nat.le_refl _) _).alloc (by simp) _
  have HB2 := Lib.hid hb2
  clear hA hB hL hN hb2
  rcases h with ⟨rfl, h⟩ | ⟨rfl, h⟩
  · by_cases h0 : v0 = 0
    · subst h0
      have hz : ((L : Int) != (N : Int)) = true := by simp; omega
      clear h
      go_enter Tryd.func78, Tryd.ntmps78
      go_wp2
      go_ret
      exact ⟨rfl, HB2.out⟩
    · have hz : (v0 != 0) = true := by simp [h0]
      clear h
      go_enter Tryd.func78, Tryd.ntmps78
      go_wp2
      go_ret
      exact ⟨rfl, HB2.out⟩
  · by_cases h0 : v0 = 0
    · subst h0
      have hz : (L : Int) > m := by omega
      clear h
      go_enter Tryd.func78, Tryd.ntmps78
      go_wp2
      go_ret
      exact ⟨rfl, HB2.out⟩
    · have hz : (v0 != 0) = true := by simp [h0]
      clear h
      go_enter Tryd.func78, Tryd.ntmps78
      go_wp2
      go_ret
      exact ⟨rfl, HB2.out⟩
theorem IE {f : S24 → S51 → Int} : ∀ (l : List S24) (vs : List S51), l.length = vs.length → (∀ k, k < vs.length → (∀ j, j < k → f (ag l (j : Int)) (bq vs (j : Int)) = 0) → f (ag l (k : Int)) (bq vs (k : Int)) ≠ 0 → ck1 f l vs = f (ag l (k : Int)) (bq vs (k : Int))) ∧ ((∀ j, j < vs.length → f (ag l (j : Int)) (bq vs (j : Int)) = 0) → ck1 f l vs = 0)
  | [], [], _ => ⟨fun k hk => by simp at hk, fun _ => by simp [ck1]⟩
  | [], _ :: _, h => by simp at h
  | _ :: _, [], h => by simp at h
  | t :: l, v :: vs, h => by
    obtain ⟨i1, i2⟩ := IE (f := f) l vs (by simpa using h)
    have s1 : ∀ j : Nat, ag (t :: l) ((j + 1 : Nat) : Int) = ag l (j : Int) := fun j => by unfold ag; rw [Int.toNat_natCast, Int.toNat_natCast, List.getD_cons_succ]
    have s2 : ∀ j : Nat, bq (v :: vs) ((j + 1 : Nat) : Int) = bq vs (j : Int) := fun j => by unfold bq; rw [Int.toNat_natCast, Int.toNat_natCast, List.getD_cons_succ]
    have z1 : ag (t :: l) ((0 : Nat) : Int) = t := by unfold ag; rfl
    have z2 : bq (v :: vs) ((0 : Nat) : Int) = v := by unfold bq; rfl
    refine ⟨fun k hk hj hne => ?_, fun hj => ?_⟩
    · cases k with
      | zero => rw [z1, z2] at hne ⊢; unfold ck1; rw [if_neg hne]
      | succ k =>
        have h0 := hj 0 (by omega)
        rw [z1, z2] at h0
        rw [s1, s2] at hne ⊢
        unfold ck1
        rw [if_pos h0]
        exact i1 k (by simpa using hk) (fun j hjk => by have := hj (j + 1) (by omega); rwa [s1, s2] at this) hne
    · have h0 := hj 0 (by simp)
      rw [z1, z2] at h0
      unfold ck1
      rw [if_pos h0]
      exact i2 (fun j hjl => by have := hj (j + 1) (by simpa using hjl); rwa [s1, s2] at this)
theorem IG {f : S51 → Int} : ∀ (vs : List S51), (∀ k, k < vs.length → (∀ j, j < k → f (bq vs (j : Int)) = 0) → f (bq vs (k : Int)) ≠ 0 → ck2 f vs = f (bq vs (k : Int))) ∧ ((∀ j, j < vs.length → f (bq vs (j : Int)) = 0) → ck2 f vs = 0)
  | [] => ⟨fun k hk => by simp at hk, fun _ => by simp [ck2]⟩
  | v :: vs => by
    obtain ⟨i1, i2⟩ := IG (f := f) vs
    have s2 : ∀ j : Nat, bq (v :: vs) ((j + 1 : Nat) : Int) = bq vs (j : Int) := fun j => by unfold bq; rw [Int.toNat_natCast, Int.toNat_natCast, List.getD_cons_succ]
    have z2 : bq (v :: vs) ((0 : Nat) : Int) = v := by unfold bq; rfl
    refine ⟨fun k hk hj hne => ?_, fun hj => ?_⟩
    · cases k with
      | zero => rw [z2] at hne ⊢; unfold ck2; rw [if_neg hne]
      | succ k =>
        have h0 := hj 0 (by omega)
        rw [z2] at h0
        rw [s2] at hne ⊢
        unfold ck2
        rw [if_pos h0]
        exact i1 k (by simpa using hk) (fun j hjk => by have := hj (j + 1) (by omega); rwa [s2] at this) hne
    · have h0 := hj 0 (by simp)
      rw [z2] at h0
      unfold ck2
      rw [if_pos h0]
      exact i2 (fun j hjl => by have := hj (j + 1) (by simpa using hjl); rwa [s2] at this)
theorem Yf (n : Nat) : ∀ (t : S24) (v : S51), Vt n t → t.f0 ≠ 4 → C8 t v (chk n t v) := by
  induction n with
  | zero => intro t v h; cases h
  | succ n ih =>
    intro t v h h4
    cases h with
    | bool => rw [QV]; simpa using GK 1 0 0 v (.inl rfl)
    | int _ lo hi h1 h2 h3 => rw [QW]; simpa using GK 2 lo hi v (.inr (.inl rfl))
    | nat => rw [QX]; simpa using GK 3 0 0 v (.inr (.inr rfl))
    | real => exact absurd rfl h4
    | tup _ l h1 h2 h3 h5 =>
      have e : chk (n + 1) ⟨5, 0, 0, 0, l⟩ v = if v.f0 ≠ 0 ∨ v.f1.length ≠ l.length then 2 else ck1 (chk n) l v.f1 := by simp [chk]
      rw [e]
      by_cases hb : v.f0 ≠ 0 ∨ v.f1.length ≠ l.length
      · rw [if_pos hb]; exact QY 5 0 l v (.inl ⟨rfl, hb⟩)
      · rw [if_neg hb]
        have hl : v.f1.length = l.length := by omega
        obtain ⟨i1, i2⟩ := IE (f := chk n) l v.f1 hl.symm
        refine TD 0 l v (fun j => chk n (ag l (j : Int)) (bq v.f1 (j : Int))) _ (by omega) hl (fun j hj => ?_) i1 i2
        have hm : ag l (j : Int) ∈ l := by rw [rdT (by omega)]; exact List.getElem_mem _
        exact ih _ _ (h3 _ hm) (h5 _ hm).2
    | lst _ m x h1 h2 h3 h5 =>
      have e : chk (n + 1) ⟨6, 0, 0, m, [x]⟩ v = if v.f0 ≠ 0 ∨ (v.f1.length : Int) > m then 2 else ck2 (chk n (ag [x] ((0 : Nat) : Int))) v.f1 := by simp [chk]
      rw [e]
      by_cases hb : v.f0 ≠ 0 ∨ (v.f1.length : Int) > m
      · rw [if_pos hb]; exact QY 6 m [x] v (.inr ⟨rfl, hb⟩)
      · rw [if_neg hb]
        obtain ⟨i1, i2⟩ := IG (f := chk n (ag [x] ((0 : Nat) : Int))) v.f1
        refine TE m [x] v (fun j => chk n (ag [x] ((0 : Nat) : Int)) (bq v.f1 (j : Int))) _ (by omega) (by omega) rfl (fun j hj => ?_) i1 i2
        have hm : ag [x] ((0 : Nat) : Int) = x := rd1 x
        rw [hm]
        exact ih _ _ h3 (by omega)
def Da (t : S24) (v : S51) (r : Int) : Prop := ∀ (A : Option Addr) (c : Nat) (B : Option Addr) (d : Nat) (w : World), Kd.C k24 w A t.f4.length t.f4 → t.f4.length ≤ c → Kd.C k51 w B v.f1.length v.f1 → v.f1.length ≤ d →
  Calls Tryd.prog 56 #[tyV t A c, vaV v B d] w fun e w' => e = .returned (.int .i64 r) ∧ Below w.heap.size w w'
set_option maxHeartbeats 4000000 in
set_option maxRecDepth 100000 in
theorem GL (q lo hi : Int) (v : S51) (hq : (q = 1 ∧ lo = 0) ∨ q = 2 ∨ (q = 3 ∧ lo = 0)) : Da ⟨q, lo, hi, 0, []⟩ v (if v.f1.length ≠ 0 then 2 else if v.f0 < lo ∨ v.f0 > (if q = 1 then 1 else if q = 3 then v.f0 else hi) then 1 else 0) := by
  intro A c B d w hA hc hB hd
  have hn := hB.2.1
  obtain ⟨v0, vs⟩ := v
  dsimp only [tyV, vaV, List.length_nil] at hd hn ⊢
  obtain ⟨L, hL⟩ : ∃ L, L = vs.length := ⟨_, rfl⟩
  rw [← hL] at hd hn ⊢
  have hb2 : Below w.heap.size w ((w.alloc (.cells #[.int .i64 q, .int .i64 lo, .int .i64 hi, .int .i64 0, .slice A 0 c] 24)).alloc (.cells #[.int .i64 v0, .slice B L d] 51)) := ((Below.refl _ w).alloc (Nat.le_refl _) _).alloc (by simp) _
  have HB2 := Lib.hid hb2
  clear hA hB hL hb2
  have q5 : (q == 5) = false := beq_false_of_ne (by omega)
  have q6 : (q == 6) = false := beq_false_of_ne (by omega)
  by_cases h0 : L = 0
  · subst h0
    rw [if_neg (by simp)]
    rcases hq with ⟨rfl, rfl⟩ | rfl | ⟨rfl, rfl⟩
    · have eH : (if (1 : Int) = 1 then (1 : Int) else if (1 : Int) = 3 then v0 else hi) = 1 := by simp
      rw [eH]
      by_cases c1 : v0 = 0
      · subst c1
        rw [if_neg (by omega)]
        go_enter Tryd.func56, Tryd.ntmps56
        go_wp2
        go_ret
        exact ⟨rfl, HB2.out⟩
      · have z1 : (v0 != 0) = true := by simp [c1]
        by_cases c2 : v0 = 1
        · subst c2
          rw [if_neg (by omega)]
          go_enter Tryd.func56, Tryd.ntmps56
          go_wp2
          go_ret
          exact ⟨rfl, HB2.out⟩
        · have z2 : (v0 != 1) = true := by simp [c2]
          rw [if_pos (by omega)]
          go_enter Tryd.func56, Tryd.ntmps56
          go_wp2
          go_ret
          exact ⟨rfl, HB2.out⟩
    · have eH : (if (2 : Int) = 1 then (1 : Int) else if (2 : Int) = 3 then v0 else hi) = hi := by simp
      rw [eH]
      by_cases c1 : v0 < lo
      · rw [if_pos (.inl c1)]
        go_enter Tryd.func56, Tryd.ntmps56
        go_wp2
        go_ret
        exact ⟨rfl, HB2.out⟩
      · by_cases c2 : v0 > hi
        · rw [if_pos (.inr c2)]
          go_enter Tryd.func56, Tryd.ntmps56
          go_wp2
          go_ret
          exact ⟨rfl, HB2.out⟩
        · rw [if_neg (by omega)]
          go_enter Tryd.func56, Tryd.ntmps56
          go_wp2
          go_ret
          exact ⟨rfl, HB2.out⟩
    · have eH : (if (3 : Int) = 1 then (1 : Int) else if (3 : Int) = 3 then v0 else hi) = v0 := by simp
      rw [eH]
      by_cases c1 : v0 < 0
      · rw [if_pos (.inl c1)]
        go_enter Tryd.func56, Tryd.ntmps56
        go_wp2
        go_ret
        exact ⟨rfl, HB2.out⟩
      · rw [if_neg (by omega)]
        go_enter Tryd.func56, Tryd.ntmps56
        go_wp2
        go_ret
        exact ⟨rfl, HB2.out⟩
  · rw [if_pos h0]
    have hz : (L : Int) > 0 := by omega
    go_enter Tryd.func56, Tryd.ntmps56
    go_wp2
    go_ret
    exact ⟨rfl, HB2.out⟩
set_option maxHeartbeats 8000000 in
set_option maxRecDepth 100000 in
theorem TF (m : Int) (l : List S24) (v : S51) (g : Nat → Int) (r : Int) (hv0 : v.f0 = 0) (hL : v.f1.length = l.length)
    (hE : ∀ j, j < v.f1.length → Da (ag l (j : Int)) (bq v.f1 (j : Int)) (g j))
    (h1 : ∀ k, k < v.f1.length → (∀ j, j < k → g j = 0) → g k ≠ 0 → r = g k) (h2 : (∀ j, j < v.f1.length → g j = 0) → r = 0) : Da ⟨5, 0, 0, m, l⟩ v r := by
  intro A c B d w hA hc hB hd
  have hn := hB.2.1
  obtain ⟨v0, vs⟩ := v
  dsimp only [tyV, vaV] at hA hc hB hd hn hv0 hL hE h1 h2 ⊢
  subst hv0
  have HA := Lib.hid hA
  have HV := Lib.hid hB
  have HE := Lib.hid hE
  have H1 := Lib.hid h1
  have H2 := Lib.hid h2
  obtain ⟨L, hLe⟩ : ∃ L, L = vs.length := ⟨_, rfl⟩
  have HL := Lib.hid hLe
  have HLL := Lib.hid hL
  rw [← hL] at hc ⊢
  rw [← hLe] at hd hn hc ⊢
  have hb2 : Below w.heap.size w ((w.alloc (.cells #[.int .i64 5, .int .i64 0, .int .i64 0, .int .i64 m, .slice A L c] 24)).alloc (.cells #[.int .i64 0, .slice B L d] 51)) := ((Below.refl _ w).alloc (Nat.le_refl _) _).alloc (by simp) _
  have hbt : ((w.alloc (.cells #[.int .i64 5, .int .i64 0, .int .i64 0, .int .i64 m, .slice A L c] 24)).alloc (.cells #[.int .i64 0, .slice B L d] 51)).heap[w.heap.size]? = some (.cells #[.int .i64 5, .int .i64 0, .int .i64 0, .int .i64 m, .slice A L c] 24 (0, 0)) := (Below.heap_alloc _ _ _ (by simp)).trans (heap_alloc_new w _)
  have hbv : ((w.alloc (.cells #[.int .i64 5, .int .i64 0, .int .i64 0, .int .i64 m, .slice A L c] 24)).alloc (.cells #[.int .i64 0, .slice B L d] 51)).heap[w.heap.size + 1]? = some (.cells #[.int .i64 0, .slice B L d] 51 (0, 0)) := by simpa using heap_alloc_new (w.alloc (.cells #[.int .i64 5, .int .i64 0, .int .i64 0, .int .i64 m, .slice A L c] 24)) (.cells #[.int .i64 0, .slice B L d] 51)
  have HB2 := Lib.hid hb2
  have HBT := Lib.hid hbt
  have HBV := Lib.hid hbv
  clear hA hB hE h1 h2 hLe hL hb2 hbt hbv
  go_enter Tryd.func56, Tryd.ntmps56
  go_wp2
  generalize (w.alloc (.cells #[.int .i64 5, .int .i64 0, .int .i64 0, .int .i64 m, .slice A L c] 24)).alloc (.cells #[.int .i64 0, .slice B L d] 51) = W2 at HB2 HBT HBV ⊢
  go_loopw [5] (fun i wr => ∃ k : Nat, i = .int .i64 k ∧ k ≤ L ∧ Below W2.heap.size W2 wr ∧ aa (∀ j, j < k → g j = 0)) (fun i _ => L - (intOf i).toNat)
  case atStart => exact ⟨0, rfl, Nat.zero_le _, Below.refl _ _, ⟨fun j hj => by omega⟩⟩
  case round =>
    obtain ⟨k, rfl, hk, hbw, hal⟩ := hrel
    have hbW : Below w.heap.size w wr := HB2.out.trans (hbw.mono HB2.out.size)
    have hbt := (hbw.block _ (kE HBT.out)).trans HBT.out
    have hbv := (hbw.block _ (kE HBV.out)).trans HBV.out
    have t0 : wr.cell? ⟨w.heap.size, 0, none⟩ = some (.int .i64 5) := (bH hbt 0).trans rfl
    have t4 : wr.cell? ⟨w.heap.size, 4, none⟩ = some (.slice A L c) := (bH hbt 4).trans rfl
    have v1 : wr.cell? ⟨w.heap.size + 1, 1, none⟩ = some (.slice B L d) := (bH hbv 1).trans rfl
    have u0 := kE hbt
    have u1 := kE hbv
    have HBTr := Lib.hid hbt
    have HBVr := Lib.hid hbv
    clear hbt hbv
    by_cases hlt : k < L
    · obtain ⟨ae, B4, e4, rfl, q0, q1, m4, r4⟩ := rW (Kd.aV HV.out hbW) (k : Int) (by omega) (by have := HL.out; omega)
      rw [Int.toNat_natCast] at q0 q1
      have hEE := HE.out k (by have := HL.out; omega)
      obtain ⟨ad, A0, c0, rfl, a0, a1, a2, a3, a4, -, -⟩ := gu (Kd.aV HA.out hbW) 0 (by omega) (by have := HL.out; have := HLL.out; omega)
      have ez : ad.add ((0 : Int).toNat * 5) = ad := by simp [Addr.add]
      rw [ez] at a0 a1 a2 a3 a4
      obtain ⟨ad2, A4, c4, ee, d0, d1, d2, d3, d4, l4, g4⟩ := gu (Kd.aV HA.out hbW) (k : Int) (by omega) (by have := HL.out; have := HLL.out; omega)
      obtain rfl := Option.some.inj ee
      rw [Int.toNat_natCast] at d0 d1 d2 d3 d4
      obtain ⟨z, hz⟩ : ∃ z, z = ag l 0 := ⟨_, rfl⟩
      obtain ⟨x, hx⟩ : ∃ x, x = ag l (k : Int) := ⟨_, rfl⟩
      obtain ⟨y, hy⟩ : ∃ y, y = bq vs (k : Int) := ⟨_, rfl⟩
      rw [← hz] at a0 a1 a2 a3 a4
      rw [← hx] at d0 d1 d2 d3 d4 l4 g4 hEE
      rw [← hy] at q0 q1 m4 r4 hEE
      have HEE := Lib.hid hEE
      have HG4 := Lib.hid g4
      have HR4 := Lib.hid r4
      have HBW := Lib.hid hbW
      have C9 := Lib.hid hbw
      have HAL := Lib.hid hal.out
      have x0 := World.block_lt_of_cell? _ _ a0
      have x1 := World.block_lt_of_cell? _ _ d0
      have x2 := World.block_lt_of_cell? _ _ q0
      clear hEE g4 r4 hbW hbw hal hx hy hz ez ee
      go_wp2
      have hB3 : Below wr.heap.size wr (wr.alloc (.cells #[.int .i64 x.f0, .int .i64 x.f1, .int .i64 x.f2, .int .i64 x.f3, .slice A4 x.f4.length c4] 24)) := (Below.refl _ wr).alloc (Nat.le_refl _) _
      have hv3 := (hB3.block _ (kE HBVr.out)).trans HBVr.out
      have hx3 := heap_alloc_new wr (.cells #[.int .i64 x.f0, .int .i64 x.f1, .int .i64 x.f2, .int .i64 x.f3, .slice A4 x.f4.length c4] 24)
      have e0 := cell_regrown (kg hB3 q0)
      have e1 := cell_regrown (kg hB3 q1)
      generalize wr.alloc (.cells #[.int .i64 x.f0, .int .i64 x.f1, .int .i64 x.f2, .int .i64 x.f3, .slice A4 x.f4.length c4] 24) = W3 at hB3 hv3 hx3 e0 e1 ⊢
      have k0 := cell_regrown ((bH hx3 0).trans rfl)
      have k1 := cell_regrown ((bH hx3 1).trans rfl)
      have k2 := cell_regrown ((bH hx3 2).trans rfl)
      have k3 := cell_regrown ((bH hx3 3).trans rfl)
      have k4 := cell_regrown ((bH hx3 4).trans rfl)
      have k5 := cell_regrown ((bH hv3 1).trans rfl)
      have hBr : ∀ d os, Below wr.heap.size wr (Go.Sort.grow (redrawn W3 d) os) := fun d os => hB3.trans ((below_regrown W3 d os).mono hB3.size)
      have cC : ∀ d os, Calls Tryd.prog 56 _ (Go.Sort.grow (redrawn W3 d) os) _ := fun d os => Calls.regrown_of (HEE.out A4 c4 B4 e4 _ (Kd.aV HG4.out (hBr d os)) l4 (Kd.aV HR4.out (hBr d os)) m4)
      have HBR := Lib.hid hBr
      clear hBr hB3 hv3 hx3
      dsimp only [tyV, vaV] at cC
      refine wp_region_quiet_below (by kernel_rfl) (by kernel_rfl) ?_
      repeat (quiet_step (exact cC _ _))
      refine wpQuiet_nil ?_
      intro _ hw'
      obtain ⟨⟨dq, osq⟩, hw''⟩ := hw'
      subst hw''
      dsimp only
      by_cases hg : g k = 0
      · have hgz : (g k != 0) = false := by simp [hg]
        go_wp2
        go_roundw
        case rel =>
          refine ⟨k + 1, by go_num, hlt, C9.out.trans ((HBR.out dq osq).mono C9.out.size), ⟨fun j hj => ?_⟩⟩
          by_cases hjk : j = k
          · rw [hjk]; exact hg
          · exact HAL.out j (by omega)
        case measure => simp [intOf]; omega
      · have hgz : (g k != 0) = true := by simp [hg]
        go_wp2
        go_ret
        exact ⟨by rw [H1.out k (by have := HL.out; omega) HAL.out hg]; rfl, HBW.out.trans ((HBR.out dq osq).mono HBW.out.size)⟩
    · go_wp2
      go_ret
      exact ⟨by rw [H2.out (fun j hj => hal.out j (by have := HL.out; omega))]; rfl, hbW⟩
set_option maxHeartbeats 8000000 in
set_option maxRecDepth 100000 in
theorem TG (m : Int) (l : List S24) (v : S51) (g : Nat → Int) (r : Int) (hv0 : v.f0 = 0) (hL : (v.f1.length : Int) ≤ m) (h1l : l.length = 1)
    (hE : ∀ j, j < v.f1.length → Da (ag l ((0 : Nat) : Int)) (bq v.f1 (j : Int)) (g j))
    (h1 : ∀ k, k < v.f1.length → (∀ j, j < k → g j = 0) → g k ≠ 0 → r = g k) (h2 : (∀ j, j < v.f1.length → g j = 0) → r = 0) : Da ⟨6, 0, 0, m, l⟩ v r := by
  intro A c B d w hA hc hB hd
  have hn := hB.2.1
  obtain ⟨v0, vs⟩ := v
  dsimp only [tyV, vaV] at hA hc hB hd hn hv0 hL h1l hE h1 h2 ⊢
  subst hv0
  have HA := Lib.hid hA
  have HV := Lib.hid hB
  have HE := Lib.hid hE
  have H1 := Lib.hid h1
  have H2 := Lib.hid h2
  obtain ⟨L, hLe⟩ : ∃ L, L = vs.length := ⟨_, rfl⟩
  have HL := Lib.hid hLe
  have HLL := Lib.hid h1l
  rw [h1l] at hc ⊢
  rw [← hLe] at hd hn hL ⊢
  have hb2 : Below w.heap.size w ((w.alloc (.cells #[.int .i64 6, .int .i64 0, .int .i64 0, .int .i64 m, .slice A 1 c] 24)).alloc (.cells #[.int .i64 0, .slice B L d] 51)) := ((Below.refl _ w).alloc (Nat.le_refl _) _).alloc (by simp) _
  have hbt : ((w.alloc (.cells #[.int .i64 6, .int .i64 0, .int .i64 0, .int .i64 m, .slice A 1 c] 24)).alloc (.cells #[.int .i64 0, .slice B L d] 51)).heap[w.heap.size]? = some (.cells #[.int .i64 6, .int .i64 0, .int .i64 0, .int .i64 m, .slice A 1 c] 24 (0, 0)) := (Below.heap_alloc _ _ _ (by simp)).trans (heap_alloc_new w _)
  have hbv : ((w.alloc (.cells #[.int .i64 6, .int .i64 0, .int .i64 0, .int .i64 m, .slice A 1 c] 24)).alloc (.cells #[.int .i64 0, .slice B L d] 51)).heap[w.heap.size + 1]? = some (.cells #[.int .i64 0, .slice B L d] 51 (0, 0)) := by simpa using heap_alloc_new (w.alloc (.cells #[.int .i64 6, .int .i64 0, .int .i64 0, .int .i64 m, .slice A 1 c] 24)) (.cells #[.int .i64 0, .slice B L d] 51)
  have HB2 := Lib.hid hb2
  have HBT := Lib.hid hbt
  have HBV := Lib.hid hbv
  clear hA hB hE h1 h2 hLe h1l hb2 hbt hbv
  go_enter Tryd.func56, Tryd.ntmps56
  go_wp2
  generalize (w.alloc (.cells #[.int .i64 6, .int .i64 0, .int .i64 0, .int .i64 m, .slice A 1 c] 24)).alloc (.cells #[.int .i64 0, .slice B L d] 51) = W2 at HB2 HBT HBV ⊢
  go_loopw [5] (fun i wr => ∃ k : Nat, i = .int .i64 k ∧ k ≤ L ∧ Below W2.heap.size W2 wr ∧ aa (∀ j, j < k → g j = 0)) (fun i _ => L - (intOf i).toNat)
  case atStart => exact ⟨0, rfl, Nat.zero_le _, Below.refl _ _, ⟨fun j hj => by omega⟩⟩
  case round =>
    obtain ⟨k, rfl, hk, hbw, hal⟩ := hrel
    have hbW : Below w.heap.size w wr := HB2.out.trans (hbw.mono HB2.out.size)
    have hbt := (hbw.block _ (kE HBT.out)).trans HBT.out
    have hbv := (hbw.block _ (kE HBV.out)).trans HBV.out
    have t0 : wr.cell? ⟨w.heap.size, 0, none⟩ = some (.int .i64 6) := (bH hbt 0).trans rfl
    have t4 : wr.cell? ⟨w.heap.size, 4, none⟩ = some (.slice A 1 c) := (bH hbt 4).trans rfl
    have v1 : wr.cell? ⟨w.heap.size + 1, 1, none⟩ = some (.slice B L d) := (bH hbv 1).trans rfl
    have u0 := kE hbt
    have u1 := kE hbv
    have HBTr := Lib.hid hbt
    have HBVr := Lib.hid hbv
    clear hbt hbv
    by_cases hlt : k < L
    · obtain ⟨ae, B4, e4, rfl, q0, q1, m4, r4⟩ := rW (Kd.aV HV.out hbW) (k : Int) (by omega) (by have := HL.out; omega)
      rw [Int.toNat_natCast] at q0 q1
      have hEE := HE.out k (by have := HL.out; omega)
      obtain ⟨ad, A4, c4, rfl, d0, d1, d2, d3, d4, l4, g4⟩ := gu (Kd.aV HA.out hbW) ((0 : Nat) : Int) (by omega) (by have := HLL.out; omega)
      have ez : ad.add (((0 : Nat) : Int).toNat * 5) = ad := by simp [Addr.add]
      rw [ez] at d0 d1 d2 d3 d4
      obtain ⟨x, hx⟩ : ∃ x, x = ag l ((0 : Nat) : Int) := ⟨_, rfl⟩
      obtain ⟨y, hy⟩ : ∃ y, y = bq vs (k : Int) := ⟨_, rfl⟩
      rw [← hx] at d0 d1 d2 d3 d4 l4 g4 hEE
      rw [← hy] at q0 q1 m4 r4 hEE
      have HEE := Lib.hid hEE
      have HG4 := Lib.hid g4
      have HR4 := Lib.hid r4
      have HBW := Lib.hid hbW
      have C9 := Lib.hid hbw
      have HAL := Lib.hid hal.out
      have x1 := World.block_lt_of_cell? _ _ d0
      have x2 := World.block_lt_of_cell? _ _ q0
      clear hEE g4 r4 hbW hbw hal hx hy ez
      go_wp2
      have hB3 : Below wr.heap.size wr (wr.alloc (.cells #[.int .i64 x.f0, .int .i64 x.f1, .int .i64 x.f2, .int .i64 x.f3, .slice A4 x.f4.length c4] 24)) := (Below.refl _ wr).alloc (Nat.le_refl _) _
      have hv3 := (hB3.block _ (kE HBVr.out)).trans HBVr.out
      have hx3 := heap_alloc_new wr (.cells #[.int .i64 x.f0, .int .i64 x.f1, .int .i64 x.f2, .int .i64 x.f3, .slice A4 x.f4.length c4] 24)
      have e0 := cell_regrown (kg hB3 q0)
      have e1 := cell_regrown (kg hB3 q1)
      generalize wr.alloc (.cells #[.int .i64 x.f0, .int .i64 x.f1, .int .i64 x.f2, .int .i64 x.f3, .slice A4 x.f4.length c4] 24) = W3 at hB3 hv3 hx3 e0 e1 ⊢
      have k0 := cell_regrown ((bH hx3 0).trans rfl)
      have k1 := cell_regrown ((bH hx3 1).trans rfl)
      have k2 := cell_regrown ((bH hx3 2).trans rfl)
      have k3 := cell_regrown ((bH hx3 3).trans rfl)
      have k4 := cell_regrown ((bH hx3 4).trans rfl)
      have k5 := cell_regrown ((bH hv3 1).trans rfl)
      have hBr : ∀ d os, Below wr.heap.size wr (Go.Sort.grow (redrawn W3 d) os) := fun d os => hB3.trans ((below_regrown W3 d os).mono hB3.size)
      have cC : ∀ d os, Calls Tryd.prog 56 _ (Go.Sort.grow (redrawn W3 d) os) _ := fun d os => Calls.regrown_of (HEE.out A4 c4 B4 e4 _ (Kd.aV HG4.out (hBr d os)) l4 (Kd.aV HR4.out (hBr d os)) m4)
      have HBR := Lib.hid hBr
      clear hBr hB3 hv3 hx3
      dsimp only [tyV, vaV] at cC
      refine wp_region_quiet_below (by kernel_rfl) (by kernel_rfl) ?_
      repeat (quiet_step (exact cC _ _))
      refine wpQuiet_nil ?_
      intro _ hw'
      obtain ⟨⟨dq, osq⟩, hw''⟩ := hw'
      subst hw''
      dsimp only
      by_cases hg : g k = 0
      · have hgz : (g k != 0) = false := by simp [hg]
        go_wp2
        go_roundw
        case rel =>
          refine ⟨k + 1, by go_num, hlt, C9.out.trans ((HBR.out dq osq).mono C9.out.size), ⟨fun j hj => ?_⟩⟩
          by_cases hjk : j = k
          · rw [hjk]; exact hg
          · exact HAL.out j (by omega)
        case measure => simp [intOf]; omega
      · have hgz : (g k != 0) = true := by simp [hg]
        go_wp2
        go_ret
        exact ⟨by rw [H1.out k (by have := HL.out; omega) HAL.out hg]; rfl, HBW.out.trans ((HBR.out dq osq).mono HBW.out.size)⟩
    · go_wp2
      go_ret
      exact ⟨by rw [H2.out (fun j hj => hal.out j (by have := HL.out; omega))]; rfl, hbW⟩
set_option maxHeartbeats 4000000 in
set_option maxRecDepth 100000 in
theorem QZ (a0 m : Int) (l : List S24) (v : S51) (h : (a0 = 5 ∧ (v.f0 ≠ 0 ∨ v.f1.length ≠ l.length)) ∨ (a0 = 6 ∧ (v.f0 ≠ 0 ∨ (v.f1.length : Int) > m))) : Da ⟨a0, 0, 0, m, l⟩ v 2 := by
  intro A c B d w hA hc hB hd
  have hn := hB.2.1
  have hm := hA.2.1
  obtain ⟨v0, vs⟩ := v
  dsimp only [tyV, vaV] at hc hd hn hm h ⊢
  obtain ⟨L, hL⟩ : ∃ L, L = vs.length := ⟨_, rfl⟩
  obtain ⟨N, hN⟩ : ∃ N, N = l.length := ⟨_, rfl⟩
  rw [← hL] at hd hn h ⊢
  rw [← hN] at hc hm h ⊢
  have hb2 : Below w.heap.size w ((w.alloc (.cells #[.int .i64 a0, .int .i64 0, .int .i64 0, .int .i64 m, .slice A N c] 24)).alloc (.cells #[.int .i64 v0, .slice B L d] 51)) := ((Below.refl _ w).alloc (Nat.le_refl _) _).alloc (by simp) _
  have HB2 := Lib.hid hb2
  clear hA hB hL hN hb2
  rcases h with ⟨rfl, h⟩ | ⟨rfl, h⟩
  · by_cases h0 : v0 = 0
    · subst h0
      have hz : ((L : Int) != (N : Int)) = true := by simp; omega
      clear h
      go_enter Tryd.func56, Tryd.ntmps56
      go_wp2
      go_ret
      exact ⟨rfl, HB2.out⟩
    · have hz : (v0 != 0) = true := by simp [h0]
      clear h
      go_enter Tryd.func56, Tryd.ntmps56
      go_wp2
      go_ret
      exact ⟨rfl, HB2.out⟩
  · by_cases h0 : v0 = 0
    · subst h0
      have hz : (L : Int) > m := by omega
      clear h
      go_enter Tryd.func56, Tryd.ntmps56
      go_wp2
      go_ret
      exact ⟨rfl, HB2.out⟩
    · have hz : (v0 != 0) = true := by simp [h0]
      clear h
      go_enter Tryd.func56, Tryd.ntmps56
      go_wp2
      go_ret
      exact ⟨rfl, HB2.out⟩
theorem Yg (n : Nat) : ∀ (t : S24) (v : S51), Vt n t → t.f0 ≠ 4 → Da t v (chk n t v) := by
  induction n with
  | zero => intro t v h; cases h
  | succ n ih =>
    intro t v h h4
    cases h with
    | bool => rw [QV]; simpa using GL 1 0 0 v (.inl ⟨rfl, rfl⟩)
    | int _ lo hi h1 h2 h3 => rw [QW]; simpa using GL 2 lo hi v (.inr (.inl rfl))
    | nat => rw [QX]; simpa using GL 3 0 0 v (.inr (.inr ⟨rfl, rfl⟩))
    | real => exact absurd rfl h4
    | tup _ l h1 h2 h3 h5 =>
      have e : chk (n + 1) ⟨5, 0, 0, 0, l⟩ v = if v.f0 ≠ 0 ∨ v.f1.length ≠ l.length then 2 else ck1 (chk n) l v.f1 := by simp [chk]
      rw [e]
      by_cases hb : v.f0 ≠ 0 ∨ v.f1.length ≠ l.length
      · rw [if_pos hb]; exact QZ 5 0 l v (.inl ⟨rfl, hb⟩)
      · rw [if_neg hb]
        have hl : v.f1.length = l.length := by omega
        obtain ⟨i1, i2⟩ := IE (f := chk n) l v.f1 hl.symm
        refine TF 0 l v (fun j => chk n (ag l (j : Int)) (bq v.f1 (j : Int))) _ (by omega) hl (fun j hj => ?_) i1 i2
        have hm : ag l (j : Int) ∈ l := by rw [rdT (by omega)]; exact List.getElem_mem _
        exact ih _ _ (h3 _ hm) (h5 _ hm).2
    | lst _ m x h1 h2 h3 h5 =>
      have e : chk (n + 1) ⟨6, 0, 0, m, [x]⟩ v = if v.f0 ≠ 0 ∨ (v.f1.length : Int) > m then 2 else ck2 (chk n (ag [x] ((0 : Nat) : Int))) v.f1 := by simp [chk]
      rw [e]
      by_cases hb : v.f0 ≠ 0 ∨ (v.f1.length : Int) > m
      · rw [if_pos hb]; exact QZ 6 m [x] v (.inr ⟨rfl, hb⟩)
      · rw [if_neg hb]
        obtain ⟨i1, i2⟩ := IG (f := chk n (ag [x] ((0 : Nat) : Int))) v.f1
        refine TG m [x] v (fun j => chk n (ag [x] ((0 : Nat) : Int)) (bq v.f1 (j : Int))) _ (by omega) (by omega) rfl (fun j hj => ?_) i1 i2
        have hm : ag [x] ((0 : Nat) : Int) = x := rd1 x
        rw [hm]
        exact ih _ _ h3 (by omega)
end Go.Proofs.YtggelekooacmnaaDoor.Q
