/- Lemmas for: FC that mh is true for every list of numbers: the order of values is total and transitive, and equal values have the same text. -/
import Derived.SizedLaws
import Derived.ChangeSlices
import Derived.Test.YtggelekooacmnaaDoorVo2
import Derived.Test.YtggelekooacmnaaDoorVo5
import Derived.Test.YtggelekooacmnaaDoorVo6
namespace Go.Proofs.YtggelekooacmnaaDoor.Q
open Go.RowKit Go.Proofs.YtggelekooacmnaaDoorW.bg Go.Proofs.YtggelekooacmnaaDoorW.bP Go.Proofs.YtggelekooacmnaaDoorW.bX
attribute [local go_sem] ek eu fw fA dH dI eB eD   -- for this text's walks alone
set_option linter.unusedVariables false
set_option linter.unusedSimpArgs false

/-! ### jo: function 32 -/
def jo.f (k : Nat) (ai : Int) (az : Int) (aA : Int) (ay : Int) (af : List (S24)) (bH : Int) (aU : List (S51)) : Option (ByteArray × Int) := (gJ.f k ai az aA ay af bH aU).bind fun zy => (if zy = 0 then ((bC.f k ai az aA ay af bH aU).bind fun t606 => (some (t606, 0))) else (some ((⟨#[]⟩ : ByteArray), zy)))
theorem jo.mono : ∀ a0 a1 a2 a3 a4 a5 a6 k, LeO (jo.f k a0 a1 a2 a3 a4 a5 a6) (jo.f (k + 1) a0 a1 a2 a3 a4 a5 a6) := by
 intro a0 a1 a2 a3 a4 a5 a6 k; unfold jo.f
 repeat' first
   | (with_reducible exact gJ.mono _ _ _ _ _ _ _ _)
   | (with_reducible exact bC.mono _ _ _ _ _ _ _ _)
   | (with_reducible exact LeO.refl _)
   | (with_reducible exact LeO.none _)
   | (with_reducible refine LeO.ite ?_ ?_)
   | (with_reducible refine LeO.bind ?_ (fun _ => ?_))
   | exact gJ.mono _ _ _ _ _ _ _ _
   | exact bC.mono _ _ _ _ _ _ _ _
   | exact LeO.none _
   | refine LeO.ite ?_ ?_
   | refine LeO.bind ?_ (fun _ => ?_)
set_option maxHeartbeats 8000000 in
set_option maxRecDepth 100000 in
theorem jo.calls (k : Nat) (ai : Int) (az : Int) (aA : Int) (ay : Int) (bq : Option Addr) (bf : Nat) (af : List (S24)) (bH : Int) (gD : Option Addr) (fI : Nat) (aU : List (S51)) (r1 : ByteArray) (r2 : Int) (w : World) (dX : Kd.C k24 w bq af.length af) (dY : af.length ≤ bf) (kT : Kd.C k51 w gD aU.length aU) (kU : aU.length ≤ fI) (h : jo.f k ai az aA ay af bH aU = some (r1, r2)) (htab : sj w.heap.size w) :
  Calls Tryd.prog 32 #[.agg #[.int .i64 ai, .int .i64 az, .int .i64 aA, .int .i64 ay, .slice bq af.length bf], .agg #[.int .i64 bH, .slice gD aU.length fI]] w fun e w' => e = .returned (.tuple #[.string r1, .int .i64 r2]) ∧ Below w.heap.size w w' := by
 have HTAB := aa.mk htab; clear htab; have ou := Tryd.underlying24; have zh := Tryd.underlying51; have bV := aa.mk dX; have dz := aa.mk dY; clear dX dY; have mq := aa.mk kT; have qd := aa.mk kU; clear kT kU; have HB := aa.mk (Below.refl w.heap.size w); have H : ((gJ.f k ai az aA ay af bH aU).bind fun zy => (if zy = 0 then ((bC.f k ai az aA ay af bH aU).bind fun t606 => (some (t606, 0))) else (some ((⟨#[]⟩ : ByteArray), zy)))) = some (r1, r2) := h; clear h; replace H := Option.bind_eq_some_iff.mp H; obtain ⟨zy, A30, H⟩ := H; replace H : (if zy = 0 then ((bC.f k ai az aA ay af bH aU).bind fun t606 => (some (t606, 0))) else (some ((⟨#[]⟩ : ByteArray), zy))) = some (r1, r2) := H; have A3 := aa.mk A30; clear A30; by_cases c4 : zy = 0
 ·rw [if_pos c4] at H; have kM : (zy == 0) = true := beq_iff_eq.mpr c4; have yS : (zy != 0) = false := bne_eq_false_iff_eq.mpr c4; clear c4; replace H := Option.bind_eq_some_iff.mp H; obtain ⟨t606, A50, H⟩ := H; replace H : (some (t606, 0)) = some (r1, r2) := H; have A5 := aa.mk A50; clear A50; simp only [Option.some.injEq, Prod.mk.injEq] at H; obtain ⟨rfl, rfl⟩ := H; go_enter Tryd.func32, Tryd.ntmps32; go_wp2_with (first | ((with_reducible refine aY (N := 2) rfl ?_); refine aZ ?hg (N := 2) ?hd (cs := #[.int .i64 ai, .int .i64 az, .int .i64 aA, .int .i64 ay, .slice bq af.length bf]) (t := 24) ?hr ?_; (case hd => rfl); (case hg => rfl); (case hr => first | (go_simp; done) | (go_simp; rfl)); intro gb603 hg w6 aK hb; have qm := aa.mk (aK); have GW603 : aa (w.heap.size ≤ gb603) := gw_ hg (aG bl_); have GE603 := GW603; replace HB := aa.mk (au bl_ hb); clear hb aK hg) | ((with_reducible refine aY (N := 3) rfl ?_); refine aZ ?hg (N := 3) ?hd (cs := #[.int .i64 bH, .slice gD aU.length fI]) (t := 51) ?hr ?_; (case hd => rfl); (case hg => rfl); (case hr => first | (go_simp; done) | (go_simp; rfl)); intro gb604 hg w7 aK hb; have Df := aa.mk (aK); have GW604 : aa (w.heap.size ≤ gb604) := gw_ hg (aG bl_); have GE604 := GW604; have KP := nl_ qm hg; have KQ := ng_ qm hg; replace qm := kb_ qm hb; replace HB := aa.mk (au bl_ hb); clear hb aK hg; have hnb8 := KP.out; have hnc8 := KQ.out; obtain ⟨uj, uk, AP, AQ, AR, um, uo, AU, AV, AX⟩ := bF qm.out; obtain ⟨lM, lN, lQ, lS⟩ := eQ Df.out) | ((with_reducible refine aN (f := 61) rfl ?_); refine bJ (some 9) rfl rfl Tryd.func61 (by kernel_rfl) rfl #[.agg #[.int .i64 ai, .int .i64 az, .int .i64 aA, .int .i64 ay, .slice bq af.length bf], .agg #[.int .i64 bH, .slice gD aU.length fI]] rfl mp_ ?_; (with_reducible refine (gJ.calls k ai az aA ay _ _ af bH _ _ aU zy _ ?aQ ?aT ?dK ?dL A3.out).mono ?_); (case aQ => exact cb_ (Kd.bA bV.out HB.out)); (case aT => exact dz.out); (case dK => exact cb_ (Kd.bA mq.out HB.out)); (case dL => exact qd.out); rintro e w11 ⟨rfl, hb⟩; refine ⟨_, rfl, ?_⟩; replace qm := kb_ qm hb; replace Df := kb_ Df hb; replace HB := aa.mk (au bl_ hb); (try clear hb); (try clear hb2); (try clear hk); (try clear hi); obtain ⟨lX, lY, u7, vk, vo, lZ, l5, vv, vw, vz⟩ := bF qm.out; obtain ⟨Lg, Lh, Li, Lj⟩ := eQ Df.out) | ((with_reducible refine aN (f := 62) rfl ?_); refine bJ (some 15) rfl rfl Tryd.func62 (by kernel_rfl) rfl #[.agg #[.int .i64 ai, .int .i64 az, .int .i64 aA, .int .i64 ay, .slice bq af.length bf], .agg #[.int .i64 bH, .slice gD aU.length fI]] rfl mp_ ?_; (with_reducible refine (bC.calls k ai az aA ay _ _ af bH _ _ aU t606 _ ?aQ ?aT ?dK ?dL A5.out ?tab).mono ?_); (case tab => exact ptab HTAB.out bl_); (case aQ => exact cb_ (Kd.bA bV.out HB.out)); (case aT => exact dz.out); (case dK => exact cb_ (Kd.bA mq.out HB.out)); (case dL => exact qd.out); rintro e w14 ⟨rfl, hb⟩; refine ⟨_, rfl, ?_⟩; replace qm := kb_ qm hb; replace Df := kb_ Df hb; replace HB := aa.mk (au bl_ hb); (try clear hb); (try clear hb2); (try clear hk); (try clear hi)))
  go_ret2; exact ⟨re_, bl_⟩
 ·rw [if_neg c4] at H; have kM : (zy == 0) = false := beq_eq_false_iff_ne.mpr c4; have yS : (zy != 0) = true := bne_iff_ne.mpr c4; simp only [Option.some.injEq, Prod.mk.injEq] at H; obtain ⟨rfl, rfl⟩ := H; go_enter Tryd.func32, Tryd.ntmps32; go_wp2_with (first | ((with_reducible refine aY (N := 2) rfl ?_); refine aZ ?hg (N := 2) ?hd (cs := #[.int .i64 ai, .int .i64 az, .int .i64 aA, .int .i64 ay, .slice bq af.length bf]) (t := 24) ?hr ?_; (case hd => rfl); (case hg => rfl); (case hr => first | (go_simp; done) | (go_simp; rfl)); intro gb603 hg w15 aK hb; have qm := aa.mk (aK); have GW603 : aa (w.heap.size ≤ gb603) := gw_ hg (aG bl_); have GE603 := GW603; replace HB := aa.mk (au bl_ hb); clear hb aK hg) | ((with_reducible refine aY (N := 3) rfl ?_); refine aZ ?hg (N := 3) ?hd (cs := #[.int .i64 bH, .slice gD aU.length fI]) (t := 51) ?hr ?_; (case hd => rfl); (case hg => rfl); (case hr => first | (go_simp; done) | (go_simp; rfl)); intro gb604 hg w16 aK hb; have Df := aa.mk (aK); have GW604 : aa (w.heap.size ≤ gb604) := gw_ hg (aG bl_); have GE604 := GW604; have KP := nl_ qm hg; have KQ := ng_ qm hg; replace qm := kb_ qm hb; replace HB := aa.mk (au bl_ hb); clear hb aK hg; have hnb17 := KP.out; have hnc17 := KQ.out; obtain ⟨lT, lU, qz, qA, qB, lV, lW, qC, qD, qE⟩ := bF qm.out; obtain ⟨Ef, Eg, Eh, Ei⟩ := eQ Df.out) | ((with_reducible refine aN (f := 61) rfl ?_); refine bJ (some 9) rfl rfl Tryd.func61 (by kernel_rfl) rfl #[.agg #[.int .i64 ai, .int .i64 az, .int .i64 aA, .int .i64 ay, .slice bq af.length bf], .agg #[.int .i64 bH, .slice gD aU.length fI]] rfl mp_ ?_; (with_reducible refine (gJ.calls k ai az aA ay _ _ af bH _ _ aU zy _ ?aQ ?aT ?dK ?dL A3.out).mono ?_); (case aQ => exact cb_ (Kd.bA bV.out HB.out)); (case aT => exact dz.out); (case dK => exact cb_ (Kd.bA mq.out HB.out)); (case dL => exact qd.out); rintro e w20 ⟨rfl, hb⟩; refine ⟨_, rfl, ?_⟩; replace qm := kb_ qm hb; replace Df := kb_ Df hb; replace HB := aa.mk (au bl_ hb); (try clear hb); (try clear hb2); (try clear hk); (try clear hi)))
  go_ret2; exact ⟨re_, bl_⟩

end Go.Proofs.YtggelekooacmnaaDoor.Q
set_option linter.unusedVariables false
set_option linter.unusedSimpArgs false
namespace Go.Proofs.YtggelekooacmnaaDoor.Pure
open Go.RowKit Go.Proofs.YtggelekooacmnaaDoor.Q Go.Proofs.YtggelekooacmnaaDoorW.bg Go.Proofs.YtggelekooacmnaaDoorW.bP Go.Proofs.YtggelekooacmnaaDoorW.bX
-- texts set apart by commas; Itoa, Join as the printer has them
theorem SY : ∀ xs : List (List UInt8), Lib.join xs [44, 32] = jG xs
  | [] => rfl
  | [x] => by rw [Lib.join_one]; rfl
  | x :: y :: l => by
    have ih := SY (y :: l)
    rw [Lib.join_cons] at ih ⊢
    simp only [jG, Lib.joinTail, List.map_cons, List.flatten_cons] at ih ⊢
    rw [← ih]; simp
theorem ba_eq {a : ByteArray} {l : List UInt8} (h : a.data.toList = l) : a = ⟨l.toArray⟩ := by cases a; subst h; simp
theorem Sk (l : List UInt8) : (⟨l.toArray⟩ : ByteArray).size = l.length := by show l.toArray.size = l.length; simp
theorem XJ {a : Int} (h0 : -1000 ≤ a) (h1 : a ≤ 1000) : (Go.Lib.itoa a).length ≤ 21 := Lib.itoa_length_le a (by omega) (by omega)
theorem JU {c : Nat} : ∀ xs : List (List UInt8), (∀ x ∈ xs, x.length ≤ c) → (jG xs).length ≤ xs.length * (c + 2)
  | [], _ => by simp [jG]
  | [x], h => by have := h x List.mem_cons_self; simp only [jG, List.length_cons, List.length_nil]; omega
  | x :: y :: l, h => by
    have h1 := h x List.mem_cons_self
    have ih := JU (y :: l) (fun z hz => h z (List.mem_cons_of_mem _ hz))
    simp only [jG, List.length_append, List.length_cons] at ih ⊢
    rw [Nat.add_mul]
    omega
theorem itoa_f {a : Int} (h0 : -1000 ≤ a) (h1 : a ≤ 1000) : jY.f a = some ⟨(Go.Lib.itoa a).toArray⟩ := by
  unfold jY.f; rw [if_pos (by omega)]
theorem join_f (xs : List ByteArray) (h : xs.length ≤ 1000) (hb : (jG (xs.map (·.data.toList))).length ≤ 100000000000) : strings_Join.f xs (⟨#[44, 32]⟩ : ByteArray) = some ⟨(jG (xs.map (·.data.toList))).toArray⟩ := by
  unfold strings_Join.f
  have e : (⟨#[44, 32]⟩ : ByteArray).data.toList = [44, 32] := rfl
  rw [e, SY, if_pos (by omega)]

-- what value.Format says of a value of a valid type: its text
def vB (n : Nat) (t : S24) (v : S51) : ByteArray := ⟨(txV n t v).toArray⟩
theorem Xu (n : Nat) (t : S24) (v : S51) : (vB n t v).data.toList = txV n t v := by simp [vB]
theorem txV_len (n : Nat) : ∀ {t : S24} {v : S51}, Vt n t → t.f0 ≠ 3 → t.f0 ≠ 4 → chk n t v = 0 → (txV n t v).length ≤ 100 * 5 ^ n := by
  induction n with
  | zero => intro t v h; cases h
  | succ n ih =>
    intro t v h h3' h4' hc
    have hp : 1 ≤ 5 ^ n := Nat.pos_of_ne_zero (by simp)
    have h5 : 5 ^ (n + 1) = 5 ^ n * 5 := Nat.pow_succ ..
    cases h with
    | bool => simp only [txV]; rw [if_neg (by omega), if_neg (by omega), if_pos trivial]; split <;> (simp only [List.length_cons, List.length_nil]; omega)
    | nat => exact absurd rfl h3'
    | real => exact absurd rfl h4'
    | int _ lo hi h1 h2 h3 =>
      obtain ⟨_, _, _, hr⟩ := oP (by simp) (by simp) hc
      have := hr (by simp) (by simp)
      dsimp only at this
      have a1 := XJ (a := v.f0) (by omega) (by omega)
      simp only [txV]; rw [if_neg (by omega), if_neg (by omega), if_neg (by omega)]
      omega
    | lst _ m x h1 h2 h3 h4 =>
      obtain ⟨_, hl, ha⟩ := yf hc
      have a1 := JU (c := 100 * 5 ^ n) (v.f1.map (txV n x)) (by intro y hy; obtain ⟨z, hz, rfl⟩ := List.mem_map.1 hy; exact ih h3 (by omega) (by omega) (ha z hz))
      rw [List.length_map] at a1
      have a2 : v.f1.length * (100 * 5 ^ n + 2) ≤ 4 * (100 * 5 ^ n + 2) := Nat.mul_le_mul_right _ (by omega)
      simp only [txV]; rw [if_neg (by omega), if_pos trivial, rd1]
      simp only [List.length_cons, List.length_append, List.length_nil]; omega
    | tup _ l h1 h2 h3 h4 =>
      obtain ⟨_, hl, ha⟩ := yc hc
      have a1 := JU (c := 100 * 5 ^ n) (List.zipWith (txV n) l v.f1) (by
        intro y hy
        obtain ⟨i, hi, e⟩ := List.getElem_of_mem hy
        rw [List.length_zipWith] at hi
        rw [List.getElem_zipWith] at e
        rw [← e]
        exact ih (h3 _ (List.getElem_mem (by omega))) (h4 _ (List.getElem_mem (by omega))).1 (h4 _ (List.getElem_mem (by omega))).2 (ha i (by omega) (by omega)))
      rw [List.length_zipWith] at a1
      have a2 : (min l.length v.f1.length) * (100 * 5 ^ n + 2) ≤ 4 * (100 * 5 ^ n + 2) := Nat.mul_le_mul_right _ (by omega)
      simp only [txV]; rw [if_pos trivial]
      simp only [List.length_cons, List.length_append, List.length_nil]; omega
theorem S9 {n : Nat} (hn : n ≤ 10) {t : S24} {v : S51} (h : Vt n t) (h3 : t.f0 ≠ 3) (h4 : t.f0 ≠ 4) (hc : chk n t v = 0) : (txV n t v).length ≤ 1000000000 :=
  Nat.le_trans (txV_len n h h3 h4 hc) (Nat.le_trans (Nat.mul_le_mul_left 100 (Nat.pow_le_pow_right (by omega) hn)) (by decide))
/-- the loop: texts laid one by one -/
theorem Ud (n : Nat) (q : Int) (hq : q = 5 ∨ q = 6) (a1 a2 a3 : Int) (ts : List S24) (vs : List S51) (hl : vs.length ≤ 4) (g : Nat → List UInt8) (hg : ∀ i, i < vs.length → (g i).length ≤ 1000000000)
    (ih : ∀ (i : Nat) (h : i < vs.length), ∃ x : S24, iW.f q a1 a2 a3 ts (i : Int) = some (x.f0, x.f1, x.f2, x.f3, x.f4) ∧ Ev (at2 bC.f x vs[i]) (⟨(g i).toArray⟩ : ByteArray)) :
    ∀ (d i : Nat), i + d = vs.length → Ev (fun k => bC.l0 k ((List.range vs.length).map fun j => if j < i then (⟨(g j).toArray⟩ : ByteArray) else ⟨#[]⟩) vs vs.length i q a1 a2 a3 ts) ⟨((if q = 5 then 40 else 91) :: (jG ((List.range vs.length).map g) ++ [if q = 5 then 41 else 93])).toArray⟩ := by
  intro d
  induction d with
  | zero =>
    intro i hi
    refine ⟨1, fun k hk => ?_⟩
    obtain ⟨k, rfl⟩ : ∃ j, k = j + 1 := ⟨k - 1, by omega⟩
    have e0 : ((List.range vs.length).map fun j => if j < i then (⟨(g j).toArray⟩ : ByteArray) else ⟨#[]⟩) = (List.range vs.length).map fun j => (⟨(g j).toArray⟩ : ByteArray) :=
      List.map_congr_left fun j hj => by rw [if_pos (by have := List.mem_range.1 hj; omega)]
    have em : (((List.range vs.length).map fun j => (⟨(g j).toArray⟩ : ByteArray)).map (·.data.toList)) = (List.range vs.length).map g := by
      rw [List.map_map]; exact List.map_congr_left fun j _ => by simp
    have hs : (jG ((List.range vs.length).map g)).length ≤ 10000000000 := by
      have a1 := JU (c := 1000000000) ((List.range vs.length).map g) (by intro x hx; obtain ⟨y, hy, rfl⟩ := List.mem_map.1 hx; exact hg y (List.mem_range.1 hy))
      rw [List.length_map, List.length_range] at a1
      have a2 : vs.length * (1000000000 + 2) ≤ 4 * (1000000000 + 2) := Nat.mul_le_mul_right _ hl
      omega
    have hj := join_f ((List.range vs.length).map fun j => (⟨(g j).toArray⟩ : ByteArray)) (by rw [List.length_map, List.length_range]; omega) (by rw [em]; omega)
    rw [em] at hj
    have e2 : ∀ c : UInt8, ((⟨#[c]⟩ : ByteArray) ++ ⟨(jG ((List.range vs.length).map g)).toArray⟩).size = 1 + (jG ((List.range vs.length).map g)).length := by intro c; rw [ByteArray.size_append, Sk]; rfl
    simp only [bC.l0]
    rw [if_neg (by omega), e0]
    rcases hq with rfl | rfl
    · rw [if_pos rfl, hj, Option.bind_some, Sk, if_pos (by omega), if_pos (by rw [e2]; omega)]
      first | rfl | (refine congrArg some (ba_eq ?_); simp)
    · rw [if_neg (by decide), hj, Option.bind_some, Sk, if_pos (by omega), if_pos (by rw [e2]; omega)]
      first | rfl | (refine congrArg some (ba_eq ?_); simp)
  | succ d IH =>
    intro i hi
    have hlt : i < vs.length := by omega
    obtain ⟨x, e0, K1, e1⟩ := ih i hlt
    obtain ⟨K2, e2⟩ := IH (i + 1) (by omega)
    refine ⟨max K1 K2 + 1, fun k hk => ?_⟩
    obtain ⟨k, rfl⟩ : ∃ j, k = j + 1 := ⟨k - 1, by omega⟩
    have e1' := e1 k (by omega)
    have e2' := e2 k (by omega)
    dsimp only [at2] at e1' e2'
    have hset : (((List.range vs.length).map fun j => if j < i then (⟨(g j).toArray⟩ : ByteArray) else ⟨#[]⟩).set i ⟨(g i).toArray⟩) = (List.range vs.length).map fun j => if j < i + 1 then (⟨(g j).toArray⟩ : ByteArray) else ⟨#[]⟩ := by
      apply List.ext_getElem (by simp)
      intro j h1 h2
      rw [List.getElem_set]
      simp only [List.getElem_map, List.getElem_range]
      by_cases e : i = j
      · subst e; rw [if_pos rfl, if_pos (by omega)]
      · rw [if_neg e]
        by_cases h3 : j < i
        · rw [if_pos h3, if_pos (by omega)]
        · rw [if_neg h3, if_neg (by omega)]
    simp only [bC.l0]
    rw [if_pos (by omega), if_pos (by omega), if_pos (by omega), e0, Option.bind_some]
    dsimp only
    rw [rdV hlt, e1', Option.bind_some, if_pos (by rw [List.length_map, List.length_range]; omega), Int.toNat_natCast, hset, jE (by omega), e2']
theorem Yg (f : S24 → S51 → List UInt8) (ts : List S24) (vs : List S51) (h : vs.length = ts.length) (g : Nat → List UInt8) (hg : ∀ (i : Nat) (h : i < ts.length) (h' : i < vs.length), g i = f ts[i] vs[i]) : (List.range vs.length).map g = List.zipWith f ts vs := by
  apply List.ext_getElem (by simp; omega)
  intro i h1 h2
  simp only [List.getElem_map, List.getElem_range, List.getElem_zipWith]
  exact hg i (by simp at h1; omega) (by simpa using h1)
theorem Yh (f : S51 → List UInt8) (vs : List S51) (g : Nat → List UInt8) (hg : ∀ (i : Nat) (h : i < vs.length), g i = f vs[i]) : (List.range vs.length).map g = vs.map f := by
  apply List.ext_getElem (by simp)
  intro i h1 h2
  simp only [List.getElem_map, List.getElem_range]
  exact hg i (by simpa using h1)
theorem Ue {q a1 a2 a3 : Int} (hq : q = 5 ∨ q = 6) {ts : List S24} {v0 : Int} {vs : List S51} (hl : vs.length ≤ 4) {r : ByteArray} (h : Ev (fun k => bC.l0 k ((List.range vs.length).map fun j => if j < 0 then (⟨#[]⟩ : ByteArray) else ⟨#[]⟩) vs vs.length 0 q a1 a2 a3 ts) r) :
    Ev (fun k => bC.f k q a1 a2 a3 ts v0 vs) r := by
  obtain ⟨K, e⟩ := h
  refine ⟨K + 2, fun k hk => ?_⟩
  obtain ⟨k, rfl⟩ : ∃ j, k = j + 2 := ⟨k - 2, by omega⟩
  have e' := e k (by omega)
  have er : (List.replicate vs.length (⟨#[]⟩ : ByteArray)) = (List.range vs.length).map fun j => if j < 0 then (⟨#[]⟩ : ByteArray) else ⟨#[]⟩ := by
    apply List.ext_getElem (by simp)
    intro i h1 h2
    simp
  have hj : bC.j0 (k + 1) true q a1 a2 a3 ts v0 vs = some r := by
    simp only [bC.j0, if_true]
    rw [if_pos (by omega), Int.toNat_natCast, if_pos (by omega), er]
    exact e'
  simp only [bC.f]
  rcases hq with rfl | rfl
  · rw [if_pos rfl]; exact hj
  · rw [if_neg (by decide)]; exact hj
theorem vform_ev (n : Nat) : ∀ {t : S24} {v : S51}, n ≤ 10 → Vt n t → t.f0 ≠ 3 → t.f0 ≠ 4 → chk n t v = 0 → Ev (at2 bC.f t v) (vB n t v) := by
  induction n with
  | zero => intro t v _ h; cases h
  | succ n ih =>
    intro t v hn h h3' h4' hc
    obtain ⟨v0, vs⟩ := v
    cases h with
    | bool =>
      refine ⟨2, fun k hk => ?_⟩
      obtain ⟨k, rfl⟩ : ∃ j, k = j + 2 := ⟨k - 2, by omega⟩
      simp only [at2, bC.f, bC.j0, jm.f, jl.f, vB, txV]
      by_cases h1 : v0 = 1
      · subst h1; simp
      · simp [h1]
    | nat => exact absurd rfl h3'
    | real => exact absurd rfl h4'
    | int _ lo hi h1 h2 h3 =>
      obtain ⟨_, _, _, hr⟩ := oP (by simp) (by simp) hc
      have := hr (by simp) (by simp)
      dsimp only at this
      refine ⟨2, fun k hk => ?_⟩
      obtain ⟨k, rfl⟩ : ∃ j, k = j + 2 := ⟨k - 2, by omega⟩
      simp only [at2, bC.f, bC.j0, vB, txV]
      simp [itoa_f (a := v0) (by omega) (by omega)]
    | lst _ m x h1 h2 h3 h4 =>
      obtain ⟨_, hl, ha⟩ := yf hc
      dsimp only at hl ha
      have hm : ∀ (i : Nat) (h : i < vs.length), chk n x vs[i] = 0 := fun i h => ha _ (List.getElem_mem h)
      have hr := Ud n 6 (.inr rfl) 0 0 m [x] vs (by omega) (fun i => txV n x (vs.getD i ⟨0, []⟩)) (fun i hi => by
          simp only [List.getD_eq_getElem?_getD, List.getElem?_eq_getElem hi, Option.getD_some]
          exact S9 (by omega) h3 (by omega) (by omega) (hm i hi)) (fun i hi => ⟨x, NL, by
          simp only [List.getD_eq_getElem?_getD, List.getElem?_eq_getElem hi, Option.getD_some]
          exact ih (by omega) h3 (by omega) (by omega) (hm i hi)⟩) vs.length 0 (by omega)
      have er : (List.range vs.length).map (fun i => txV n x (vs.getD i ⟨0, []⟩)) = vs.map (txV n x) := Yh _ _ _ fun i hi => by simp only [List.getD_eq_getElem?_getD, List.getElem?_eq_getElem hi, Option.getD_some]
      rw [er] at hr
      have e2 : (vB (n + 1) ⟨6, 0, 0, m, [x]⟩ ⟨v0, vs⟩) = ⟨((if (6 : Int) = 5 then 40 else 91) :: (jG (vs.map (txV n x)) ++ [if (6 : Int) = 5 then 41 else 93])).toArray⟩ := by
        simp [vB, txV, rd1]
      rw [e2]
      refine Ue (vs := vs) (.inr rfl) (show vs.length ≤ 4 by omega) ?_
      simpa using hr
    | tup _ l h1 h2 h3 h4 =>
      obtain ⟨_, hl, ha⟩ := yc hc
      dsimp only at hl ha
      have hr := Ud n 5 (.inl rfl) 0 0 0 l vs (by omega) (fun i : Nat => txV n (ag l (i : Int)) (vs.getD i ⟨0, []⟩)) (fun i hi => by
          simp only [List.getD_eq_getElem?_getD, List.getElem?_eq_getElem hi, Option.getD_some]
          rw [rdT (by omega)]
          exact S9 (by omega) (h3 _ (List.getElem_mem _)) (h4 _ (List.getElem_mem _)).1 (h4 _ (List.getElem_mem _)).2 (ha i (by omega) hi)) (fun i hi => ⟨l[i]'(by omega), NK (by omega), by
          simp only [List.getD_eq_getElem?_getD, List.getElem?_eq_getElem hi, Option.getD_some]
          rw [rdT (by omega)]
          exact ih (by omega) (h3 _ (List.getElem_mem _)) (h4 _ (List.getElem_mem _)).1 (h4 _ (List.getElem_mem _)).2 (ha i (by omega) hi)⟩) vs.length 0 (by omega)
      have er : (List.range vs.length).map (fun i : Nat => txV n (ag l (i : Int)) (vs.getD i ⟨0, []⟩)) = List.zipWith (txV n) l vs := Yg _ _ _ hl _ fun i hi hi' => by
        simp only [List.getD_eq_getElem?_getD, List.getElem?_eq_getElem hi', Option.getD_some]; rw [rdT hi]
      rw [er] at hr
      have e2 : (vB (n + 1) ⟨5, 0, 0, 0, l⟩ ⟨v0, vs⟩) = ⟨((if (5 : Int) = 5 then 40 else 91) :: (jG (List.zipWith (txV n) l vs) ++ [if (5 : Int) = 5 then 41 else 93])).toArray⟩ := by
        simp [vB, txV]
      rw [e2]
      refine Ue (vs := vs) (.inl rfl) (show vs.length ≤ 4 by omega) ?_
      simpa using hr
theorem XK {t : S24} {a : S51} {m : Nat} (hv : Vt 10 t) (hl : (prt 10 t).length ≤ 24) (h3 : t.f0 ≠ 3) (h4 : t.f0 ≠ 4) (ha : Bv m a) (hm : 10 ≤ m) (ca : chk 10 t a = 0) : Ev (at2 jo.f t a) (vB 10 t a, 0) := by
  obtain ⟨⟨K1, e1⟩, _⟩ := Od hv hl h4 ha hm
  obtain ⟨K2, e2⟩ := vform_ev 10 (by omega) hv h3 h4 ca
  dsimp only [at2] at e1 e2
  refine ⟨K1 + K2, fun k hk => ?_⟩
  simp only [at2, jo.f]
  rw [e1 k (by omega), Option.bind_some, if_pos ca, e2 k (by omega), Option.bind_some]
theorem vB_eq {n : Nat} {t : S24} {v w : S51} (ht : Vt n t) (h4 : t.f0 ≠ 4) (hv : chk n t v = 0) (hw : chk n t w = 0) : ((vB n t v).toList = (vB n t w).toList) ↔ v = w := by
  rw [Lib.toList_data, Lib.toList_data, Xu, Xu]
  exact txV_eq ht h4 hv hw

end Go.Proofs.YtggelekooacmnaaDoor.Pure
namespace Go.Proofs.YtggelekooacmnaaDoor.Q
open Go.RowKit Go.Proofs.YtggelekooacmnaaDoorW.bg Go.Proofs.YtggelekooacmnaaDoorW.bP Go.Proofs.YtggelekooacmnaaDoorW.bX
attribute [local go_sem] ek eu fw fA dH dI eB eD   -- for this text's walks alone
set_option linter.unusedVariables false
set_option linter.unusedSimpArgs false

/-! ### gT: function 30 -/
def gT.f (k : Nat)  : Option (Bool) := (some (([(⟨1, 0, 0, 0, ([] : List (S24))⟩ : S24)] : List (S24)) : List (S24))).bind fun lD => ((dC.f k 6 0 0 2 lD 0 (([(⟨1, ([] : List (S51))⟩ : S51)] : List (S51)))).bind fun Bp => ((eU.f k 6 0 0 2 lD (([1, 1, 1] : List Int))).bind fun Bq => (if Bp.2 = 0 then (if Bq.2.2 = 2 then ((bG.f k Bp.1 (([1, 1, 0] : List Int))).bind fun vE => (some vE)) else (some false)) else (some false))))
theorem gT.mono : ∀ k, LeO (gT.f k ) (gT.f (k + 1) ) := by
 intro  k; unfold gT.f
 repeat' first
   | (with_reducible exact bG.mono _ _ _)
   | (with_reducible exact dC.mono _ _ _ _ _ _ _ _)
   | (with_reducible exact eU.mono _ _ _ _ _ _ _)
   | (with_reducible exact LeO.refl _)
   | (with_reducible exact LeO.none _)
   | (with_reducible refine LeO.ite ?_ ?_)
   | (with_reducible refine LeO.bind ?_ (fun _ => ?_))
   | exact bG.mono _ _ _
   | exact dC.mono _ _ _ _ _ _ _ _
   | exact eU.mono _ _ _ _ _ _ _
   | exact LeO.none _
   | refine LeO.ite ?_ ?_
   | refine LeO.bind ?_ (fun _ => ?_)
set_option maxHeartbeats 8000000 in
set_option maxRecDepth 100000 in
theorem gT.calls (k : Nat)  (r : Bool) (w : World) (h : gT.f k  = some r) :
  Calls Tryd.prog 30 #[] w fun e w' => e = .returned (.bool r) ∧ Below w.heap.size w w' := by
 have ou := Tryd.underlying24; have zh := Tryd.underlying51; have HB := aa.mk (Below.refl w.heap.size w); have H : ((some (([(⟨1, 0, 0, 0, ([] : List (S24))⟩ : S24)] : List (S24)) : List (S24))).bind fun lD => ((dC.f k 6 0 0 2 lD 0 (([(⟨1, ([] : List (S51))⟩ : S51)] : List (S51)))).bind fun Bp => ((eU.f k 6 0 0 2 lD (([1, 1, 1] : List Int))).bind fun Bq => (if Bp.2 = 0 then (if Bq.2.2 = 2 then ((bG.f k Bp.1 (([1, 1, 0] : List Int))).bind fun vE => (some vE)) else (some false)) else (some false))))) = some r := h; clear h; obtain ⟨lD, Qu⟩ : ∃ y_ : List (S24), y_ = (([(⟨1, 0, 0, 0, ([] : List (S24))⟩ : S24)] : List (S24))) := ⟨_, rfl⟩; replace H : ((dC.f k 6 0 0 2 lD 0 (([(⟨1, ([] : List (S51))⟩ : S51)] : List (S51)))).bind fun Bp => ((eU.f k 6 0 0 2 lD (([1, 1, 1] : List Int))).bind fun Bq => (if Bp.2 = 0 then (if Bq.2.2 = 2 then ((bG.f k Bp.1 (([1, 1, 0] : List Int))).bind fun vE => (some vE)) else (some false)) else (some false)))) = some r := by first | (rw [Qu]; with_reducible exact H) | (have H2_ := (Option.bind_some _ _).symm.trans H; rw [Qu]; with_reducible exact H2_) | (have H2_ := (Option.bind_some _ _).symm.trans H; with_reducible exact H2_) | with_reducible exact H | (rw [Qu]; exact H) | exact H
 have Ns := aa.mk Qu; clear Qu; obtain ⟨y545, Qv⟩ : ∃ y_ : List (S51), y_ = (([(⟨1, ([] : List (S51))⟩ : S51)] : List (S51))) := ⟨_, rfl⟩; replace H : ((dC.f k 6 0 0 2 lD 0 y545).bind fun Bp => ((eU.f k 6 0 0 2 lD (([1, 1, 1] : List Int))).bind fun Bq => (if Bp.2 = 0 then (if Bq.2.2 = 2 then ((bG.f k Bp.1 (([1, 1, 0] : List Int))).bind fun vE => (some vE)) else (some false)) else (some false)))) = some r := by first | (rw [Qv]; with_reducible exact H) | (have H2_ := (Option.bind_some _ _).symm.trans H; rw [Qv]; with_reducible exact H2_) | (have H2_ := (Option.bind_some _ _).symm.trans H; with_reducible exact H2_) | with_reducible exact H | (rw [Qv]; exact H) | exact H
 have Nt := aa.mk Qv; clear Qv; replace H := Option.bind_eq_some_iff.mp H; obtain ⟨⟨t548, Gq⟩, A10, H⟩ := H; replace H : ((eU.f k 6 0 0 2 lD (([1, 1, 1] : List Int))).bind fun Bq => (if Gq = 0 then (if Bq.2.2 = 2 then ((bG.f k t548 (([1, 1, 0] : List Int))).bind fun vE => (some vE)) else (some false)) else (some false))) = some r := H; have A1 := aa.mk A10; clear A10; obtain ⟨y552, Qw⟩ : ∃ y_ : List Int, y_ = (([1, 1, 1] : List Int)) := ⟨_, rfl⟩; replace H : ((eU.f k 6 0 0 2 lD y552).bind fun Bq => (if Gq = 0 then (if Bq.2.2 = 2 then ((bG.f k t548 (([1, 1, 0] : List Int))).bind fun vE => (some vE)) else (some false)) else (some false))) = some r := by first | (rw [Qw]; with_reducible exact H) | (have H2_ := (Option.bind_some _ _).symm.trans H; rw [Qw]; with_reducible exact H2_) | (have H2_ := (Option.bind_some _ _).symm.trans H; with_reducible exact H2_) | with_reducible exact H | (rw [Qw]; exact H) | exact H
 have Nu := aa.mk Qw; clear Qw; replace H := Option.bind_eq_some_iff.mp H; obtain ⟨⟨DV, Gr, t559⟩, A20, H⟩ := H; replace H : (if Gq = 0 then (if t559 = 2 then ((bG.f k t548 (([1, 1, 0] : List Int))).bind fun vE => (some vE)) else (some false)) else (some false)) = some r := H; have A2 := aa.mk A20; clear A20; by_cases c3 : Gq = 0
 ·rw [if_pos c3] at H; have j5 : (Gq == 0) = true := beq_iff_eq.mpr c3; have oM : (Gq != 0) = false := bne_eq_false_iff_eq.mpr c3; clear c3; by_cases c4 : t559 = 2
  ·rw [if_pos c4] at H; have kM : (t559 == 2) = true := beq_iff_eq.mpr c4; have yS : (t559 != 2) = false := bne_eq_false_iff_eq.mpr c4; clear c4; obtain ⟨y561, Qx⟩ : ∃ y_ : List Int, y_ = (([1, 1, 0] : List Int)) := ⟨_, rfl⟩; replace H : ((bG.f k t548 y561).bind fun vE => (some vE)) = some r := by first | (rw [Qx]; with_reducible exact H) | (have H2_ := (Option.bind_some _ _).symm.trans H; rw [Qx]; with_reducible exact H2_) | (have H2_ := (Option.bind_some _ _).symm.trans H; with_reducible exact H2_) | with_reducible exact H | (rw [Qx]; exact H) | exact H
   have Ny561 := aa.mk Qx; clear Qx; replace H := Option.bind_eq_some_iff.mp H; obtain ⟨vE, A50, H⟩ := H; replace H : (some vE) = some r := H; have A5 := aa.mk A50; clear A50; obtain rfl := Option.some.inj H; go_enter Tryd.func30, Tryd.ntmps30; go_wp2_with (first | ((with_reducible refine aY (N := 7) rfl ?_); (try (refine bY (by rfl) ?_; dsimp only)); refine Kd.qb k24 _ 24 ?hg (N := 7) ?hd (xs := ([(⟨1, 0, 0, 0, ([] : List (S24))⟩ : S24)] : List (S24))) (inner := [.int .i64 1, .int .i64 0, .int .i64 0, .int .i64 0, .slice none 0 0]) (ok := fun _ => True) (okp := fun _ => True) ?hr ?hp (fun _ hk => hk) trivial (Below.refl _ _) (Nat.le_refl _) (by simp) ?_; (case hd => rfl); (case hg => rfl); (case hr => first | (go_simp; done) | (go_simp; rfl)); (case hp => exact (dm.c5 (show Kd.M k24 _ _ _ (⟨1, 0, 0, 0, ([] : List (S24))⟩ : S24) [.int .i64 1, .int .i64 0, .int .i64 0, .int .i64 0, .slice none 0 0] from (QL _ _ _ (⟨1, 0, 0, 0, ([] : List (S24))⟩ : S24) (Kd.gZ _ _ _ _ _))) (dm.none _ _))); intro v542 w6 ho7 hb hg_ iL; clear hg_ iL; (first | rw [← Ns.out] at ho7 | (simp only [Int.reduceToNat] at ho7; rw [← Ns.out] at ho7)); have fK := aa.mk (Kd.dJ ho7 (aG bl_)); replace HB := aa.mk (au bl_ hb); clear hb ho7; obtain ⟨Ao8, co8, eo8⟩ := Kd.dG fK.out; subst eo8) | ((with_reducible refine aY (N := 1) rfl ?_); (try (refine bY (by rfl) ?_; dsimp only)); refine aZ ?hg (N := 1) ?hd (cs := #[.int .i64 0, .int .i64 0, .int .i64 0, .int .i64 0, .slice none 0 0]) (t := 24) ?hr ?_; (case hd => rfl); (case hg => rfl); (case hr => first | (go_simp; done) | (go_simp; rfl)); intro jR hg w9 aK hb; have gN := aa.mk (aK); have Qy : aa (w.heap.size ≤ jR) := gw_ hg (aG bl_); have GE544 := Qy; replace fK := aa.mk (Kd.cB (Kd.jV (pR_ fK.out) jR (Nat.le_of_eq hg.symm)) hb); replace HB := aa.mk (au bl_ hb); clear hb aK hg; obtain ⟨lM, lN, nu, ny, nz, lQ, lS, nA, nC, nD⟩ := bF gN.out) | ((with_reducible refine aY (N := 12) rfl ?_); (try (refine bY (by rfl) ?_; dsimp only)); refine Kd.qb k51 _ 51 ?hg (N := 12) ?hd (xs := ([(⟨1, ([] : List (S51))⟩ : S51)] : List (S51))) (inner := [.int .i64 1, .slice none 0 0]) (ok := fun _ => True) (okp := fun _ => True) ?hr ?hp (fun _ hk => hk) trivial (Below.refl _ _) (Nat.le_refl _) (by simp) ?_; (case hd => rfl); (case hg => rfl); (case hr => first | (go_simp; done) | (go_simp; rfl)); (case hp => exact (dm.c2 (show Kd.M k51 _ _ _ (⟨1, ([] : List (S51))⟩ : S51) [.int .i64 1, .slice none 0 0] from (zA _ _ _ (⟨1, ([] : List (S51))⟩ : S51) (Kd.gZ _ _ _ _ _))) (dm.none _ _))); intro v546 w11 ho12 hb hg_ iL; clear hg_ iL; (first | rw [← Nt.out] at ho12 | (simp only [Int.reduceToNat] at ho12; rw [← Nt.out] at ho12)); have iw := aa.mk (Kd.dJ ho12 (aG bl_)); replace fK := aa.mk (Kd.cB (by (with_reducible repeat (first | apply Kd.dN | apply Kd.dO | apply Kd.dP)); exact (Kd.bQ (Kd.dD (p := ⟨jR, 4, none⟩) (Kd.dD (p := ⟨jR, 3, none⟩) (Kd.dD (p := ⟨jR, 2, none⟩) (Kd.dD (p := ⟨jR, 1, none⟩) (Kd.dD (p := ⟨jR, 0, none⟩) (Kd.bQ fK.out (fun k_ hk => (⟨hk, by first | exact hk.2 | exact hk.1 | exact hk.2 | exact hk.1.1 | exact hk.1.2⟩ : _ ∧ k_ ≠ jR))) (fun _ hk => hk.2) (.int .i64 6)) (fun _ hk => hk.2) (.int .i64 0)) (fun _ hk => hk.2) (.int .i64 0)) (fun _ hk => hk.2) (.int .i64 2)) (fun _ hk => hk.2) (.slice Ao8 lD.length co8)) (fun _ h_ => h_.1))) hb); replace gN := aa.mk (gy (g := jR) (o := .cells #[.int .i64 6, .int .i64 0, .int .i64 0, .int .i64 2, .slice Ao8 lD.length co8] 24 (0, 0)) (by (with_reducible repeat (first | refine aj ?_ _ | refine ak ?_ | refine ah ?_ _)); refine bn (cs := #[.int .i64 6, .int .i64 0, .int .i64 0, .int .i64 2, .slice none 0 0]) ?_ 4 _ rfl; (with_reducible repeat (first | refine aj ?_ _ | refine ak ?_ | refine ah ?_ _)); refine bn (cs := #[.int .i64 6, .int .i64 0, .int .i64 0, .int .i64 0, .slice none 0 0]) ?_ 3 _ rfl; (with_reducible repeat (first | refine aj ?_ _ | refine ak ?_ | refine ah ?_ _)); refine bn (cs := #[.int .i64 6, .int .i64 0, .int .i64 0, .int .i64 0, .slice none 0 0]) ?_ 2 _ rfl; (with_reducible repeat (first | refine aj ?_ _ | refine ak ?_ | refine ah ?_ _)); refine bn (cs := #[.int .i64 6, .int .i64 0, .int .i64 0, .int .i64 0, .slice none 0 0]) ?_ 1 _ rfl; (with_reducible repeat (first | refine aj ?_ _ | refine ak ?_ | refine ah ?_ _)); refine bn (cs := #[.int .i64 0, .int .i64 0, .int .i64 0, .int .i64 0, .slice none 0 0]) ?_ 0 _ rfl; (with_reducible repeat (first | refine aj ?_ _ | refine ak ?_ | refine ah ?_ _)); exact gN.out) hb); replace HB := aa.mk (au bl_ hb); clear hb ho12; obtain ⟨Ao13, co13, eo13⟩ := Kd.dG iw.out; subst eo13) | ((with_reducible refine aN (f := 57) rfl ?_); refine bJ (some 14) rfl rfl Tryd.func57 (by kernel_rfl) rfl #[.agg #[.int .i64 6, .int .i64 0, .int .i64 0, .int .i64 2, .slice Ao8 lD.length co8], .agg #[.int .i64 0, .slice Ao13 y545.length co13]] rfl mp_ ?_; (with_reducible refine (dC.calls k 6 0 0 2 _ _ lD 0 _ _ y545 t548 Gq _ ?aQ ?aT ?dK ?dL A1.out).mono ?_); (case aQ => exact cb_ ((Kd.cK fK.out).2.2)); (case aT => exact (Kd.cK fK.out).2.1); (case dK => exact cb_ ((Kd.cK iw.out).2.2)); (case dL => exact (Kd.cK iw.out).2.1); rintro e w14 ⟨v549, rfl, ho0, hb⟩; refine ⟨_, rfl, ?_⟩; have jZ := aa.mk (Kd.dJ ho0 (aG bl_)); replace fK := aa.mk (Kd.cB (pR_ fK.out) hb); replace iw := aa.mk (Kd.cB (pR_ iw.out) hb); replace gN := kb_ gN hb; replace HB := aa.mk (au bl_ hb); (try clear hb); (try clear hb2); (try clear hk); (try clear hi); (try clear ho0); obtain ⟨xP, xQ, Cf, Cg, Ch, xR, xS, Ci, Cj, Ck⟩ := bF gN.out) | ((with_reducible refine aY (N := 19) rfl ?_); (try (refine bY (by rfl) ?_; dsimp only)); refine Kd.qb (Kd.int .i64) _ 3 ?hg (N := 19) ?hd (xs := ([1, 1, 1] : List Int)) (inner := [.int .i64 1, .int .i64 1, .int .i64 1]) (ok := fun _ => True) (okp := fun _ => True) ?hr ?hp (fun _ hk => hk) trivial (Below.refl _ _) (Nat.le_refl _) (by simp) ?_; (case hd => rfl); (case hg => rfl); (case hr => first | (go_simp; done) | (go_simp; rfl)); (case hp => exact (dm.one (show Kd.M (Kd.int .i64) _ _ _ 1 [.int .i64 1] from rfl) (dm.one (show Kd.M (Kd.int .i64) _ _ _ 1 [.int .i64 1] from rfl) (dm.one (show Kd.M (Kd.int .i64) _ _ _ 1 [.int .i64 1] from rfl) (dm.none _ _))))); intro v553 w16 DU hb hg_ iL; clear hg_ iL; (first | rw [← Nu.out] at DU | (simp only [Int.reduceToNat] at DU; rw [← Nu.out] at DU)); have lg := aa.mk (Kd.dJ (Kd.lG DU (Kd.lC (pR_ jZ.out))) (aG bl_)); replace fK := aa.mk (Kd.cB (pR_ fK.out) hb); replace iw := aa.mk (Kd.cB (pR_ iw.out) hb); replace jZ := aa.mk (Kd.jU (pR_ jZ.out) (Kd.iI DU) hb); replace gN := kb_ gN hb; replace HB := aa.mk (au bl_ hb); clear hb DU; obtain ⟨Ao18, co18, eo18⟩ := Kd.dG lg.out; subst eo18) | ((with_reducible refine aN (f := 58) rfl ?_); refine bJ (some 20) rfl rfl Tryd.func58 (by kernel_rfl) rfl #[.agg #[.int .i64 6, .int .i64 0, .int .i64 0, .int .i64 2, .slice Ao8 lD.length co8], .slice Ao18 y552.length co18] rfl mp_ ?_; (with_reducible refine (eU.calls k 6 0 0 2 _ _ lD _ _ y552 DV Gr t559 _ ?aQ ?aT ?dK ?dL A2.out).mono ?_); (case aQ => exact cb_ ((Kd.cK fK.out).2.2)); (case aT => exact (Kd.cK fK.out).2.1); (case dK => exact cb_ ((Kd.cK lg.out).2.2)); (case dL => exact (Kd.cK lg.out).2.1); rintro e w19 ⟨v557, rfl, ho0, hb⟩; refine ⟨_, rfl, ?_⟩; have yI := aa.mk (Kd.dJ (Kd.lG ho0 (Kd.lC (pR_ iw.out))) (aG bl_)); replace fK := aa.mk (Kd.cB (pR_ fK.out) hb); replace iw := aa.mk (Kd.jU (pR_ iw.out) (Kd.iI ho0) hb); replace jZ := aa.mk (Kd.cB (pR_ jZ.out) hb); replace lg := aa.mk (Kd.cB (pR_ lg.out) hb); replace gN := kb_ gN hb; replace HB := aa.mk (au bl_ hb); (try clear hb); (try clear hb2); (try clear hk); (try clear hi); (try clear ho0)) | ((with_reducible refine aY (N := 4) rfl ?_); (try (refine bY (by rfl) ?_; dsimp only)); refine aZ ?hg (N := 4) ?hd (cs := #[.int .i64 0, .slice none 0 0]) (t := 51) ?hr ?_; (case hd => rfl); (case hg => rfl); (case hr => first | (go_simp; done) | (go_simp; rfl)); intro kH hg w20 aK hb; have ze := aa.mk (aK); have Qz : aa (w.heap.size ≤ kH) := gw_ hg (aG bl_); have GE560 := Qz; have wM := nl_ gN hg; have Dy := ng_ gN hg; replace fK := aa.mk (Kd.cB (pR_ fK.out) hb); replace iw := aa.mk (Kd.cB (Kd.jV (pR_ iw.out) kH (Nat.le_of_eq hg.symm)) hb); replace jZ := aa.mk (Kd.cB (pR_ jZ.out) hb); replace lg := aa.mk (Kd.cB (pR_ lg.out) hb); replace yI := aa.mk (Kd.cB (Kd.jV (pR_ yI.out) kH (Nat.le_of_eq hg.symm)) hb); replace gN := kb_ gN hb; replace HB := aa.mk (au bl_ hb); clear hb aK hg; have hnb21 := Dy.out; have hnc21 := wM.out; obtain ⟨su, sw, sD, sF⟩ := eQ ze.out; obtain ⟨DC, DD, eo23⟩ := Kd.dG yI.out; subst eo23) | ((with_reducible refine aY (N := 31) rfl ?_); (try (refine bY (by rfl) ?_; dsimp only)); refine Kd.qb (Kd.int .i64) _ 3 ?hg (N := 31) ?hd (xs := ([1, 1, 0] : List Int)) (inner := [.int .i64 1, .int .i64 1, .int .i64 0]) (ok := fun _ => True) (okp := fun _ => True) ?hr ?hp (fun _ hk => hk) trivial (Below.refl _ _) (Nat.le_refl _) (by simp) ?_; (case hd => rfl); (case hg => rfl); (case hr => first | (go_simp; done) | (go_simp; rfl)); (case hp => exact (dm.one (show Kd.M (Kd.int .i64) _ _ _ 1 [.int .i64 1] from rfl) (dm.one (show Kd.M (Kd.int .i64) _ _ _ 1 [.int .i64 1] from rfl) (dm.one (show Kd.M (Kd.int .i64) _ _ _ 0 [.int .i64 0] from rfl) (dm.none _ _))))); intro v562 w24 ho25 hb hg_ iL; clear hg_ iL; (first | rw [← Ny561.out] at ho25 | (simp only [Int.reduceToNat] at ho25; rw [← Ny561.out] at ho25)); have HO563 := aa.mk (Kd.dJ (Kd.lG (Kd.lG ho25 (Kd.lC (by (with_reducible repeat (first | apply Kd.dN | apply Kd.dO | apply Kd.dP)); exact (Kd.bQ (Kd.dD (p := ⟨kH, 1, none⟩) (Kd.dD (p := ⟨kH, 0, none⟩) (Kd.rY jZ.out ze.out (by decide)) (fun _ hk => hk.2) (.int .i64 DV)) (fun _ hk => hk.2) (.slice DC Gr.length DD)) (fun _ h_ => h_.1))))) (Kd.lC (by (with_reducible repeat (first | apply Kd.dN | apply Kd.dO | apply Kd.dP)); exact (Kd.bQ (Kd.dD (p := ⟨kH, 1, none⟩) (Kd.dD (p := ⟨kH, 0, none⟩) (Kd.rY lg.out ze.out (by decide)) (fun _ hk => hk.2) (.int .i64 DV)) (fun _ hk => hk.2) (.slice DC Gr.length DD)) (fun _ h_ => h_.1))))) (aG bl_)); replace fK := aa.mk (Kd.cB (by (with_reducible repeat (first | apply Kd.dN | apply Kd.dO | apply Kd.dP)); exact (Kd.bQ (Kd.dD (p := ⟨kH, 1, none⟩) (Kd.dD (p := ⟨kH, 0, none⟩) (Kd.rY fK.out ze.out (by decide)) (fun _ hk => hk.2) (.int .i64 DV)) (fun _ hk => hk.2) (.slice DC Gr.length DD)) (fun _ h_ => h_.1))) hb); replace iw := aa.mk (Kd.cB (by (with_reducible repeat (first | apply Kd.dN | apply Kd.dO | apply Kd.dP)); exact (Kd.bQ (Kd.dD (p := ⟨kH, 1, none⟩) (Kd.dD (p := ⟨kH, 0, none⟩) (Kd.bQ iw.out (fun k_ hk => (⟨hk, by first | exact hk.2 | exact hk.1 | exact hk.2 | exact hk.1.1 | exact hk.1.2⟩ : _ ∧ k_ ≠ kH))) (fun _ hk => hk.2) (.int .i64 DV)) (fun _ hk => hk.2) (.slice DC Gr.length DD)) (fun _ h_ => h_.1))) hb); replace jZ := aa.mk (Kd.jU (by (with_reducible repeat (first | apply Kd.dN | apply Kd.dO | apply Kd.dP)); exact (Kd.bQ (Kd.dD (p := ⟨kH, 1, none⟩) (Kd.dD (p := ⟨kH, 0, none⟩) (Kd.rY jZ.out ze.out (by decide)) (fun _ hk => hk.2) (.int .i64 DV)) (fun _ hk => hk.2) (.slice DC Gr.length DD)) (fun _ h_ => h_.1))) (Kd.iI ho25) hb); replace lg := aa.mk (Kd.jU (by (with_reducible repeat (first | apply Kd.dN | apply Kd.dO | apply Kd.dP)); exact (Kd.bQ (Kd.dD (p := ⟨kH, 1, none⟩) (Kd.dD (p := ⟨kH, 0, none⟩) (Kd.rY lg.out ze.out (by decide)) (fun _ hk => hk.2) (.int .i64 DV)) (fun _ hk => hk.2) (.slice DC Gr.length DD)) (fun _ h_ => h_.1))) (Kd.iI ho25) hb); replace yI := aa.mk (Kd.cB (by (with_reducible repeat (first | apply Kd.dN | apply Kd.dO | apply Kd.dP)); exact (Kd.bQ (Kd.dD (p := ⟨kH, 1, none⟩) (Kd.dD (p := ⟨kH, 0, none⟩) (Kd.bQ yI.out (fun k_ hk => (⟨hk, by first | exact hk.2 | exact hk.1 | exact hk.2 | exact hk.1.1 | exact hk.1.2⟩ : _ ∧ k_ ≠ kH))) (fun _ hk => hk.2) (.int .i64 DV)) (fun _ hk => hk.2) (.slice DC Gr.length DD)) (fun _ h_ => h_.1))) hb); replace gN := aa.mk (gy (g := jR) (o := .cells #[.int .i64 6, .int .i64 0, .int .i64 0, .int .i64 2, .slice Ao8 lD.length co8] 24 (0, 0)) (by (with_reducible repeat (first | refine aj ?_ _ | refine ak ?_ | refine ah ?_ _)); refine bM ?_ wM.out _; (with_reducible repeat (first | refine aj ?_ _ | refine ak ?_ | refine ah ?_ _)); refine bM ?_ wM.out _; (with_reducible repeat (first | refine aj ?_ _ | refine ak ?_ | refine ah ?_ _)); exact gN.out) hb); replace ze := aa.mk (gy (g := kH) (o := .cells #[.int .i64 DV, .slice DC Gr.length DD] 51 (0, 0)) (by (with_reducible repeat (first | refine aj ?_ _ | refine ak ?_ | refine ah ?_ _)); refine bn (cs := #[.int .i64 DV, .slice none 0 0]) ?_ 1 _ rfl; (with_reducible repeat (first | refine aj ?_ _ | refine ak ?_ | refine ah ?_ _)); refine bn (cs := #[.int .i64 0, .slice none 0 0]) ?_ 0 _ rfl; (with_reducible repeat (first | refine aj ?_ _ | refine ak ?_ | refine ah ?_ _)); exact ze.out) hb); replace HB := aa.mk (au bl_ hb); clear hb ho25; obtain ⟨Ao26, co26, eo26⟩ := Kd.dG jZ.out; subst eo26; obtain ⟨Ao27, co27, eo27⟩ := Kd.dG HO563.out; subst eo27) | (go_at_call 59; (with_reducible refine (bG.calls k _ _ t548 _ _ y561 vE _ ?aQ ?aT ?dK ?dL A5.out).mono ?_); (case aQ => exact cb_ ((Kd.cK jZ.out).2.2)); (case aT => exact (Kd.cK jZ.out).2.1); (case dK => exact cb_ ((Kd.cK HO563.out).2.2)); (case dL => exact (Kd.cK HO563.out).2.1); rintro e w' ⟨rfl, ⟨nd, rfl⟩⟩))
   go_ret; exact ⟨re_, bl_⟩
  ·rw [if_neg c4] at H; have kM : (t559 == 2) = false := beq_eq_false_iff_ne.mpr c4; have yS : (t559 != 2) = true := bne_iff_ne.mpr c4; obtain rfl := Option.some.inj H; go_enter Tryd.func30, Tryd.ntmps30; go_wp2_with (first | ((with_reducible refine aY (N := 7) rfl ?_); (try (refine bY (by rfl) ?_; dsimp only)); refine Kd.qb k24 _ 24 ?hg (N := 7) ?hd (xs := ([(⟨1, 0, 0, 0, ([] : List (S24))⟩ : S24)] : List (S24))) (inner := [.int .i64 1, .int .i64 0, .int .i64 0, .int .i64 0, .slice none 0 0]) (ok := fun _ => True) (okp := fun _ => True) ?hr ?hp (fun _ hk => hk) trivial (Below.refl _ _) (Nat.le_refl _) (by simp) ?_; (case hd => rfl); (case hg => rfl); (case hr => first | (go_simp; done) | (go_simp; rfl)); (case hp => exact (dm.c5 (show Kd.M k24 _ _ _ (⟨1, 0, 0, 0, ([] : List (S24))⟩ : S24) [.int .i64 1, .int .i64 0, .int .i64 0, .int .i64 0, .slice none 0 0] from (QL _ _ _ (⟨1, 0, 0, 0, ([] : List (S24))⟩ : S24) (Kd.gZ _ _ _ _ _))) (dm.none _ _))); intro v542 w28 ho29 hb hg_ iL; clear hg_ iL; (first | rw [← Ns.out] at ho29 | (simp only [Int.reduceToNat] at ho29; rw [← Ns.out] at ho29)); have fK := aa.mk (Kd.dJ ho29 (aG bl_)); replace HB := aa.mk (au bl_ hb); clear hb ho29; obtain ⟨Ao30, co30, eo30⟩ := Kd.dG fK.out; subst eo30) | ((with_reducible refine aY (N := 1) rfl ?_); (try (refine bY (by rfl) ?_; dsimp only)); refine aZ ?hg (N := 1) ?hd (cs := #[.int .i64 0, .int .i64 0, .int .i64 0, .int .i64 0, .slice none 0 0]) (t := 24) ?hr ?_; (case hd => rfl); (case hg => rfl); (case hr => first | (go_simp; done) | (go_simp; rfl)); intro jR hg w31 aK hb; have gN := aa.mk (aK); have Qy : aa (w.heap.size ≤ jR) := gw_ hg (aG bl_); have GE544 := Qy; replace fK := aa.mk (Kd.cB (Kd.jV (pR_ fK.out) jR (Nat.le_of_eq hg.symm)) hb); replace HB := aa.mk (au bl_ hb); clear hb aK hg; obtain ⟨sG, sH, BQ, BR, BS, sI, sJ, BU, BV, BX⟩ := bF gN.out) | ((with_reducible refine aY (N := 12) rfl ?_); (try (refine bY (by rfl) ?_; dsimp only)); refine Kd.qb k51 _ 51 ?hg (N := 12) ?hd (xs := ([(⟨1, ([] : List (S51))⟩ : S51)] : List (S51))) (inner := [.int .i64 1, .slice none 0 0]) (ok := fun _ => True) (okp := fun _ => True) ?hr ?hp (fun _ hk => hk) trivial (Below.refl _ _) (Nat.le_refl _) (by simp) ?_; (case hd => rfl); (case hg => rfl); (case hr => first | (go_simp; done) | (go_simp; rfl)); (case hp => exact (dm.c2 (show Kd.M k51 _ _ _ (⟨1, ([] : List (S51))⟩ : S51) [.int .i64 1, .slice none 0 0] from (zA _ _ _ (⟨1, ([] : List (S51))⟩ : S51) (Kd.gZ _ _ _ _ _))) (dm.none _ _))); intro v546 w33 ho34 hb hg_ iL; clear hg_ iL; (first | rw [← Nt.out] at ho34 | (simp only [Int.reduceToNat] at ho34; rw [← Nt.out] at ho34)); have iw := aa.mk (Kd.dJ ho34 (aG bl_)); replace fK := aa.mk (Kd.cB (by (with_reducible repeat (first | apply Kd.dN | apply Kd.dO | apply Kd.dP)); exact (Kd.bQ (Kd.dD (p := ⟨jR, 4, none⟩) (Kd.dD (p := ⟨jR, 3, none⟩) (Kd.dD (p := ⟨jR, 2, none⟩) (Kd.dD (p := ⟨jR, 1, none⟩) (Kd.dD (p := ⟨jR, 0, none⟩) (Kd.bQ fK.out (fun k_ hk => (⟨hk, by first | exact hk.2 | exact hk.1 | exact hk.2 | exact hk.1.1 | exact hk.1.2⟩ : _ ∧ k_ ≠ jR))) (fun _ hk => hk.2) (.int .i64 6)) (fun _ hk => hk.2) (.int .i64 0)) (fun _ hk => hk.2) (.int .i64 0)) (fun _ hk => hk.2) (.int .i64 2)) (fun _ hk => hk.2) (.slice Ao30 lD.length co30)) (fun _ h_ => h_.1))) hb); replace gN := aa.mk (gy (g := jR) (o := .cells #[.int .i64 6, .int .i64 0, .int .i64 0, .int .i64 2, .slice Ao30 lD.length co30] 24 (0, 0)) (by (with_reducible repeat (first | refine aj ?_ _ | refine ak ?_ | refine ah ?_ _)); refine bn (cs := #[.int .i64 6, .int .i64 0, .int .i64 0, .int .i64 2, .slice none 0 0]) ?_ 4 _ rfl; (with_reducible repeat (first | refine aj ?_ _ | refine ak ?_ | refine ah ?_ _)); refine bn (cs := #[.int .i64 6, .int .i64 0, .int .i64 0, .int .i64 0, .slice none 0 0]) ?_ 3 _ rfl; (with_reducible repeat (first | refine aj ?_ _ | refine ak ?_ | refine ah ?_ _)); refine bn (cs := #[.int .i64 6, .int .i64 0, .int .i64 0, .int .i64 0, .slice none 0 0]) ?_ 2 _ rfl; (with_reducible repeat (first | refine aj ?_ _ | refine ak ?_ | refine ah ?_ _)); refine bn (cs := #[.int .i64 6, .int .i64 0, .int .i64 0, .int .i64 0, .slice none 0 0]) ?_ 1 _ rfl; (with_reducible repeat (first | refine aj ?_ _ | refine ak ?_ | refine ah ?_ _)); refine bn (cs := #[.int .i64 0, .int .i64 0, .int .i64 0, .int .i64 0, .slice none 0 0]) ?_ 0 _ rfl; (with_reducible repeat (first | refine aj ?_ _ | refine ak ?_ | refine ah ?_ _)); exact gN.out) hb); replace HB := aa.mk (au bl_ hb); clear hb ho34; obtain ⟨Ao35, co35, eo35⟩ := Kd.dG iw.out; subst eo35) | ((with_reducible refine aN (f := 57) rfl ?_); refine bJ (some 14) rfl rfl Tryd.func57 (by kernel_rfl) rfl #[.agg #[.int .i64 6, .int .i64 0, .int .i64 0, .int .i64 2, .slice Ao30 lD.length co30], .agg #[.int .i64 0, .slice Ao35 y545.length co35]] rfl mp_ ?_; (with_reducible refine (dC.calls k 6 0 0 2 _ _ lD 0 _ _ y545 t548 Gq _ ?aQ ?aT ?dK ?dL A1.out).mono ?_); (case aQ => exact cb_ ((Kd.cK fK.out).2.2)); (case aT => exact (Kd.cK fK.out).2.1); (case dK => exact cb_ ((Kd.cK iw.out).2.2)); (case dL => exact (Kd.cK iw.out).2.1); rintro e w36 ⟨v549, rfl, ho0, hb⟩; refine ⟨_, rfl, ?_⟩; have jZ := aa.mk (Kd.dJ ho0 (aG bl_)); replace fK := aa.mk (Kd.cB (pR_ fK.out) hb); replace iw := aa.mk (Kd.cB (pR_ iw.out) hb); replace gN := kb_ gN hb; replace HB := aa.mk (au bl_ hb); (try clear hb); (try clear hb2); (try clear hk); (try clear hi); (try clear ho0); obtain ⟨xE, xG, xH, xI, xJ, xK, xL, xM, xN, xO⟩ := bF gN.out) | ((with_reducible refine aY (N := 19) rfl ?_); (try (refine bY (by rfl) ?_; dsimp only)); refine Kd.qb (Kd.int .i64) _ 3 ?hg (N := 19) ?hd (xs := ([1, 1, 1] : List Int)) (inner := [.int .i64 1, .int .i64 1, .int .i64 1]) (ok := fun _ => True) (okp := fun _ => True) ?hr ?hp (fun _ hk => hk) trivial (Below.refl _ _) (Nat.le_refl _) (by simp) ?_; (case hd => rfl); (case hg => rfl); (case hr => first | (go_simp; done) | (go_simp; rfl)); (case hp => exact (dm.one (show Kd.M (Kd.int .i64) _ _ _ 1 [.int .i64 1] from rfl) (dm.one (show Kd.M (Kd.int .i64) _ _ _ 1 [.int .i64 1] from rfl) (dm.one (show Kd.M (Kd.int .i64) _ _ _ 1 [.int .i64 1] from rfl) (dm.none _ _))))); intro v553 w38 ho39 hb hg_ iL; clear hg_ iL; (first | rw [← Nu.out] at ho39 | (simp only [Int.reduceToNat] at ho39; rw [← Nu.out] at ho39)); have lg := aa.mk (Kd.dJ (Kd.lG ho39 (Kd.lC (pR_ jZ.out))) (aG bl_)); replace fK := aa.mk (Kd.cB (pR_ fK.out) hb); replace iw := aa.mk (Kd.cB (pR_ iw.out) hb); replace jZ := aa.mk (Kd.jU (pR_ jZ.out) (Kd.iI ho39) hb); replace gN := kb_ gN hb; replace HB := aa.mk (au bl_ hb); clear hb ho39; obtain ⟨Ao40, co40, eo40⟩ := Kd.dG lg.out; subst eo40) | ((with_reducible refine aN (f := 58) rfl ?_); refine bJ (some 20) rfl rfl Tryd.func58 (by kernel_rfl) rfl #[.agg #[.int .i64 6, .int .i64 0, .int .i64 0, .int .i64 2, .slice Ao30 lD.length co30], .slice Ao40 y552.length co40] rfl mp_ ?_; (with_reducible refine (eU.calls k 6 0 0 2 _ _ lD _ _ y552 DV Gr t559 _ ?aQ ?aT ?dK ?dL A2.out).mono ?_); (case aQ => exact cb_ ((Kd.cK fK.out).2.2)); (case aT => exact (Kd.cK fK.out).2.1); (case dK => exact cb_ ((Kd.cK lg.out).2.2)); (case dL => exact (Kd.cK lg.out).2.1); rintro e w41 ⟨v557, rfl, ho0, hb⟩; refine ⟨_, rfl, ?_⟩; have yI := aa.mk (Kd.dJ (Kd.lG ho0 (Kd.lC (pR_ iw.out))) (aG bl_)); replace fK := aa.mk (Kd.cB (pR_ fK.out) hb); replace iw := aa.mk (Kd.jU (pR_ iw.out) (Kd.iI ho0) hb); replace jZ := aa.mk (Kd.cB (pR_ jZ.out) hb); replace lg := aa.mk (Kd.cB (pR_ lg.out) hb); replace gN := kb_ gN hb; replace HB := aa.mk (au bl_ hb); (try clear hb); (try clear hb2); (try clear hk); (try clear hi); (try clear ho0)) | ((with_reducible refine aY (N := 4) rfl ?_); (try (refine bY (by rfl) ?_; dsimp only)); refine aZ ?hg (N := 4) ?hd (cs := #[.int .i64 0, .slice none 0 0]) (t := 51) ?hr ?_; (case hd => rfl); (case hg => rfl); (case hr => first | (go_simp; done) | (go_simp; rfl)); intro kH hg w42 aK hb; have ze := aa.mk (aK); have Qz : aa (w.heap.size ≤ kH) := gw_ hg (aG bl_); have GE560 := Qz; have wM := nl_ gN hg; have Dy := ng_ gN hg; replace fK := aa.mk (Kd.cB (pR_ fK.out) hb); replace iw := aa.mk (Kd.cB (Kd.jV (pR_ iw.out) kH (Nat.le_of_eq hg.symm)) hb); replace jZ := aa.mk (Kd.cB (pR_ jZ.out) hb); replace lg := aa.mk (Kd.cB (pR_ lg.out) hb); replace yI := aa.mk (Kd.cB (Kd.jV (pR_ yI.out) kH (Nat.le_of_eq hg.symm)) hb); replace gN := kb_ gN hb; replace HB := aa.mk (au bl_ hb); clear hb aK hg; have hnb43 := Dy.out; have hnc43 := wM.out; obtain ⟨Xf, Xg, Xh, Xi⟩ := eQ ze.out; obtain ⟨Gi, DR, eo45⟩ := Kd.dG yI.out; subst eo45))
   go_ret; exact ⟨re_, bl_⟩
 ·rw [if_neg c3] at H; have j5 : (Gq == 0) = false := beq_eq_false_iff_ne.mpr c3; have oM : (Gq != 0) = true := bne_iff_ne.mpr c3; obtain rfl := Option.some.inj H; go_enter Tryd.func30, Tryd.ntmps30; go_wp2_with (first | ((with_reducible refine aY (N := 7) rfl ?_); (try (refine bY (by rfl) ?_; dsimp only)); refine Kd.qb k24 _ 24 ?hg (N := 7) ?hd (xs := ([(⟨1, 0, 0, 0, ([] : List (S24))⟩ : S24)] : List (S24))) (inner := [.int .i64 1, .int .i64 0, .int .i64 0, .int .i64 0, .slice none 0 0]) (ok := fun _ => True) (okp := fun _ => True) ?hr ?hp (fun _ hk => hk) trivial (Below.refl _ _) (Nat.le_refl _) (by simp) ?_; (case hd => rfl); (case hg => rfl); (case hr => first | (go_simp; done) | (go_simp; rfl)); (case hp => exact (dm.c5 (show Kd.M k24 _ _ _ (⟨1, 0, 0, 0, ([] : List (S24))⟩ : S24) [.int .i64 1, .int .i64 0, .int .i64 0, .int .i64 0, .slice none 0 0] from (QL _ _ _ (⟨1, 0, 0, 0, ([] : List (S24))⟩ : S24) (Kd.gZ _ _ _ _ _))) (dm.none _ _))); intro v542 w46 ho47 hb hg_ iL; clear hg_ iL; (first | rw [← Ns.out] at ho47 | (simp only [Int.reduceToNat] at ho47; rw [← Ns.out] at ho47)); have fK := aa.mk (Kd.dJ ho47 (aG bl_)); replace HB := aa.mk (au bl_ hb); clear hb ho47; obtain ⟨Ao48, co48, eo48⟩ := Kd.dG fK.out; subst eo48) | ((with_reducible refine aY (N := 1) rfl ?_); (try (refine bY (by rfl) ?_; dsimp only)); refine aZ ?hg (N := 1) ?hd (cs := #[.int .i64 0, .int .i64 0, .int .i64 0, .int .i64 0, .slice none 0 0]) (t := 24) ?hr ?_; (case hd => rfl); (case hg => rfl); (case hr => first | (go_simp; done) | (go_simp; rfl)); intro jR hg w49 aK hb; have gN := aa.mk (aK); have Qy : aa (w.heap.size ≤ jR) := gw_ hg (aG bl_); have GE544 := Qy; replace fK := aa.mk (Kd.cB (Kd.jV (pR_ fK.out) jR (Nat.le_of_eq hg.symm)) hb); replace HB := aa.mk (au bl_ hb); clear hb aK hg; obtain ⟨IM, IP, VV, VW, VX, IQ, IU, VY, VZ, V3⟩ := bF gN.out) | ((with_reducible refine aY (N := 12) rfl ?_); (try (refine bY (by rfl) ?_; dsimp only)); refine Kd.qb k51 _ 51 ?hg (N := 12) ?hd (xs := ([(⟨1, ([] : List (S51))⟩ : S51)] : List (S51))) (inner := [.int .i64 1, .slice none 0 0]) (ok := fun _ => True) (okp := fun _ => True) ?hr ?hp (fun _ hk => hk) trivial (Below.refl _ _) (Nat.le_refl _) (by simp) ?_; (case hd => rfl); (case hg => rfl); (case hr => first | (go_simp; done) | (go_simp; rfl)); (case hp => exact (dm.c2 (show Kd.M k51 _ _ _ (⟨1, ([] : List (S51))⟩ : S51) [.int .i64 1, .slice none 0 0] from (zA _ _ _ (⟨1, ([] : List (S51))⟩ : S51) (Kd.gZ _ _ _ _ _))) (dm.none _ _))); intro v546 w51 Gj hb hg_ iL; clear hg_ iL; (first | rw [← Nt.out] at Gj | (simp only [Int.reduceToNat] at Gj; rw [← Nt.out] at Gj)); have iw := aa.mk (Kd.dJ Gj (aG bl_)); replace fK := aa.mk (Kd.cB (by (with_reducible repeat (first | apply Kd.dN | apply Kd.dO | apply Kd.dP)); exact (Kd.bQ (Kd.dD (p := ⟨jR, 4, none⟩) (Kd.dD (p := ⟨jR, 3, none⟩) (Kd.dD (p := ⟨jR, 2, none⟩) (Kd.dD (p := ⟨jR, 1, none⟩) (Kd.dD (p := ⟨jR, 0, none⟩) (Kd.bQ fK.out (fun k_ hk => (⟨hk, by first | exact hk.2 | exact hk.1 | exact hk.2 | exact hk.1.1 | exact hk.1.2⟩ : _ ∧ k_ ≠ jR))) (fun _ hk => hk.2) (.int .i64 6)) (fun _ hk => hk.2) (.int .i64 0)) (fun _ hk => hk.2) (.int .i64 0)) (fun _ hk => hk.2) (.int .i64 2)) (fun _ hk => hk.2) (.slice Ao48 lD.length co48)) (fun _ h_ => h_.1))) hb); replace gN := aa.mk (gy (g := jR) (o := .cells #[.int .i64 6, .int .i64 0, .int .i64 0, .int .i64 2, .slice Ao48 lD.length co48] 24 (0, 0)) (by (with_reducible repeat (first | refine aj ?_ _ | refine ak ?_ | refine ah ?_ _)); refine bn (cs := #[.int .i64 6, .int .i64 0, .int .i64 0, .int .i64 2, .slice none 0 0]) ?_ 4 _ rfl; (with_reducible repeat (first | refine aj ?_ _ | refine ak ?_ | refine ah ?_ _)); refine bn (cs := #[.int .i64 6, .int .i64 0, .int .i64 0, .int .i64 0, .slice none 0 0]) ?_ 3 _ rfl; (with_reducible repeat (first | refine aj ?_ _ | refine ak ?_ | refine ah ?_ _)); refine bn (cs := #[.int .i64 6, .int .i64 0, .int .i64 0, .int .i64 0, .slice none 0 0]) ?_ 2 _ rfl; (with_reducible repeat (first | refine aj ?_ _ | refine ak ?_ | refine ah ?_ _)); refine bn (cs := #[.int .i64 6, .int .i64 0, .int .i64 0, .int .i64 0, .slice none 0 0]) ?_ 1 _ rfl; (with_reducible repeat (first | refine aj ?_ _ | refine ak ?_ | refine ah ?_ _)); refine bn (cs := #[.int .i64 0, .int .i64 0, .int .i64 0, .int .i64 0, .slice none 0 0]) ?_ 0 _ rfl; (with_reducible repeat (first | refine aj ?_ _ | refine ak ?_ | refine ah ?_ _)); exact gN.out) hb); replace HB := aa.mk (au bl_ hb); clear hb Gj; obtain ⟨Ao53, co53, eo53⟩ := Kd.dG iw.out; subst eo53) | ((with_reducible refine aN (f := 57) rfl ?_); refine bJ (some 14) rfl rfl Tryd.func57 (by kernel_rfl) rfl #[.agg #[.int .i64 6, .int .i64 0, .int .i64 0, .int .i64 2, .slice Ao48 lD.length co48], .agg #[.int .i64 0, .slice Ao53 y545.length co53]] rfl mp_ ?_; (with_reducible refine (dC.calls k 6 0 0 2 _ _ lD 0 _ _ y545 t548 Gq _ ?aQ ?aT ?dK ?dL A1.out).mono ?_); (case aQ => exact cb_ ((Kd.cK fK.out).2.2)); (case aT => exact (Kd.cK fK.out).2.1); (case dK => exact cb_ ((Kd.cK iw.out).2.2)); (case dL => exact (Kd.cK iw.out).2.1); rintro e w54 ⟨v549, rfl, ho0, hb⟩; refine ⟨_, rfl, ?_⟩; have jZ := aa.mk (Kd.dJ ho0 (aG bl_)); replace fK := aa.mk (Kd.cB (pR_ fK.out) hb); replace iw := aa.mk (Kd.cB (pR_ iw.out) hb); replace gN := kb_ gN hb; replace HB := aa.mk (au bl_ hb); (try clear hb); (try clear hb2); (try clear hk); (try clear hi); (try clear ho0); obtain ⟨La, Lb, QY, QZ, Q0, Lc, Ld, Q3, Q4, Q5⟩ := bF gN.out) | ((with_reducible refine aY (N := 19) rfl ?_); (try (refine bY (by rfl) ?_; dsimp only)); refine Kd.qb (Kd.int .i64) _ 3 ?hg (N := 19) ?hd (xs := ([1, 1, 1] : List Int)) (inner := [.int .i64 1, .int .i64 1, .int .i64 1]) (ok := fun _ => True) (okp := fun _ => True) ?hr ?hp (fun _ hk => hk) trivial (Below.refl _ _) (Nat.le_refl _) (by simp) ?_; (case hd => rfl); (case hg => rfl); (case hr => first | (go_simp; done) | (go_simp; rfl)); (case hp => exact (dm.one (show Kd.M (Kd.int .i64) _ _ _ 1 [.int .i64 1] from rfl) (dm.one (show Kd.M (Kd.int .i64) _ _ _ 1 [.int .i64 1] from rfl) (dm.one (show Kd.M (Kd.int .i64) _ _ _ 1 [.int .i64 1] from rfl) (dm.none _ _))))); intro v553 w56 ho57 hb hg_ iL; clear hg_ iL; (first | rw [← Nu.out] at ho57 | (simp only [Int.reduceToNat] at ho57; rw [← Nu.out] at ho57)); have lg := aa.mk (Kd.dJ (Kd.lG ho57 (Kd.lC (pR_ jZ.out))) (aG bl_)); replace fK := aa.mk (Kd.cB (pR_ fK.out) hb); replace iw := aa.mk (Kd.cB (pR_ iw.out) hb); replace jZ := aa.mk (Kd.jU (pR_ jZ.out) (Kd.iI ho57) hb); replace gN := kb_ gN hb; replace HB := aa.mk (au bl_ hb); clear hb ho57; obtain ⟨Ao58, co58, eo58⟩ := Kd.dG lg.out; subst eo58) | ((with_reducible refine aN (f := 58) rfl ?_); refine bJ (some 20) rfl rfl Tryd.func58 (by kernel_rfl) rfl #[.agg #[.int .i64 6, .int .i64 0, .int .i64 0, .int .i64 2, .slice Ao48 lD.length co48], .slice Ao58 y552.length co58] rfl mp_ ?_; (with_reducible refine (eU.calls k 6 0 0 2 _ _ lD _ _ y552 DV Gr t559 _ ?aQ ?aT ?dK ?dL A2.out).mono ?_); (case aQ => exact cb_ ((Kd.cK fK.out).2.2)); (case aT => exact (Kd.cK fK.out).2.1); (case dK => exact cb_ ((Kd.cK lg.out).2.2)); (case dL => exact (Kd.cK lg.out).2.1); rintro e w59 ⟨v557, rfl, ho0, hb⟩; refine ⟨_, rfl, ?_⟩; have yI := aa.mk (Kd.dJ (Kd.lG ho0 (Kd.lC (pR_ iw.out))) (aG bl_)); replace fK := aa.mk (Kd.cB (pR_ fK.out) hb); replace iw := aa.mk (Kd.jU (pR_ iw.out) (Kd.iI ho0) hb); replace jZ := aa.mk (Kd.cB (pR_ jZ.out) hb); replace lg := aa.mk (Kd.cB (pR_ lg.out) hb); replace gN := kb_ gN hb; replace HB := aa.mk (au bl_ hb); (try clear hb); (try clear hb2); (try clear hk); (try clear hi); (try clear ho0)) | ((with_reducible refine aY (N := 4) rfl ?_); (try (refine bY (by rfl) ?_; dsimp only)); refine aZ ?hg (N := 4) ?hd (cs := #[.int .i64 0, .slice none 0 0]) (t := 51) ?hr ?_; (case hd => rfl); (case hg => rfl); (case hr => first | (go_simp; done) | (go_simp; rfl)); intro kH hg w60 aK hb; have ze := aa.mk (aK); have Qz : aa (w.heap.size ≤ kH) := gw_ hg (aG bl_); have GE560 := Qz; have wM := nl_ gN hg; have Dy := ng_ gN hg; replace fK := aa.mk (Kd.cB (pR_ fK.out) hb); replace iw := aa.mk (Kd.cB (Kd.jV (pR_ iw.out) kH (Nat.le_of_eq hg.symm)) hb); replace jZ := aa.mk (Kd.cB (pR_ jZ.out) hb); replace lg := aa.mk (Kd.cB (pR_ lg.out) hb); replace yI := aa.mk (Kd.cB (Kd.jV (pR_ yI.out) kH (Nat.le_of_eq hg.symm)) hb); replace gN := kb_ gN hb; replace HB := aa.mk (au bl_ hb); clear hb aK hg; have hnb61 := Dy.out; have hnc61 := wM.out; obtain ⟨BC, BD, BF, BG⟩ := eQ ze.out; obtain ⟨Ao63, co63, eo63⟩ := Kd.dG yI.out; subst eo63))
  go_ret; exact ⟨re_, bl_⟩

end Go.Proofs.YtggelekooacmnaaDoor.Q
set_option linter.unusedVariables false
set_option linter.unusedSimpArgs false
namespace Go.Proofs.YtggelekooacmnaaDoor.Pure
open Go.RowKit Go.Proofs.YtggelekooacmnaaDoor.Q Go.Proofs.YtggelekooacmnaaDoorW.bg Go.Proofs.YtggelekooacmnaaDoorW.bP Go.Proofs.YtggelekooacmnaaDoorW.bX
-- mh: what its calls answer
theorem awake_ev : Ev gT.f true := Ev.of (k := 30) gT.mono (by decide +kernel)
theorem cel_zero {n : Nat} {t : S24} {v w : S51} (ht : Vt n t) (hv : chk n t v = 0) (hw : chk n t w = 0) : cmpL (cel n t v) (cel n t w) = 0 ↔ v = w := SX.trans (cel_eq ht hv hw)
/-- all at one count of rounds -/
structure Ordered (K : Nat) (L : List Int) (p : Nat → Int) (t : S24) (v : Nat → S51) : Prop where
  ty : ax.f K L 0 0 2 = some (t.f0, t.f1, t.f2, t.f3, t.f4, p 0, 0)
  so : ∀ k, k < 3 → aD.f K L (p k) 0 t.f0 t.f1 t.f2 t.f3 t.f4 = some ((v k).f0, (v k).f1, p (k + 1), 0)
  ch : ∀ k, k < 3 → gG.f K t.f0 t.f1 t.f2 t.f3 t.f4 (v k).f0 (v k).f1 = some (chk 10 t (v k))
  aw : gT.f K = some true
  co : ∀ i j, i < 3 → j < 3 → chk 10 t (v i) = 0 → chk 10 t (v j) = 0 → iH.f K t.f0 t.f1 t.f2 t.f3 t.f4 (v i).f0 (v i).f1 (v j).f0 (v j).f1 = some (cmpL (cel 10 t (v i)) (cel 10 t (v j)), 0)
  fo : ∀ i, i < 3 → chk 10 t (v i) = 0 → jo.f K t.f0 t.f1 t.f2 t.f3 t.f4 (v i).f0 (v i).f1 = some (vB 10 t (v i), 0)
  sa : ∃ b, aV.f K (v 0).f0 (v 0).f1 (v 1).f0 (v 1).f1 = some b ∧ (b = true ↔ v 0 = v 1)
  vt : Vt 10 t
  n4 : t.f0 ≠ 4
theorem three {P : Nat → Prop} (h0 : P 0) (h1 : P 1) (h2 : P 2) : ∀ k, k < 3 → P k := fun k hk => by
  match k, hk with
  | 0, _ => exact h0
  | 1, _ => exact h1
  | 2, _ => exact h2
theorem ev_three {α : Type} {f : Nat → Nat → Option α} {r : Nat → α} (h : ∀ i, i < 3 → Ev (f i) (r i)) : ∃ K, ∀ k, K ≤ k → ∀ i, i < 3 → f i k = some (r i) := by
  obtain ⟨K0, e0⟩ := h 0 (by omega)
  obtain ⟨K1, e1⟩ := h 1 (by omega)
  obtain ⟨K2, e2⟩ := h 2 (by omega)
  exact ⟨K0 + K1 + K2, fun k hk => three (e0 k (by omega)) (e1 k (by omega)) (e2 k (by omega))⟩
theorem ordered (l : List Int) : ∃ K p t v, Ordered K (l.take 1000) p t v := by
  obtain ⟨_, hr⟩ := New_ok l
  obtain ⟨t, p0, ⟨K1, e1⟩, g, hr1⟩ := Type_ev 2 (s := 0) (by omega) (by omega) hr
  have hv : Vt 10 t := Vt.mono (by omega) g.vt
  have hl : (prt 10 t).length ≤ 24 := Nat.le_trans (g.ET (by omega)) (by decide)
  have h3 := g.kind.1
  have h4 := g.kind.2.1
  obtain ⟨v0, p1, ⟨K2, e2⟩, b0, hr2⟩ := Sc 10 (s := 0) hv hr1
  obtain ⟨v1, p2, ⟨K3, e3⟩, b1, hr3⟩ := Sc 10 (s := 0) hv hr2
  obtain ⟨v2, p3, ⟨K4, e4⟩, b2, hr4⟩ := Sc 10 (s := 0) hv hr3
  dsimp only [smf] at e1 e2 e3 e4
  obtain ⟨v, hv0, hv1, hv2⟩ : ∃ v : Nat → S51, v 0 = v0 ∧ v 1 = v1 ∧ v 2 = v2 := ⟨fun i => if i = 0 then v0 else if i = 1 then v1 else v2, rfl, rfl, rfl⟩
  obtain ⟨p, hp0, hp1, hp2, hp3⟩ : ∃ p : Nat → Int, p 0 = p0 ∧ p 1 = p1 ∧ p 2 = p2 ∧ p 3 = p3 := ⟨fun i => if i = 0 then p0 else if i = 1 then p1 else if i = 2 then p2 else p3, rfl, rfl, rfl, rfl⟩
  have hb : ∀ i, i < 3 → Bv 11 (v i) := three (by rw [hv0]; exact b0) (by rw [hv1]; exact b1) (by rw [hv2]; exact b2)
  obtain ⟨K5, e5⟩ := awake_ev
  obtain ⟨K6, e6⟩ := ev_three (f := fun i k => gG.f k t.f0 t.f1 t.f2 t.f3 t.f4 (v i).f0 (v i).f1) (r := fun i => chk 10 t (v i)) fun i hi => (Od hv hl h4 (hb i hi) (by omega)).2
  have hco : ∃ K, ∀ k, K ≤ k → ∀ i, i < 3 → ∀ j, j < 3 → chk 10 t (v i) = 0 → chk 10 t (v j) = 0 → iH.f k t.f0 t.f1 t.f2 t.f3 t.f4 (v i).f0 (v i).f1 (v j).f0 (v j).f1 = some (cmpL (cel 10 t (v i)) (cel 10 t (v j)), 0) := by
    have hx : ∀ i, i < 3 → ∀ j, j < 3 → ∃ K, ∀ k, K ≤ k → chk 10 t (v i) = 0 → chk 10 t (v j) = 0 → iH.f k t.f0 t.f1 t.f2 t.f3 t.f4 (v i).f0 (v i).f1 (v j).f0 (v j).f1 = some (cmpL (cel 10 t (v i)) (cel 10 t (v j)), 0) := by
      intro i hi j hj
      by_cases ci : chk 10 t (v i) = 0
      · by_cases cj : chk 10 t (v j) = 0
        · obtain ⟨K, e⟩ := XI hv hl h4 (hb i hi) (hb j hj) (by omega) ci cj
          exact ⟨K, fun k hk _ _ => e k hk⟩
        · exact ⟨0, fun k _ _ h => absurd h cj⟩
      · exact ⟨0, fun k _ h _ => absurd h ci⟩
    have hy : ∀ i, i < 3 → ∃ K, ∀ k, K ≤ k → ∀ j, j < 3 → chk 10 t (v i) = 0 → chk 10 t (v j) = 0 → iH.f k t.f0 t.f1 t.f2 t.f3 t.f4 (v i).f0 (v i).f1 (v j).f0 (v j).f1 = some (cmpL (cel 10 t (v i)) (cel 10 t (v j)), 0) := by
      intro i hi
      obtain ⟨Ka, ea⟩ := hx i hi 0 (by omega)
      obtain ⟨Kb, eb⟩ := hx i hi 1 (by omega)
      obtain ⟨Kc, ec⟩ := hx i hi 2 (by omega)
      exact ⟨Ka + Kb + Kc, fun k hk => three (ea k (by omega)) (eb k (by omega)) (ec k (by omega))⟩
    obtain ⟨Ka, ea⟩ := hy 0 (by omega)
    obtain ⟨Kb, eb⟩ := hy 1 (by omega)
    obtain ⟨Kc, ec⟩ := hy 2 (by omega)
    exact ⟨Ka + Kb + Kc, fun k hk => three (ea k (by omega)) (eb k (by omega)) (ec k (by omega))⟩
  obtain ⟨K7, e7⟩ := hco
  have hfo : ∃ K, ∀ k, K ≤ k → ∀ i, i < 3 → chk 10 t (v i) = 0 → jo.f k t.f0 t.f1 t.f2 t.f3 t.f4 (v i).f0 (v i).f1 = some (vB 10 t (v i), 0) := by
    have hx : ∀ i, i < 3 → ∃ K, ∀ k, K ≤ k → chk 10 t (v i) = 0 → jo.f k t.f0 t.f1 t.f2 t.f3 t.f4 (v i).f0 (v i).f1 = some (vB 10 t (v i), 0) := by
      intro i hi
      by_cases ci : chk 10 t (v i) = 0
      · obtain ⟨K, e⟩ := XK hv hl h3 h4 (hb i hi) (by omega) ci
        exact ⟨K, fun k hk _ => e k hk⟩
      · exact ⟨0, fun k _ h => absurd h ci⟩
    obtain ⟨Ka, ea⟩ := hx 0 (by omega)
    obtain ⟨Kb, eb⟩ := hx 1 (by omega)
    obtain ⟨Kc, ec⟩ := hx 2 (by omega)
    exact ⟨Ka + Kb + Kc, fun k hk => three (ea k (by omega)) (eb k (by omega)) (ec k (by omega))⟩
  obtain ⟨K8, e8⟩ := hfo
  obtain ⟨b, ⟨K9, e9⟩, hbb⟩ := same_ev 11 (v := v 0) (w := v 1) (hb 0 (by omega))
  refine ⟨K1 + K2 + K3 + K4 + K5 + K6 + K7 + K8 + K9, p, t, v, ?_⟩
  refine ⟨?_, three ?_ ?_ ?_, e6 _ (by omega), e5 _ (by omega), fun i j hi hj => e7 _ (by omega) i hi j hj, e8 _ (by omega), ⟨b, e9 _ (by omega), hbb⟩, hv, h4⟩
  · rw [hp0]; exact e1 _ (by omega)
  · rw [hp0, hv0, hp1]; exact e2 _ (by omega)
  · rw [hp1, hv1, hp2]; exact e3 _ (by omega)
  · rw [hp2, hv2, hp3]; exact e4 _ (by omega)

end Go.Proofs.YtggelekooacmnaaDoor.Pure
-- mh: its calls behind the region, told at whatever world
namespace Go.Proofs.YtggelekooacmnaaDoor.Q
open Go.RowKit Go.Proofs.YtggelekooacmnaaDoorW.bg Go.Proofs.YtggelekooacmnaaDoorW.bP Go.Proofs.YtggelekooacmnaaDoorW.bX
open Go.Proofs.YtggelekooacmnaaDoor.Pure
set_option linter.unusedVariables false
set_option linter.unusedSimpArgs false
structure Hv (w0 : World) (gb : Nat) (t : S24) (A : Option Addr) (c : Nat) (v : Nat → S51) (b : Nat → Nat) (A' : Nat → Option Addr) (c' : Nat → Nat) (w : World) : Prop where
  k0 : w.heap[gb]? = some (.cells (tcs t.f0 t.f1 t.f2 t.f3 A t.f4.length c) 24 (0, 0))
  r0 : Kd.C k24 w A t.f4.length t.f4
  lc : t.f4.length ≤ c
  kb : ∀ i, i < 3 → w.heap[b i]? = some (.cells #[.int .i64 (v i).f0, .slice (A' i) (v i).f1.length (c' i)] 51 (0, 0))
  rb : ∀ i, i < 3 → (v i).f1.length ≤ c' i ∧ Kd.C k51 w (A' i) (v i).f1.length (v i).f1
  bl : Below w0.heap.size w0 w
  tb : sj w0.heap.size w0
section
variable {w0 : World} {gb : Nat} {t : S24} {A : Option Addr} {c : Nat} {v : Nat → S51} {b : Nat → Nat} {A' : Nat → Option Addr} {c' : Nat → Nat} {w w' : World} {K : Nat} {L : List Int} {p : Nat → Int}
theorem Hv.below (h : Hv w0 gb t A c v b A' c' w) (hb : Below w.heap.size w w') : Hv w0 gb t A c v b A' c' w' :=
  ⟨(hb.block _ (iX h.k0)).trans h.k0, Kd.bA h.r0 hb, h.lc, fun i hi => (hb.block _ (iX (h.kb i hi))).trans (h.kb i hi), fun i hi => ⟨(h.rb i hi).1, Kd.bA (h.rb i hi).2 hb⟩, h.bl.trans (hb.mono h.bl.size), h.tb⟩
theorem Hv.cells (h : Hv w0 gb t A c v b A' c' w) : w.cell? ⟨gb, 0, none⟩ = some (.int .i64 t.f0) ∧ w.cell? ⟨gb, 1, none⟩ = some (.int .i64 t.f1) ∧ w.cell? ⟨gb, 2, none⟩ = some (.int .i64 t.f2) ∧ w.cell? ⟨gb, 3, none⟩ = some (.int .i64 t.f3) ∧ w.cell? ⟨gb, 4, none⟩ = some (.slice A t.f4.length c) ∧
    w.cell? ⟨b 0, 0, none⟩ = some (.int .i64 (v 0).f0) ∧ w.cell? ⟨b 0, 1, none⟩ = some (.slice (A' 0) (v 0).f1.length (c' 0)) ∧ w.cell? ⟨b 1, 0, none⟩ = some (.int .i64 (v 1).f0) ∧ w.cell? ⟨b 1, 1, none⟩ = some (.slice (A' 1) (v 1).f1.length (c' 1)) ∧ w.cell? ⟨b 2, 0, none⟩ = some (.int .i64 (v 2).f0) ∧ w.cell? ⟨b 2, 1, none⟩ = some (.slice (A' 2) (v 2).f1.length (c' 2)) :=
  ⟨(aC h.k0 0).trans rfl, (aC h.k0 1).trans rfl, (aC h.k0 2).trans rfl, (aC h.k0 3).trans rfl, (aC h.k0 4).trans rfl,
    (aC (h.kb 0 (by omega)) 0).trans rfl, (aC (h.kb 0 (by omega)) 1).trans rfl, (aC (h.kb 1 (by omega)) 0).trans rfl, (aC (h.kb 1 (by omega)) 1).trans rfl, (aC (h.kb 2 (by omega)) 0).trans rfl, (aC (h.kb 2 (by omega)) 1).trans rfl⟩
abbrev tvO (t : S24) (A : Option Addr) (c : Nat) : Value := .agg #[.int .i64 t.f0, .int .i64 t.f1, .int .i64 t.f2, .int .i64 t.f3, .slice A t.f4.length c]
abbrev vvO (v : Nat → S51) (A' : Nat → Option Addr) (c' : Nat → Nat) (i : Nat) : Value := .agg #[.int .i64 (v i).f0, .slice (A' i) (v i).f1.length (c' i)]
theorem Hv.check (h : Hv w0 gb t A c v b A' c' w) (ho : Ordered K L p t v) (i : Nat) (hi : i < 3) {r : Int} (hr : chk 10 t (v i) = r) :
    Calls Tryd.prog 29 #[tvO t A c, vvO v A' c' i] w fun e w' => e = .returned (.int .i64 r) ∧ Hv w0 gb t A c v b A' c' w' := by
  subst hr
  exact (gG.calls K t.f0 t.f1 t.f2 t.f3 A c t.f4 (v i).f0 (A' i) (c' i) (v i).f1 _ w h.r0 h.lc (h.rb i hi).2 (h.rb i hi).1 (ho.ch i hi)).mono fun e w' ⟨e1, hb⟩ => ⟨e1, h.below hb⟩
theorem Hv.compare (h : Hv w0 gb t A c v b A' c' w) (ho : Ordered K L p t v) (i j : Nat) (hi : i < 3) (hj : j < 3) (ci : chk 10 t (v i) = 0) (cj : chk 10 t (v j) = 0) {r : Int} (hr : cmpL (cel 10 t (v i)) (cel 10 t (v j)) = r) :
    Calls Tryd.prog 31 #[tvO t A c, vvO v A' c' i, vvO v A' c' j] w fun e w' => e = .returned (.tuple #[.int .i64 r, .int .i64 0]) ∧ Hv w0 gb t A c v b A' c' w' := by
  subst hr
  exact (iH.calls K t.f0 t.f1 t.f2 t.f3 A c t.f4 (v i).f0 (A' i) (c' i) (v i).f1 (v j).f0 (A' j) (c' j) (v j).f1 _ _ w h.r0 h.lc (h.rb i hi).2 (h.rb i hi).1 (h.rb j hj).2 (h.rb j hj).1 (ho.co i j hi hj ci cj)).mono fun e w' ⟨e1, hb⟩ => ⟨e1, h.below hb⟩
theorem Hv.format (h : Hv w0 gb t A c v b A' c' w) (ho : Ordered K L p t v) (i : Nat) (hi : i < 3) (ci : chk 10 t (v i) = 0) {r : ByteArray} (hr : vB 10 t (v i) = r) :
    Calls Tryd.prog 32 #[tvO t A c, vvO v A' c' i] w fun e w' => e = .returned (.tuple #[.string r, .int .i64 0]) ∧ Hv w0 gb t A c v b A' c' w' := by
  subst hr
  exact (jo.calls K t.f0 t.f1 t.f2 t.f3 A c t.f4 (v i).f0 (A' i) (c' i) (v i).f1 _ _ w h.r0 h.lc (h.rb i hi).2 (h.rb i hi).1 (ho.fo i hi ci) (ptab h.tb h.bl)).mono fun e w' ⟨e1, hb⟩ => ⟨e1, h.below hb⟩
theorem Hv.same (h : Hv w0 gb t A c v b A' c' w) {r : Bool} (hr : aV.f K (v 0).f0 (v 0).f1 (v 1).f0 (v 1).f1 = some r) :
    Calls Tryd.prog 33 #[vvO v A' c' 0, vvO v A' c' 1] w fun e w' => e = .returned (.bool r) ∧ Hv w0 gb t A c v b A' c' w' :=
  (aV.calls K (v 0).f0 (A' 0) (c' 0) (v 0).f1 (v 1).f0 (A' 1) (c' 1) (v 1).f1 r w (h.rb 0 (by omega)).2 (h.rb 0 (by omega)).1 (h.rb 1 (by omega)).2 (h.rb 1 (by omega)).1 hr).mono fun e w' ⟨e1, hb⟩ => ⟨e1, h.below hb⟩
theorem Hv.awake (h : Hv w0 gb t A c v b A' c' w) (ho : Ordered K L p t v) :
    Calls Tryd.prog 30 #[] w fun e w' => e = .returned (.bool true) ∧ Hv w0 gb t A c v b A' c' w' :=
  (gT.calls K true w ho.aw).mono fun e w' ⟨e1, hb⟩ => ⟨e1, h.below hb⟩
end
/-- what the law asks of the numbers -/
theorem XL {K : Nat} {L : List Int} {p : Nat → Int} {t : S24} {v : Nat → S51} (ho : Ordered K L p t v) (c0 : chk 10 t (v 0) = 0) (c1 : chk 10 t (v 1) = 0) (c2 : chk 10 t (v 2) = 0) :
    ∃ x y z u : Int, cmpL (cel 10 t (v 0)) (cel 10 t (v 1)) = x ∧ cmpL (cel 10 t (v 1)) (cel 10 t (v 0)) = y ∧ cmpL (cel 10 t (v 1)) (cel 10 t (v 2)) = z ∧ cmpL (cel 10 t (v 0)) (cel 10 t (v 2)) = u ∧ x = -y ∧ (x = -1 ∨ x = 0 ∨ x = 1) ∧ (x ≤ 0 → z ≤ 0 → u ≤ 0) ∧ (-1 ≤ z ∧ z ≤ 1) ∧ (-1 ≤ u ∧ u ≤ 1) ∧
    ∃ r s q, aV.f K (v 0).f0 (v 0).f1 (v 1).f0 (v 1).f1 = some (decide (x = 0)) ∧ vB 10 t (v 0) = s ∧ vB 10 t (v 1) = q ∧ r = decide (x = 0) ∧ (s.toList == q.toList) = r := by
  have h1 := JP (cel 10 t (v 0)) (cel 10 t (v 1))
  have hz := cel_zero ho.vt c0 c1
  obtain ⟨b, e1, e2⟩ := ho.sa
  have hb : b = decide (cmpL (cel 10 t (v 0)) (cel 10 t (v 1)) = 0) := by
    rw [Bool.eq_iff_iff, e2, decide_eq_true_eq, hz]
  refine ⟨_, _, _, _, rfl, rfl, rfl, rfl, Uc _ _, by omega, Qj, JP _ _, JP _ _, _, _, _, by rw [← hb]; exact e1, rfl, rfl, rfl, ?_⟩
  rw [Bool.eq_iff_iff, beq_iff_eq, decide_eq_true_eq, hz]
  exact vB_eq ho.vt ho.n4 c0 c1
end Go.Proofs.YtggelekooacmnaaDoor.Q
-- mh, walked by hand
namespace Go.Proofs.YtggelekooacmnaaDoor.Q
open Go.RowKit Go.Proofs.YtggelekooacmnaaDoorW.bg Go.Proofs.YtggelekooacmnaaDoorW.bP Go.Proofs.YtggelekooacmnaaDoorW.bX
open Go.Proofs.YtggelekooacmnaaDoor.Pure
set_option linter.unusedVariables false
set_option linter.unusedSimpArgs false
set_option maxHeartbeats 4000000 in
set_option maxRecDepth 100000 in
theorem UF (l : List Int) (A0 : Option Addr) (c0 : Nat) (w : World) (hr0 : Kd.C (Kd.int .i64) w A0 l.length l) (hc0 : l.length ≤ c0) (htab : sj w.heap.size w) :
    Calls Tryd.prog 9 #[.slice A0 l.length c0] w fun e w' => e = .returned (.bool true) ∧ Below w.heap.size w w' := by
  obtain ⟨K, p, t, v, ho⟩ := ordered l
  have hn := (New_ok l).1
  have HO := Lib.hid ho
  have HR := Lib.hid hr0
  have HC := Lib.hid hc0
  have HT := Lib.hid htab
  have HN := Lib.hid hn
  clear ho hr0 hc0 htab hn
  obtain ⟨L, hL⟩ : ∃ L, L = l.take 1000 := ⟨_, rfl⟩
  rw [← hL] at HO HN
  clear hL
  have ou := Tryd.underlying24
  have zh := Tryd.underlying51
  go_enter Tryd.func9, Tryd.ntmps9
  go_wp2_with (first | (go_at_call 14; refine (nk.calls A0 c0 l L 0 0 w _ (Below.refl _ _) HR.out HC.out HN.out).mono ?_; rintro e w1 ⟨g, rfl, hi, hb, hb2⟩; have HI := Lib.hid hi; have HB := Lib.hid hb; clear hi hb hb2) | (go_at_call 15; refine (ax.calls K g L 0 0 2 _ _ _ _ _ _ _ w _ HI.out HB.out HO.out.ty).mono ?_; rintro e w2 ⟨sv, rfl, hNt, hi, hb, hk⟩; obtain ⟨A4, c4, rfl⟩ := Kd.Bu hNt; have HL1 := Lib.hid hk.1; have HI2 := Lib.hid hi; have HB2 := Lib.hid hb; have HNt := Lib.hid hNt; clear hi hb hk hNt))
  have HI3 := Lib.hid (HI2.out.alloc (.cells #[.int .i64 t.f0, .int .i64 t.f1, .int .i64 t.f2, .int .i64 t.f3, .slice A4 t.f4.length c4] 24))
  have HB3 := Lib.hid (cz HB2.out (.cells #[.int .i64 t.f0, .int .i64 t.f1, .int .i64 t.f2, .int .i64 t.f3, .slice A4 t.f4.length c4] 24))
  have HBT := Lib.hid (heap_alloc_new w2 (.cells #[.int .i64 t.f0, .int .i64 t.f1, .int .i64 t.f2, .int .i64 t.f3, .slice A4 t.f4.length c4] 24))
  have HZ3 := Lib.hid (aG HB.out)
  have HN3 := Lib.hid (Kd.Bt (Kd.QI (Kd.GY HNt.out HZ3.out)) (.cells #[.int .i64 t.f0, .int .i64 t.f1, .int .i64 t.f2, .int .i64 t.f3, .slice A4 t.f4.length c4] 24))
  have HZ := Lib.hid (HI2.out.lt)
  have HZ1 := Lib.hid (HI.out.lt)
  have HZ2 := Lib.hid (aG HB2.out)
  refine TM (w0 := w) (g := g) (gb := w2.heap.size) (L := L) (s := 0) (p := p) (v := v) (t0 := t.f0) (t1 := t.f1) (t2 := t.f2) (t3 := t.f3) (A := A4) (c := c4) (tl := t.f4) (K := K) HO.out.so rfl rfl rfl HI3.out HB3.out HBT.out HZ2.out (by have := HZ.out; omega) (Kd.ll HN3.out fun x hx => ?_) (Kd.ni HNt.out).2.1 ?_
  · have h1 : w1.heap.size ≤ x := hx.1
    have h2 : x < w2.heap.size := hx.2
    exact ⟨by have := HZ1.out; omega, by omega⟩
  intro A1 c1 A2 c2 A3 c3 b1 b2 b3 w3 k0 r0 k1 k2 k3 m1 m2 m3 hb3
  obtain ⟨A', rfl, rfl, rfl⟩ : ∃ A' : Nat → Option Addr, A' 0 = A1 ∧ A' 1 = A2 ∧ A' 2 = A3 := ⟨fun i => if i = 0 then A1 else if i = 1 then A2 else A3, rfl, rfl, rfl⟩
  obtain ⟨c', rfl, rfl, rfl⟩ : ∃ c' : Nat → Nat, c' 0 = c1 ∧ c' 1 = c2 ∧ c' 2 = c3 := ⟨fun i => if i = 0 then c1 else if i = 1 then c2 else c3, rfl, rfl, rfl⟩
  obtain ⟨b, rfl, rfl, rfl⟩ : ∃ b : Nat → Nat, b 0 = b1 ∧ b 1 = b2 ∧ b 2 = b3 := ⟨fun i => if i = 0 then b1 else if i = 1 then b2 else b3, rfl, rfl, rfl⟩
  obtain ⟨gb, hgb⟩ : ∃ gb, gb = w2.heap.size := ⟨_, rfl⟩
  have hv : Hv w gb t A4 c4 v b A' c' w3 := ⟨by rw [hgb]; exact k0, r0, (Kd.ni HNt.out).2.1, three k1 k2 k3, three m1 m2 m3, hb3, HT.out⟩
  rw [← hgb]
  clear hgb k0 r0 k1 k2 k3 m1 m2 m3 hb3 HI HB HI2 HB2 HNt HI3 HB3 HBT HN3 HZ HZ1 HZ2 HZ3 HL1 HR HC HT HN
  have HV := Lib.hid hv
  clear hv
  obtain ⟨z0, z1, z2, z3, z4, y0, y1, y2, y3, y4, y5⟩ := HV.out.cells
  unfold acts
  simp only [Act.put, List.setIfInBounds_toArray, List.set_cons_zero, List.set_cons_succ]
  have hcase : (chk 10 t (v 0) = 0 ∧ chk 10 t (v 1) = 0 ∧ chk 10 t (v 2) = 0) ∨ ∃ r0 r1 r2 : Int, chk 10 t (v 0) = r0 ∧ chk 10 t (v 1) = r1 ∧ chk 10 t (v 2) = r2 ∧ ((r0 != 0) = true ∨ (r0 = 0 ∧ (r1 != 0) = true) ∨ (r0 = 0 ∧ r1 = 0 ∧ (r2 != 0) = true)) := by
    by_cases d0 : chk 10 t (v 0) = 0
    · by_cases d1 : chk 10 t (v 1) = 0
      · by_cases d2 : chk 10 t (v 2) = 0
        · exact .inl ⟨d0, d1, d2⟩
        · exact .inr ⟨_, _, _, rfl, rfl, rfl, .inr (.inr ⟨d0, d1, by simp [d2]⟩)⟩
      · exact .inr ⟨_, _, _, rfl, rfl, rfl, .inr (.inl ⟨d0, by simp [d1]⟩)⟩
    · exact .inr ⟨_, _, _, rfl, rfl, rfl, .inl (by simp [d0])⟩
  rcases hcase with ⟨e0, e1, e2⟩ | ⟨r0, r1, r2, e0, e1, e2, hc⟩
  · obtain ⟨x, y, z, u, x01, x10, x12, x02, hxy, hx, htr, hz, hu, r, s, q, hs, s0, s1, hr, hq⟩ := XL HO.out e0 e1 e2
    have E0 := Lib.hid e0
    have E1 := Lib.hid e1
    have E2 := Lib.hid e2
    have X01 := Lib.hid x01
    have X10 := Lib.hid x10
    have X12 := Lib.hid x12
    have X02 := Lib.hid x02
    have S0 := Lib.hid s0
    have S1 := Lib.hid s1
    clear e0 e1 e2 x01 x10 x12 x02 s0 s1
    have hy : y = -x := by omega
    have hcs : (x = 1 ∧ y = -1 ∧ r = false) ∨ (x = -1 ∧ y = 1 ∧ r = false ∧ z = 1) ∨ (x = -1 ∧ y = 1 ∧ r = false ∧ z ≤ 0 ∧ u ≤ 0) ∨ (x = 0 ∧ y = 0 ∧ r = true ∧ z = 1) ∨ (x = 0 ∧ y = 0 ∧ r = true ∧ z ≤ 0 ∧ u ≤ 0) := by
      rcases hx with rfl | rfl | rfl
      · by_cases h : z = 1
        · exact .inr (.inl ⟨rfl, by omega, hr, h⟩)
        · exact .inr (.inr (.inl ⟨rfl, by omega, hr, by omega, htr (by omega) (by omega)⟩))
      · by_cases h : z = 1
        · exact .inr (.inr (.inr (.inl ⟨rfl, by omega, hr, h⟩)))
        · exact .inr (.inr (.inr (.inr ⟨rfl, by omega, hr, by omega, htr (by omega) (by omega)⟩)))
      · exact .inl ⟨rfl, by omega, hr⟩
    rw [← hr] at hs
    have R := Lib.hid hs
    clear hxy hx htr hs hr hy hz hu
    rcases hcs with ⟨rfl, rfl, rfl⟩ | ⟨rfl, rfl, rfl, rfl⟩ | ⟨rfl, rfl, rfl, hz, hu⟩ | ⟨rfl, rfl, rfl, rfl⟩ | ⟨rfl, rfl, rfl, hz, hu⟩
    all_goals
      go_wp2_with (first | (go_at_call 29; (with_reducible refine (HV.out.check HO.out 0 (by omega) E0.out).mono ?_); rintro e w4 ⟨rfl, hv⟩; clear HV z0 z1 z2 z3 z4 y0 y1 y2 y3 y4 y5; have HV := Lib.hid hv; clear hv; obtain ⟨z0, z1, z2, z3, z4, y0, y1, y2, y3, y4, y5⟩ := HV.out.cells) | (go_at_call 29; (with_reducible refine (HV.out.check HO.out 1 (by omega) E1.out).mono ?_); rintro e w4 ⟨rfl, hv⟩; clear HV z0 z1 z2 z3 z4 y0 y1 y2 y3 y4 y5; have HV := Lib.hid hv; clear hv; obtain ⟨z0, z1, z2, z3, z4, y0, y1, y2, y3, y4, y5⟩ := HV.out.cells) | (go_at_call 29; (with_reducible refine (HV.out.check HO.out 2 (by omega) E2.out).mono ?_); rintro e w4 ⟨rfl, hv⟩; clear HV z0 z1 z2 z3 z4 y0 y1 y2 y3 y4 y5; have HV := Lib.hid hv; clear hv; obtain ⟨z0, z1, z2, z3, z4, y0, y1, y2, y3, y4, y5⟩ := HV.out.cells) | (go_at_call 31; (with_reducible refine (HV.out.compare HO.out 0 1 (by omega) (by omega) E0.out E1.out X01.out).mono ?_); rintro e w4 ⟨rfl, hv⟩; clear HV z0 z1 z2 z3 z4 y0 y1 y2 y3 y4 y5; have HV := Lib.hid hv; clear hv; obtain ⟨z0, z1, z2, z3, z4, y0, y1, y2, y3, y4, y5⟩ := HV.out.cells) | (go_at_call 31; (with_reducible refine (HV.out.compare HO.out 1 0 (by omega) (by omega) E1.out E0.out X10.out).mono ?_); rintro e w4 ⟨rfl, hv⟩; clear HV z0 z1 z2 z3 z4 y0 y1 y2 y3 y4 y5; have HV := Lib.hid hv; clear hv; obtain ⟨z0, z1, z2, z3, z4, y0, y1, y2, y3, y4, y5⟩ := HV.out.cells) | (go_at_call 31; (with_reducible refine (HV.out.compare HO.out 1 2 (by omega) (by omega) E1.out E2.out X12.out).mono ?_); rintro e w4 ⟨rfl, hv⟩; clear HV z0 z1 z2 z3 z4 y0 y1 y2 y3 y4 y5; have HV := Lib.hid hv; clear hv; obtain ⟨z0, z1, z2, z3, z4, y0, y1, y2, y3, y4, y5⟩ := HV.out.cells) | (go_at_call 31; (with_reducible refine (HV.out.compare HO.out 0 2 (by omega) (by omega) E0.out E2.out X02.out).mono ?_); rintro e w4 ⟨rfl, hv⟩; clear HV z0 z1 z2 z3 z4 y0 y1 y2 y3 y4 y5; have HV := Lib.hid hv; clear hv; obtain ⟨z0, z1, z2, z3, z4, y0, y1, y2, y3, y4, y5⟩ := HV.out.cells) | (go_at_call 32; (with_reducible refine (HV.out.format HO.out 0 (by omega) E0.out S0.out).mono ?_); rintro e w4 ⟨rfl, hv⟩; clear HV z0 z1 z2 z3 z4 y0 y1 y2 y3 y4 y5; have HV := Lib.hid hv; clear hv; obtain ⟨z0, z1, z2, z3, z4, y0, y1, y2, y3, y4, y5⟩ := HV.out.cells) | (go_at_call 32; (with_reducible refine (HV.out.format HO.out 1 (by omega) E1.out S1.out).mono ?_); rintro e w4 ⟨rfl, hv⟩; clear HV z0 z1 z2 z3 z4 y0 y1 y2 y3 y4 y5; have HV := Lib.hid hv; clear hv; obtain ⟨z0, z1, z2, z3, z4, y0, y1, y2, y3, y4, y5⟩ := HV.out.cells) | (go_at_call 33; (with_reducible refine (HV.out.same R.out).mono ?_); rintro e w4 ⟨rfl, hv⟩; clear HV z0 z1 z2 z3 z4 y0 y1 y2 y3 y4 y5; have HV := Lib.hid hv; clear hv; obtain ⟨z0, z1, z2, z3, z4, y0, y1, y2, y3, y4, y5⟩ := HV.out.cells) | (go_at_call 30; refine (HV.out.awake HO.out).mono ?_; rintro e w4 ⟨rfl, hv⟩; clear HV z0 z1 z2 z3 z4 y0 y1 y2 y3 y4 y5; have HV := Lib.hid hv; clear hv; obtain ⟨z0, z1, z2, z3, z4, y0, y1, y2, y3, y4, y5⟩ := HV.out.cells))
      go_ret
      exact ⟨rfl, HV.out.bl⟩
  · have E0 := Lib.hid e0
    have E1 := Lib.hid e1
    have E2 := Lib.hid e2
    clear e0 e1 e2
    rcases hc with h0 | ⟨rfl, h0⟩ | ⟨rfl, rfl, h0⟩
    all_goals
      go_wp2_with (first | (go_at_call 29; (with_reducible refine (HV.out.check HO.out 0 (by omega) E0.out).mono ?_); rintro e w4 ⟨rfl, hv⟩; clear HV z0 z1 z2 z3 z4 y0 y1 y2 y3 y4 y5; have HV := Lib.hid hv; clear hv; obtain ⟨z0, z1, z2, z3, z4, y0, y1, y2, y3, y4, y5⟩ := HV.out.cells) | (go_at_call 29; (with_reducible refine (HV.out.check HO.out 1 (by omega) E1.out).mono ?_); rintro e w4 ⟨rfl, hv⟩; clear HV z0 z1 z2 z3 z4 y0 y1 y2 y3 y4 y5; have HV := Lib.hid hv; clear hv; obtain ⟨z0, z1, z2, z3, z4, y0, y1, y2, y3, y4, y5⟩ := HV.out.cells) | (go_at_call 29; (with_reducible refine (HV.out.check HO.out 2 (by omega) E2.out).mono ?_); rintro e w4 ⟨rfl, hv⟩; clear HV z0 z1 z2 z3 z4 y0 y1 y2 y3 y4 y5; have HV := Lib.hid hv; clear hv; obtain ⟨z0, z1, z2, z3, z4, y0, y1, y2, y3, y4, y5⟩ := HV.out.cells) | (go_at_call 30; refine (HV.out.awake HO.out).mono ?_; rintro e w4 ⟨rfl, hv⟩; clear HV z0 z1 z2 z3 z4 y0 y1 y2 y3 y4 y5; have HV := Lib.hid hv; clear hv; obtain ⟨z0, z1, z2, z3, z4, y0, y1, y2, y3, y4, y5⟩ := HV.out.cells))
      go_ret
      exact ⟨rfl, HV.out.bl⟩
theorem XM (a0 : Option Addr) (len0 cap0 : Nat) (z0 : List Int) (w : World) (htab : sj w.heap.size w) (w0 : (a0 = none ∧ len0 = 0 ∧ cap0 = 0 ∧ z0 = []) ∨ ∃ x, a0 = some x ∧ len0 ≤ cap0 ∧ cap0 ≤ maxLen ∧ z0.length = cap0 ∧ (∀ i, i < z0.length → w.cell? (x.add i) = some (.int .i64 (z0.getD i 0))) ∧ ∀ n ∈ z0, (Lit.int .i64 n).wf = true) (y0 : len0 * 8 ≤ 140737488351232) :
    Calls Tryd.prog 9 #[.slice a0 len0 cap0] w fun e w' => e = .returned (.bool true) ∧ Below w.heap.size w w' := by
  obtain ⟨l0, rfl, hr0, hm0, hw0, hc0⟩ := jg.ofRowC w0
  exact UF l0 _ _ w (Kd.Ol (d := (0 : Int)) (h1 := fun _ => rfl) hr0) hc0 htab
end Go.Proofs.YtggelekooacmnaaDoor.Q
namespace Go.Proofs.YtggelekooacmnaaDoorW.bg
open Go.ChangeShapes Go.WideShapes
theorem XN {H : Type} {enc : TypeId × Value → H} {P : Program} {W : World} {base : Nat} {spare : Nat → Bool} {held : Bool} {t e : TypeId} {k : IntKind} {a : Option Addr} {len cap : Nat} {d : DataW H} {ps : List MemPlace} {ts : List TypeId} {ds : List (DataW H)} {j : Nat}
    (hsz : (DataW.weightsEach P ts ds).all (· ≤ reachBytes) = true) (ht : ts[j]? = some t) (hd : ds[j]? = some d) (hu : P.underlying t = some (.slice e)) (he : P.underlying e = some (.int k)) (hc : P.cellsOf e = 1) {B : Nat} (hB : P.bytesOf e = B)
    (h : DataW.Trod enc P W base spare held t (.slice a len cap) d ps) : len * B ≤ 140737488351232 := by
  obtain ⟨fuel, hf⟩ := h
  rcases open_ints hu he hc hf with ⟨hcs, _⟩ | ⟨x, l, c, zs, hcs, _, hl, _, hz, hx, _, _⟩
  · simp [Value.cells] at hcs
    obtain ⟨rfl, rfl, rfl⟩ := hcs
    simp
  · simp [Value.cells] at hcs
    obtain ⟨rfl, rfl, rfl⟩ := hcs
    obtain ⟨hx, _⟩ := Prod.mk.inj hx
    subst hx
    have z := sized_slice hsz ht hd hu
    rw [hB] at z
    have hl2 : len ≤ zs.length := by
      rw [hz]
      split
      · exact hl
      · exact Nat.le_refl _
    have h1 : (lits (H := H) k (zs.take len)).length + (lits (H := H) k (zs.drop len)).length = zs.length := by
      simp [lits]
      omega
    rw [h1] at z
    exact Nat.le_trans (Nat.mul_le_mul_right _ hl2) z
end Go.Proofs.YtggelekooacmnaaDoorW.bg
