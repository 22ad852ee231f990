import Derived.Test.YtggelekooacmnaaDoorU8
import Derived.Test.YtggelekooacmnaaDoorC10
set_option linter.unusedVariables false
set_option linter.unusedSimpArgs false
namespace Go.Proofs.YtggelekooacmnaaDoor.Pure
open Go.RowKit Go.Proofs.YtggelekooacmnaaDoor.R Go.Proofs.YtggelekooacmnaaDoorW.PrintWords Go.Proofs.YtggelekooacmnaaDoorW.PrintLast
theorem awake_ev : Ev (fun k => exactppllaw06_awake.f k) true := by
  have h : exactppllaw06_awake.f 40 = some true := by kernel_rfl
  refine ⟨40, fun k hk => ?_⟩
  obtain ⟨j, rfl⟩ : ∃ j, k = 40 + j := ⟨k - 40, by omega⟩
  clear hk
  induction j with
  | zero => exact h
  | succ j ih => exact exactppllaw06_awake.mono (40 + j) true ih
theorem law_l0 {a m x y : Int} (ha : a = 1 ∨ a = 2 ∨ a = 3 ∨ a = 4) (hm : m = 1 ∨ m = 2 ∨ m = 3 ∨ m = 4) (hx : x = 1 ∨ x = 2 ∨ x = 3 ∨ x = 4) (hy : 1 ≤ y ∧ y ≤ 100) (k : Nat) (haw : ∀ j, k ≤ j → exactppllaw06_awake.f j = some true) :
    exactppllaw06_TypesSizes.l0 (k + 5) x y a (x * y) m (gs a m) 1 1 0 = some true := by
  have e : wrap64 (x * y) = x * y := by rcases hx with rfl | rfl | rfl | rfl <;> (rw [wrap_in (by omega) (by omega)])
  have hs : ∀ (j : Nat) (S P i : Int), m ≤ i → gs a m = S → k ≤ j → exactppllaw06_TypesSizes.l0 (j + 1) x y a (x * y) m (gs a m) S P i = some true := by
    intro j S P i hi hS hj
    simp only [exactppllaw06_TypesSizes.l0]
    rw [if_neg (by omega), e, if_pos rfl, if_pos hS, haw j hj, Option.bind_some]
  have st : ∀ (j : Nat) (S P i S' P' i' : Int), i < m → wrap64 (S + wrap64 (P * a)) = S' → wrap64 (P * a) = P' → wrap64 (i + 1) = i' →
      exactppllaw06_TypesSizes.l0 (j + 1) x y a (x * y) m (gs a m) S P i = exactppllaw06_TypesSizes.l0 j x y a (x * y) m (gs a m) S' P' i' := by
    intro j S P i S' P' i' hi h1 h2 h3
    simp only [exactppllaw06_TypesSizes.l0]
    rw [if_pos hi, h1, h2, h3]
  have wl : ∀ n : Int, -1000000 ≤ n → n ≤ 1000000 → wrap64 n = n := fun n h1 h2 => wrap_in (by omega) (by omega)
  rcases hm with rfl | rfl | rfl | rfl
  · rw [st (k + 4) 1 1 0 (1 + a) a 1 (by omega) (by rw [wl (1 * a) (by omega) (by omega), wl _ (by omega) (by omega)]; omega) (by rw [wl _ (by omega) (by omega)]; omega) (wl _ (by omega) (by omega))]
    exact hs _ _ _ _ (by omega) (by simp [gs]) (by omega)
  · rw [st (k + 4) 1 1 0 (1 + a) a 1 (by omega) (by rw [wl (1 * a) (by omega) (by omega), wl _ (by omega) (by omega)]; omega) (by rw [wl _ (by omega) (by omega)]; omega) (wl _ (by omega) (by omega))]
    rcases ha with rfl | rfl | rfl | rfl
    all_goals (rw [st (k + 3) _ _ 1 _ _ 2 (by omega) rfl rfl (wl _ (by omega) (by omega))]; exact hs _ _ _ _ (by omega) (by kernel_rfl) (by omega))
  · rw [st (k + 4) 1 1 0 (1 + a) a 1 (by omega) (by rw [wl (1 * a) (by omega) (by omega), wl _ (by omega) (by omega)]; omega) (by rw [wl _ (by omega) (by omega)]; omega) (wl _ (by omega) (by omega))]
    rcases ha with rfl | rfl | rfl | rfl
    all_goals (rw [st (k + 3) _ _ 1 _ _ 2 (by omega) rfl rfl (wl _ (by omega) (by omega)), st (k + 2) _ _ 2 _ _ 3 (by omega) rfl rfl (wl _ (by omega) (by omega))]; exact hs _ _ _ _ (by omega) (by kernel_rfl) (by omega))
  · rw [st (k + 4) 1 1 0 (1 + a) a 1 (by omega) (by rw [wl (1 * a) (by omega) (by omega), wl _ (by omega) (by omega)]; omega) (by rw [wl _ (by omega) (by omega)]; omega) (wl _ (by omega) (by omega))]
    rcases ha with rfl | rfl | rfl | rfl
    all_goals (rw [st (k + 3) _ _ 1 _ _ 2 (by omega) rfl rfl (wl _ (by omega) (by omega)), st (k + 2) _ _ 2 _ _ 3 (by omega) rfl rfl (wl _ (by omega) (by omega)), st (k + 1) _ _ 3 _ _ 4 (by omega) rfl rfl (wl _ (by omega) (by omega))]; exact hs _ _ _ _ (by omega) (by kernel_rfl) (by omega))
theorem TypesSizes : exactppllaw06_TypesSizes.Pure := by
  intro l hl _ _
  obtain ⟨eN, r0⟩ := New_ok l
  obtain ⟨t1, p1, ⟨K1, e1⟩, g1, r1⟩ := Type_ev 1 (s := 0) (by omega) (by omega) r0
  obtain ⟨t2, p2, ⟨K2, e2⟩, g2, r2⟩ := Type_ev 2 (s := 0) (by omega) (by omega) r1
  obtain ⟨t3, p3, ⟨K3, e3⟩, g3, r3⟩ := Type_ev 1 (s := 0) (by omega) (by omega) r2
  obtain ⟨m, p4, e4, r4, m1, m2⟩ := Range_ok (s := 0) (lo := 1) (hi := 4) r3 (by omega) (by omega) (by omega)
  obtain ⟨z1, hz1, s1⟩ := size_one g1
  obtain ⟨z2, hz2, hz2', s2⟩ := size_gt2 g2
  obtain ⟨z3, hz3, s3⟩ := size_one g3
  have hm : m = 1 ∨ m = 2 ∨ m = 3 ∨ m = 4 := by omega
  have b3 := gs_bd hz3 hm
  have v1 : Vt 9 t1 := Vt.mono (by omega) g1.vt
  have v2 : Vt 9 t2 := Vt.mono (by omega) g2.vt
  have v3 : Vt 9 t3 := Vt.mono (by omega) g3.vt
  have q1 := g1.prt_len (n := 9) (by omega)
  have q2 := g2.prt_len (n := 9) (by omega)
  have q3 := g3.prt_len (n := 9) (by omega)
  have u1 := g1.prt_len (n := 10) (by omega)
  have u2 := g2.prt_len (n := 10) (by omega)
  have u3 := g3.prt_len (n := 10) (by omega)
  have k3 : t3.f0 = 1 ∨ t3.f0 = 2 := by rcases gt1 g3 with rfl | ⟨lo, hi, rfl, _⟩ <;> simp
  have vp : Vt 10 (⟨5, 0, 0, 0, [t1, t2]⟩ : S24) := .tup _ _ (by simp) (by simp) (by intro x hx; simp at hx; rcases hx with hx | hx <;> rw [hx] <;> assumption)
    (by intro x hx; simp at hx; rcases hx with hx | hx <;> rw [hx]; exact ⟨g1.kind.1, g1.kind.2.1⟩; exact ⟨g2.kind.1, g2.kind.2.1⟩)
  have vl : Vt 10 (⟨6, 0, 0, m, [t3]⟩ : S24) := .lst _ _ _ m1 m2 v3 k3
  have lp : (prt 10 (⟨5, 0, 0, 0, [t1, t2]⟩ : S24)).length ≤ 24 := by
    rw [prt5]; simp only [List.map_cons, List.map_nil, List.flatten_cons, List.flatten_nil, List.length_append, List.length_nil]; simp at q1 q2; omega
  have ll : (prt 10 (⟨6, 0, 0, m, [t3]⟩ : S24)).length ≤ 24 := by
    rw [prt6, List.length_cons, rep_len, sc_len v3 k3]; omega
  obtain ⟨K5, e5⟩ := Size_ok (t := t1) (Vt.mono (by omega) v1) (by simp at u1; omega) g1.kind.1 g1.kind.2.1 (by omega) s1
  obtain ⟨K6, e6⟩ := Size_ok (t := t2) (Vt.mono (by omega) v2) (by simp at u2; omega) g2.kind.1 g2.kind.2.1 (by omega) s2
  obtain ⟨K7, e7⟩ := Size_ok (t := t3) (Vt.mono (by omega) v3) (by simp at u3; omega) g3.kind.1 g3.kind.2.1 (by omega) s3
  obtain ⟨K8, e8⟩ := Size_ok vp lp (by simp) (by simp) (by rcases hz1 with rfl | rfl | rfl | rfl <;> omega) (size_two hz1 hz2 hz2' s1 s2)
  obtain ⟨K9, e9⟩ := Size_ok vl ll (by simp) (by simp) b3.2.1 (size_lst hz3 hm s3)
  obtain ⟨K0, e0⟩ := awake_ev
  unfold at_ at e5 e6 e7 e8 e9
  dsimp only at e0 e1 e2 e3
  obtain ⟨k, hk⟩ : ∃ k, k = K0 + K1 + K2 + K3 + K5 + K6 + K7 + K8 + K9 + 10 := ⟨_, rfl⟩
  refine ⟨k, ?_⟩
  have e1' := e1 k (by omega)
  have e2' := e2 k (by omega)
  have e3' := e3 k (by omega)
  have e5' := e5 k (by omega)
  have e6' := e6 k (by omega)
  have e7' := e7 k (by omega)
  have e8' := e8 k (by omega)
  have e9' := e9 k (by omega)
  simp only [Int.natCast_one, Int.cast_ofNat_Int] at e1' e2' e3'
  have hfin := law_l0 hz3 hm hz1 ⟨hz2, hz2'⟩ (k - 6) (fun j hj => e0 j (by omega))
  simp only [exactppllaw06_TypesSizes.f]
  rw [eN, Option.bind_some, e1', Option.bind_some]
  dsimp only
  rw [e2', Option.bind_some]
  dsimp only
  rw [e3', Option.bind_some]
  dsimp only
  rw [e5', Option.bind_some, e6', Option.bind_some, e7', Option.bind_some]
  simp only [eta_s]
  rw [e8', Option.bind_some, e4, Option.bind_some]
  dsimp only
  rw [e9', Option.bind_some]
  dsimp only
  simp only [if_true, bne_self_eq_false]
  have hk2 : k = (k - 6 + 5) + 1 := by omega
  rw [hk2]
  simp only [exactppllaw06_TypesSizes.j0]
  rw [if_neg (by decide)]
  exact hfin

end Go.Proofs.YtggelekooacmnaaDoor.Pure
