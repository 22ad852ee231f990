import Derived.Test.YtggelekooacmnaaDoorU7
import Derived.Test.YtggelekooacmnaaDoorC11
set_option linter.unusedVariables false
set_option linter.unusedSimpArgs false
namespace Go.Proofs.YtggelekooacmnaaDoor.Pure
open Go.RowKit Go.Proofs.YtggelekooacmnaaDoor.R Go.Proofs.YtggelekooacmnaaDoorW.PrintWords Go.Proofs.YtggelekooacmnaaDoorW.PrintLast
theorem awake_ev : Ev (fun k => exactppllaw06_awake.f k) true := by
  have h : exactppllaw06_awake.f 40 = some true := by kernel_rfl
  refine ⟨40, fun k hk => ?_⟩
  obtain ⟨j, rfl⟩ : ∃ j, k = 40 + j := ⟨k - 40, by omega⟩
  clear hk
  induction j with
  | zero => exact h
  | succ j ih => exact exactppllaw06_awake.mono (40 + j) true ih
theorem gt1 {t : S24} (h : Gt 1 t) : t = ⟨1, 0, 0, 0, []⟩ ∨ ∃ lo hi : Int, t = ⟨2, lo, hi, 0, []⟩ ∧ -2 ≤ lo ∧ lo ≤ hi ∧ hi ≤ lo + 3 ∧ lo ≤ 3 := by
  cases h with
  | bool => exact .inl rfl
  | int _ lo hi h1 h2 h3 h4 => exact .inr ⟨lo, hi, rfl, h1, h2, h3, h4⟩
  | tup _ l h1 h2 h3 =>
    match l, h1, h3 with
    | x :: _, _, h3 => cases h3 x List.mem_cons_self
  | lst _ m x h1 h2 h3 h4 h5 => omega
theorem prt_up (n : Nat) : ∀ {t : S24}, Vt n t → prt (n + 1) t = prt n t := by
  induction n with
  | zero => intro t h; cases h
  | succ n ih =>
    intro t h
    cases h with
    | bool => simp [prt]
    | int _ lo hi h1 h2 h3 => simp [prt]
    | nat => simp [prt]
    | real => simp [prt]
    | tup _ l h1 h2 h3 h4 =>
      rw [prt5, prt5]
      congr 1
      exact List.map_congr_left (fun x hx => ih (h3 x hx))
    | lst _ m x h1 h2 h3 h4 => rw [prt6, prt6, ih h3]
theorem Cells_ok {t : S24} (hv : Vt 10 t) (hl : (prt 10 t).length ≤ 24) : Ev (at_ types_Cells.f t) (prt 10 t, 0) := by
  obtain ⟨K1, e1⟩ := validate_ok hv hl
  obtain ⟨K2, e2⟩ := cells_ev 10 (by omega) hv
  unfold at_ at e1 e2
  refine ⟨K1 + K2, fun k hk => ?_⟩
  simp only [at_, types_Cells.f]
  rw [e1 k (by omega), Option.bind_some, if_pos rfl, e2 k (by omega), Option.bind_some]
theorem same_l0 (l : List S41) (hl : l.length ≤ 1000) : ∀ (d i : Nat), i + d = l.length → Ev (fun k => exactppllaw06_sameCells.l0 k l l i) true := by
  intro d
  induction d with
  | zero =>
    intro i hi
    refine ⟨1, fun k hk => ?_⟩
    obtain ⟨k, rfl⟩ : ∃ j, k = j + 1 := ⟨k - 1, by omega⟩
    simp only [exactppllaw06_sameCells.l0]
    rw [if_neg (by omega)]
  | succ d IH =>
    intro i hi
    obtain ⟨K, e⟩ := IH (i + 1) (by omega)
    refine ⟨K + 1, fun k hk => ?_⟩
    obtain ⟨k, rfl⟩ : ∃ j, k = j + 1 := ⟨k - 1, by omega⟩
    have e' := e k (by omega)
    dsimp only at e'
    simp only [exactppllaw06_sameCells.l0]
    rw [if_pos (by omega), if_pos (by omega), if_pos (by omega), if_neg (by simp), wrap_nat (by omega), e']
theorem same_ev (l : List S41) (hl : l.length ≤ 1000) : Ev (fun k => exactppllaw06_sameCells.f k l l) true := by
  obtain ⟨K, e⟩ := same_l0 l hl l.length 0 (by omega)
  refine ⟨K, fun k hk => ?_⟩
  have e' := e k hk
  dsimp only at e' ⊢
  simp only [exactppllaw06_sameCells.f]
  rw [if_pos trivial]
  exact e'
theorem widths_j0 {L1 L2 : List S41} (h1 : L1.length ≤ 3) (h2 : L2.length ≤ 3) {k : Nat} (eS' : exactppllaw06_sameCells.f k (L1 ++ L2) (L1 ++ L2) = some true) (e0' : exactppllaw06_awake.f k = some true) :
    exactppllaw06_TypesWidths.j0 (k + 1) L1 L2 (L1 ++ L2) 0 false = some true := by
  have hw : wrap64 ((L1.length : Int) + (L2.length : Int)) = (L1.length : Int) + (L2.length : Int) := wrap_in (by omega) (by omega)
  have g1 : L1.length < 5864062014805 := by omega
  have g2 : L1.length + L2.length < 5864062014805 := by omega
  simp only [exactppllaw06_TypesWidths.j0]
  rw [if_neg (by decide), hw, if_neg (by omega)]
  simp only [if_true, List.nil_append, List.length_nil, Nat.zero_add]
  rw [if_pos g1, Option.bind_some]
  rw [if_pos g2, eS', Option.bind_some]
  simp only [if_true]
  rw [e0', Option.bind_some]
theorem TypesWidths : exactppllaw06_TypesWidths.Pure := by
  intro l hl _ _
  obtain ⟨eN, r0⟩ := New_ok l
  obtain ⟨t1, p1, ⟨K1, e1⟩, g1, r1⟩ := Type_ev 2 (s := 0) (by omega) (by omega) r0
  obtain ⟨t2, p2, ⟨K2, e2⟩, g2, r2⟩ := Type_ev 2 (s := 0) (by omega) (by omega) r1
  obtain ⟨t3, p3, ⟨K3, e3⟩, g3, r3⟩ := Type_ev 1 (s := 0) (by omega) (by omega) r2
  obtain ⟨m, p4, e4, r4, m1, m2⟩ := Range_ok (s := 0) (lo := 1) (hi := 4) r3 (by omega) (by omega) (by omega)
  have v1 : Vt 9 t1 := Vt.mono (by omega) g1.vt
  have v2 : Vt 9 t2 := Vt.mono (by omega) g2.vt
  have v3 : Vt 9 t3 := Vt.mono (by omega) g3.vt
  have i1 : prt 10 t1 = prt 9 t1 := prt_up 9 v1
  have i2 : prt 10 t2 = prt 9 t2 := prt_up 9 v2
  have q1 := g1.prt_len (n := 9) (by omega)
  have q2 := g2.prt_len (n := 9) (by omega)
  have q3 := g3.prt_len (n := 9) (by omega)
  have k3 : t3.f0 = 1 ∨ t3.f0 = 2 := by rcases gt1 g3 with h | ⟨lo, hi, h, _⟩ <;> rw [h] <;> simp
  obtain ⟨c, c9, c10⟩ : ∃ c : S41, prt 9 t3 = [c] ∧ prt 10 t3 = [c] := by
    rcases gt1 g3 with h | ⟨lo, hi, h, _⟩
    · exact ⟨⟨1, 0, 1⟩, by rw [h]; simp [prt], by rw [h]; simp [prt]⟩
    · exact ⟨⟨2, lo, hi⟩, by rw [h]; simp [prt], by rw [h]; simp [prt]⟩
  have vp : Vt 10 (⟨5, 0, 0, 0, [t1, t2]⟩ : S24) := .tup _ _ (by simp) (by simp) (by intro x hx; simp at hx; rcases hx with hx | hx <;> rw [hx] <;> assumption)
    (by intro x hx; simp at hx; rcases hx with hx | hx <;> rw [hx]; exact ⟨g1.kind.1, g1.kind.2.1⟩; exact ⟨g2.kind.1, g2.kind.2.1⟩)
  have vl : Vt 10 (⟨6, 0, 0, m, [t3]⟩ : S24) := .lst _ _ _ m1 m2 v3 k3
  have pp : prt 10 (⟨5, 0, 0, 0, [t1, t2]⟩ : S24) = prt 9 t1 ++ prt 9 t2 := by rw [prt5]; simp
  have pl : prt 10 (⟨6, 0, 0, m, [t3]⟩ : S24) = ⟨2, 0, m⟩ :: List.replicate m.toNat c := by rw [prt6, c9]; simp
  obtain ⟨L1, f1⟩ : ∃ L, L = prt 9 t1 := ⟨_, rfl⟩
  obtain ⟨L2, f2⟩ : ∃ L, L = prt 9 t2 := ⟨_, rfl⟩
  rw [← f1] at q1 i1 pp
  rw [← f2] at q2 i2 pp
  simp at q1 q2
  obtain ⟨K5, e5⟩ := Cells_ok (t := t1) (Vt.mono (by omega) v1) (by rw [i1]; omega)
  obtain ⟨K6, e6⟩ := Cells_ok (t := t2) (Vt.mono (by omega) v2) (by rw [i2]; omega)
  obtain ⟨K7, e7⟩ := Cells_ok (t := t3) (Vt.mono (by omega) v3) (by rw [c10]; simp)
  obtain ⟨K8, e8⟩ := Cells_ok vp (by rw [pp, List.length_append]; omega)
  obtain ⟨K9, e9⟩ := Cells_ok vl (by rw [pl, List.length_cons, List.length_replicate]; omega)
  obtain ⟨KS, eS⟩ := same_ev (L1 ++ L2) (by rw [List.length_append]; omega)
  obtain ⟨K0, e0⟩ := awake_ev
  rw [i1] at e5
  rw [i2] at e6
  rw [c10] at e7
  rw [pp] at e8
  rw [pl] at e9
  unfold at_ at e5 e6 e7 e8 e9
  dsimp only at e0 e1 e2 e3 eS
  obtain ⟨k, hk⟩ : ∃ k, k = K0 + K1 + K2 + K3 + K5 + K6 + K7 + K8 + K9 + KS := ⟨_, rfl⟩
  refine ⟨k + 1, ?_⟩
  have e1' := e1 (k + 1) (by omega)
  have e2' := e2 (k + 1) (by omega)
  have e3' := e3 (k + 1) (by omega)
  have e5' := e5 (k + 1) (by omega)
  have e6' := e6 (k + 1) (by omega)
  have e7' := e7 (k + 1) (by omega)
  have e8' := e8 (k + 1) (by omega)
  have e9' := e9 (k + 1) (by omega)
  have eS' := eS k (by omega)
  have e0' := e0 k (by omega)
  simp only [Int.natCast_one, Int.cast_ofNat_Int] at e1' e2' e3'
  have hj := widths_j0 q1 q2 eS' e0'
  have r9 : ∀ (b : Bool), rd_T41 (⟨2, 0, m⟩ :: List.replicate m.toNat c) 0 = ⟨2, 0, m⟩ ∧ rd_T41 (⟨2, 0, m⟩ :: List.replicate m.toNat c) m = c ∧ rd_T41 [c] 0 = c := by
    intro b
    obtain rfl | rfl | rfl | rfl : m = 1 ∨ m = 2 ∨ m = 3 ∨ m = 4 := by omega
    all_goals exact ⟨rfl, rfl, rfl⟩
  obtain ⟨ra, rb, rc⟩ := r9 true
  have hlen : (((⟨2, 0, m⟩ : S41) :: List.replicate m.toNat c).length : Int) = m + 1 := by rw [List.length_cons, List.length_replicate]; omega
  have hwm : wrap64 (m + 1) = m + 1 := wrap_in (by omega) (by omega)
  simp only [exactppllaw06_TypesWidths.f]
  rw [eN, Option.bind_some, e1', Option.bind_some]
  dsimp only
  rw [e2', Option.bind_some]
  dsimp only
  rw [e3', Option.bind_some]
  dsimp only
  rw [e5', Option.bind_some, e6', Option.bind_some, e7', Option.bind_some]
  simp only [eta_s]
  rw [e8', Option.bind_some, e4, Option.bind_some]
  dsimp only
  rw [e9', Option.bind_some]
  dsimp only
  simp only [if_true]
  rw [if_pos (by simp), if_pos (by rw [hlen, hwm]), if_pos (by rw [hlen]; omega), ra, if_neg (by simp), if_pos (by omega), if_pos (by rw [hlen]; omega), if_pos (by simp), rb, rc]
  simp only [beq_self_eq_true, Bool.not_true, Bool.or_false]
  exact hj

end Go.Proofs.YtggelekooacmnaaDoor.Pure
