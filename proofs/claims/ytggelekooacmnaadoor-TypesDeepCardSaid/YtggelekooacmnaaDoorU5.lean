import Derived.Test.YtggelekooacmnaaDoorU4
import Derived.Test.YtggelekooacmnaaDoorC13
set_option linter.unusedVariables false
set_option linter.unusedSimpArgs false
namespace Go.Proofs.YtggelekooacmnaaDoor.Pure
open Go.RowKit Go.Proofs.YtggelekooacmnaaDoor.R Go.Proofs.YtggelekooacmnaaDoorW.PrintWords Go.Proofs.YtggelekooacmnaaDoorW.PrintLast
-- the chains of TypesDeep
theorem eta_s (x : S24) : (⟨x.f0, x.f1, x.f2, x.f3, x.f4⟩ : S24) = x := by cases x; rfl
def chn : Nat → S24
  | 0 => ⟨1, 0, 0, 0, []⟩
  | n + 1 => ⟨5, 0, 0, 0, [⟨1, 0, 0, 0, []⟩, chn n]⟩
theorem chn_k0 (n : Nat) : (chn n).f0 ≠ 3 ∧ (chn n).f0 ≠ 4 := by cases n <;> simp [chn]
theorem chn_vt (n : Nat) : Vt (n + 1) (chn n) := by
  induction n with
  | zero => exact .bool _
  | succ n ih =>
    refine .tup _ _ (by simp) (by simp) (fun x hx => ?_) (fun x hx => ?_)
    · simp at hx
      rcases hx with rfl | rfl
      · exact .bool _
      · exact ih
    · simp at hx
      rcases hx with rfl | rfl
      · simp
      · exact chn_k0 n
theorem chn_dep (n : Nat) : ∀ m, n + 1 ≤ m → dep m (chn n) = n + 1 := by
  induction n with
  | zero =>
    intro m hm
    obtain ⟨m, rfl⟩ : ∃ j, m = j + 1 := ⟨m - 1, by omega⟩
    simp [chn, dep, mxl]
  | succ n ih =>
    intro m hm
    obtain ⟨m, rfl⟩ : ∃ j, m = j + 1 := ⟨m - 1, by omega⟩
    have h1 := ih m (by omega)
    have h2 : dep m (⟨1, 0, 0, 0, []⟩ : S24) = 1 := by
      obtain ⟨m, rfl⟩ : ∃ j, m = j + 1 := ⟨m - 1, by omega⟩
      simp [dep, mxl]
    simp only [chn, dep, mxl, h1, h2, mx_eq]
    omega
theorem chn_len (n : Nat) : ∀ m, n + 1 ≤ m → (prt m (chn n)).length = n + 1 := by
  induction n with
  | zero =>
    intro m hm
    obtain ⟨m, rfl⟩ : ∃ j, m = j + 1 := ⟨m - 1, by omega⟩
    simp [chn, prt]
  | succ n ih =>
    intro m hm
    obtain ⟨m, rfl⟩ : ∃ j, m = j + 1 := ⟨m - 1, by omega⟩
    have h1 := ih m (by omega)
    have h2 : (prt m (⟨1, 0, 0, 0, []⟩ : S24)).length = 1 := by
      obtain ⟨m, rfl⟩ : ∃ j, m = j + 1 := ⟨m - 1, by omega⟩
      simp [prt]
    simp only [chn, prt5, List.map_cons, List.map_nil, List.flatten_cons, List.flatten_nil, List.length_append, h1, h2, List.length_nil]
    omega
/-- five of a chain, with a Low of five, of whatever kind -/
def bad5 (a : Int) (x : S24) : S24 := ⟨a, 5, 0, 0, [x, x, x, x, x]⟩
theorem bad5_bd (a : Int) (n : Nat) : Bd (n + 2) (bad5 a (chn n)) := by
  refine ⟨by simp [bad5], fun x hx => ?_⟩
  simp [bad5] at hx
  subst hx
  exact (chn_vt n).bd
theorem bad5_dep (a : Int) (n : Nat) : dep (n + 2) (bad5 a (chn n)) = n + 2 := by
  have h := chn_dep n (n + 1) (by omega)
  have e : dep (n + 2) (bad5 a (chn n)) = mxl (dep (n + 1)) [chn n, chn n, chn n, chn n, chn n] 0 + 1 := rfl
  rw [e]
  simp only [mxl, h, mx_eq]
  omega
theorem bad5_flt (a : Int) (n : Nat) : flt (n + 2) (bad5 a (chn n)) ≠ 0 := by
  intro h
  have hv := flt_vt (n + 2) (bad5_bd a n) h
  unfold bad5 at hv
  cases hv
/-- the last step of the loop -/
theorem deep_end (a1 : Int) (n d : Nat) (x6 : Int) (hx : x6 = d + 1) (hn : n = d) (hd : d ≤ 13) (a0 : Int) (hs : ¬ x6 < wrap64 (1 + wrap64 (Int.tmod a0 14))) (haw : Ev (fun k => exactppllaw06_awake.f k) true) :
    Ev (fun k => exactppllaw06_TypesDeep.l0 k a0 a1 x6 (chn n).f0 (chn n).f1 (chn n).f2 (chn n).f3 (chn n).f4) true := by
  subst hn hx
  obtain ⟨K3, e3⟩ := haw
  by_cases h10 : ((n : Int) + 1) > 10
  · obtain ⟨K1, e1⟩ := validate_deep (n := n + 1) (t := chn n) (by omega) (chn_vt n).bd (by rw [chn_dep n _ (Nat.le_refl _)]; omega)
    obtain ⟨K2, e2⟩ := validate_deep (n := n + 2) (t := bad5 a1 (chn n)) (by omega) (bad5_bd a1 n) (by rw [bad5_dep]; omega)
    unfold at_ at e1 e2
    refine ⟨K1 + K2 + K3 + 1, fun k hk => ?_⟩
    obtain ⟨k, rfl⟩ : ∃ j, k = j + 1 := ⟨k - 1, by omega⟩
    have e1' := e1 k (by omega)
    have e2' := e2 k (by omega)
    have e3' := e3 k (by omega)
    simp only [bad5] at e2'
    dsimp only at e3'
    simp only [exactppllaw06_TypesDeep.l0, eta_s]
    rw [if_neg hs, if_pos h10, e2', Option.bind_some, e1', Option.bind_some, if_pos rfl, if_neg (by omega), if_pos rfl, if_neg (by omega), e3', Option.bind_some]
  · have hv := validate_ok (t := chn n) (Vt.mono (by omega) (chn_vt n)) (by rw [chn_len n 10 (by omega)]; omega)
    obtain ⟨K1, e1⟩ := hv
    by_cases h9 : ((n : Int) + 1) < 10
    · obtain ⟨K2, e2⟩ := validate_flt (n := n + 2) (t := bad5 a1 (chn n)) (by omega) (bad5_bd a1 n) (by rw [bad5_dep]; omega) (bad5_flt a1 n)
      have hne := bad5_flt a1 n
      unfold at_ at e1 e2
      refine ⟨K1 + K2 + K3 + 1, fun k hk => ?_⟩
      obtain ⟨k, rfl⟩ : ∃ j, k = j + 1 := ⟨k - 1, by omega⟩
      have e1' := e1 k (by omega)
      have e2' := e2 k (by omega)
      have e3' := e3 k (by omega)
      generalize flt (n + 2) (bad5 a1 (chn n)) = q at e2' hne
      simp only [bad5] at e2'
      dsimp only at e3'
      simp only [exactppllaw06_TypesDeep.l0, eta_s]
      rw [if_neg hs, if_neg h10, e2', Option.bind_some, e1', Option.bind_some, if_pos rfl, if_pos h9, if_neg hne, e3', Option.bind_some]
    · obtain ⟨K2, e2⟩ := validate_deep (n := n + 2) (t := bad5 a1 (chn n)) (by omega) (bad5_bd a1 n) (by rw [bad5_dep]; omega)
      unfold at_ at e1 e2
      refine ⟨K1 + K2 + K3 + 1, fun k hk => ?_⟩
      obtain ⟨k, rfl⟩ : ∃ j, k = j + 1 := ⟨k - 1, by omega⟩
      have e1' := e1 k (by omega)
      have e2' := e2 k (by omega)
      have e3' := e3 k (by omega)
      simp only [bad5] at e2'
      dsimp only at e3'
      simp only [exactppllaw06_TypesDeep.l0, eta_s]
      rw [if_neg hs, if_neg h10, e2', Option.bind_some, e1', Option.bind_some, if_pos rfl, if_neg h9, if_pos rfl, if_neg (by omega), e3', Option.bind_some]
theorem deep_go (a0 a1 : Int) (D : Nat) (hD : wrap64 (1 + wrap64 (Int.tmod a0 14)) = D + 1) (h13 : D ≤ 13) (haw : Ev (fun k => exactppllaw06_awake.f k) true) :
    ∀ (j n : Nat), n + j = D → Ev (fun k => exactppllaw06_TypesDeep.l0 k a0 a1 ((n : Int) + 1) (chn n).f0 (chn n).f1 (chn n).f2 (chn n).f3 (chn n).f4) true := by
  intro j
  induction j with
  | zero =>
    intro n hn
    exact deep_end a1 n n _ rfl rfl (by omega) a0 (by omega) haw
  | succ j ih =>
    intro n hn
    obtain ⟨K, e⟩ := ih (n + 1) (by omega)
    refine ⟨K + 1, fun k hk => ?_⟩
    obtain ⟨k, rfl⟩ : ∃ j, k = j + 1 := ⟨k - 1, by omega⟩
    have e' := e k (by omega)
    dsimp only at e'
    simp only [exactppllaw06_TypesDeep.l0, eta_s]
    have hw : wrap64 ((n : Int) + 1 + 1) = ((n + 1 : Nat) : Int) + 1 := by unfold wrap64; omega
    rw [if_pos (by omega), hw]
    exact e'
theorem awake_ev : Ev (fun k => exactppllaw06_awake.f k) true := by
  have h : exactppllaw06_awake.f 40 = some true := by kernel_rfl
  refine ⟨40, fun k hk => ?_⟩
  obtain ⟨j, rfl⟩ : ∃ j, k = 40 + j := ⟨k - 40, by omega⟩
  clear hk
  induction j with
  | zero => exact h
  | succ j ih => exact exactppllaw06_awake.mono (40 + j) true ih
theorem tmod_lt14 (a : Int) (h : 0 ≤ a) : 0 ≤ Int.tmod a 14 ∧ Int.tmod a 14 < 14 := by
  have h1 := Int.tmod_lt_of_pos a (b := 14) (by omega)
  have h2 := Int.tmod_nonneg 14 h
  omega
theorem TypesDeep : exactppllaw06_TypesDeep.Pure := by
  intro a0 a1 h0 _
  have hw : 0 ≤ a0 := by
    have h := h0
    have e : IntKind.u8.min = 0 := by decide
    simp [Lit.wf] at h
    omega
  have hb := tmod_lt14 a0 hw
  obtain ⟨D, hD⟩ : ∃ D : Nat, Int.tmod a0 14 = D := ⟨(Int.tmod a0 14).toNat, by omega⟩
  have hD2 : wrap64 (1 + wrap64 (Int.tmod a0 14)) = D + 1 := by unfold wrap64; omega
  obtain ⟨K, e⟩ := deep_go a0 a1 D hD2 (by omega) awake_ev D 0 (by omega)
  exact ⟨K, e K (Nat.le_refl _)⟩

end Go.Proofs.YtggelekooacmnaaDoor.Pure
