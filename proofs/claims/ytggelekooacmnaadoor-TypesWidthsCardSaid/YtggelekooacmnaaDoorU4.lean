import Derived.Test.YtggelekooacmnaaDoorU3
set_option linter.unusedVariables false
set_option linter.unusedSimpArgs false
namespace Go.Proofs.YtggelekooacmnaaDoor.Pure
open Go.RowKit Go.Proofs.YtggelekooacmnaaDoor.R Go.Proofs.YtggelekooacmnaaDoorW.PrintWords Go.Proofs.YtggelekooacmnaaDoorW.PrintLast
-- width, Parts, Validate
theorem wid_l0 (n : Nat) (l : List S24) (hl : l.length ≤ 4) (B : Nat) (hB : B ≤ 10000000) (ih : ∀ t ∈ l, Ev (at_ types_width.f t) ((prt n t).length : Int) ∧ (prt n t).length ≤ B) :
    ∀ (d i m : Nat), m ≤ i * B → i + d = l.length → Ev (fun k => types_width.l0 k m l l.length i) ((m + ((l.drop i).map (prt n)).flatten.length : Nat) : Int) := by
  intro d
  induction d with
  | zero =>
    intro i m h0 hi
    refine ⟨1, fun k hk => ?_⟩
    obtain ⟨k, rfl⟩ : ∃ j, k = j + 1 := ⟨k - 1, by omega⟩
    simp only [types_width.l0]
    rw [if_neg (by omega), List.drop_eq_nil_of_le (by omega)]; rfl
  | succ d IH =>
    intro i m h0 hi
    have hlt : i < l.length := by omega
    obtain ⟨⟨K1, e1⟩, hb⟩ := ih l[i] (List.getElem_mem hlt)
    have hm : m + (prt n l[i]).length ≤ (i + 1) * B := by rw [Nat.add_mul]; omega
    have hm2 : (i + 1) * B ≤ 4 * B := Nat.mul_le_mul_right _ (by omega)
    obtain ⟨K2, e2⟩ := IH (i + 1) (m + (prt n l[i]).length) hm (by omega)
    refine ⟨max K1 K2 + 1, fun k hk => ?_⟩
    obtain ⟨k, rfl⟩ : ∃ j, k = j + 1 := ⟨k - 1, by omega⟩
    have e1' := e1 k (by omega)
    have e2' := e2 k (by omega)
    unfold at_ at e1'
    dsimp only at e1' e2'
    simp only [types_width.l0]
    have ew : wrap64 ((m : Int) + ((prt n l[i]).length : Int)) = ((m + (prt n l[i]).length : Nat) : Int) := by unfold wrap64; omega
    rw [if_pos (by omega), if_pos (by omega), if_pos (by omega), rdT hlt, e1', Option.bind_some, wrap_nat (by omega), ew, e2', List.drop_eq_getElem_cons hlt]
    simp only [List.map_cons, List.flatten_cons, List.length_append, Nat.add_assoc]
theorem sc_len {n : Nat} {x : S24} (h3 : Vt n x) (h4 : x.f0 = 1 ∨ x.f0 = 2) : (prt n x).length = 1 := by
  cases h3 with
  | bool => simp [prt]
  | int _ lo hi h1 h2 h3 => simp [prt]
  | nat => simp at h4
  | real => simp at h4
  | tup _ l _ _ _ _ => simp at h4
  | lst _ m x _ _ _ _ => simp at h4
theorem prt5 (n : Nat) (a1 a2 a3 : Int) (l : List S24) : prt (n + 1) ⟨5, a1, a2, a3, l⟩ = (l.map (prt n)).flatten := by simp [prt]
theorem prt6 (n : Nat) (a1 a2 m : Int) (x : S24) : prt (n + 1) ⟨6, a1, a2, m, [x]⟩ = ⟨2, 0, m⟩ :: (List.replicate m.toNat (prt n x)).flatten := by simp [prt, rd1]
theorem pow5 {n : Nat} (h : n ≤ 9) : 5 ^ n ≤ 5 ^ 9 := Nat.pow_le_pow_right (by omega) h
theorem width_ev (n : Nat) : ∀ {t : S24}, n ≤ 10 → Vt n t → Ev (at_ types_width.f t) ((prt n t).length : Int) := by
  induction n with
  | zero => intro t _ h; cases h
  | succ n ih =>
    intro t hn h
    have one : ∀ a0 a1 a2 a3 : Int, ∀ l, a0 ≠ 5 → a0 ≠ 6 → Ev (at_ types_width.f ⟨a0, a1, a2, a3, l⟩) (1 : Int) := by
      intro a0 a1 a2 a3 l h5 h6
      refine ⟨1, fun k hk => ?_⟩
      obtain ⟨k, rfl⟩ : ∃ j, k = j + 1 := ⟨k - 1, by omega⟩
      simp only [at_, types_width.f, if_neg h5, if_neg h6]
    cases h with
    | bool => exact one _ _ _ _ _ (by decide) (by decide)
    | int _ lo hi h1 h2 h3 => exact one _ _ _ _ _ (by decide) (by decide)
    | nat => exact one _ _ _ _ _ (by decide) (by decide)
    | real => exact one _ _ _ _ _ (by decide) (by decide)
    | tup _ l h1 h2 h3 h4 =>
      have hp := pow5 (show n ≤ 9 by omega)
      obtain ⟨K, e⟩ := wid_l0 n l h2 (5 ^ n) (by omega) (fun x hx => ⟨ih (by omega) (h3 x hx), (prt_len n (h3 x hx)).1⟩) l.length 0 0 (by omega) (by omega)
      rw [prt5]
      refine ⟨K + 1, fun k hk => ?_⟩
      obtain ⟨k, rfl⟩ : ∃ j, k = j + 1 := ⟨k - 1, by omega⟩
      have e' := e k (by omega)
      simp only [at_, types_width.f, if_pos]
      simpa using e'
    | lst _ m x h1 h2 h3 h4 =>
      obtain ⟨K, e⟩ := ih (by omega) h3
      have e1 := sc_len h3 h4
      rw [prt6, List.length_cons, rep_len, e1]
      refine ⟨K + 1, fun k hk => ?_⟩
      obtain ⟨k, rfl⟩ : ∃ j, k = j + 1 := ⟨k - 1, by omega⟩
      have e' := e k (by omega)
      unfold at_ at e'
      simp only [at_, types_width.f]
      rw [if_neg (by decide), if_pos trivial, if_pos (by simp), rd1, e', Option.bind_some, e1]
      have : wrap64 (1 + wrap64 (m * ((1 : Nat) : Int))) = ((m.toNat * 1 + 1 : Nat) : Int) := by unfold wrap64; omega
      rw [this]

/-- Validate, of whatever type within the bounds; and what is valid. -/
theorem validate_deep {n : Nat} {t : S24} (hn : n ≤ 1000) (hb : Bd n t) (hd : dep n t > 10) : Ev (at_ types_Validate.f t) 9 := by
  obtain ⟨K1, e1⟩ := depth_ev n t hn hb
  unfold at_ at e1
  refine ⟨K1, fun k hk => ?_⟩
  simp only [at_, types_Validate.f]
  rw [e1 k hk, Option.bind_some, if_pos hd]
theorem validate_flt {n : Nat} {t : S24} (hn : n ≤ 1000) (hb : Bd n t) (hd : dep n t ≤ 10) (hf : flt n t ≠ 0) : Ev (at_ types_Validate.f t) (flt n t) := by
  obtain ⟨K1, e1⟩ := depth_ev n t hn hb
  obtain ⟨K2, e2⟩ := fault_ev n t hn hb
  unfold at_ at e1 e2
  refine ⟨K1 + K2, fun k hk => ?_⟩
  simp only [at_, types_Validate.f]
  rw [e1 k (by omega), Option.bind_some, if_neg (by omega), e2 k (by omega), Option.bind_some, if_neg hf]
theorem validate_vt {t : S24} (hv : Vt 10 t) : Ev (at_ types_Validate.f t) (if (prt 10 t).length > 24 then 9 else 0) := by
  obtain ⟨K1, e1⟩ := depth_ev 10 t (by omega) hv.bd
  obtain ⟨K2, e2⟩ := fault_ev 10 t (by omega) hv.bd
  obtain ⟨K5, e5⟩ := width_ev 10 (by omega) hv
  unfold at_ at e1 e2 e5
  have hd := vt_dep 10 hv 10
  have hf := vt_flt 10 hv
  refine ⟨K1 + K2 + K5, fun k hk => ?_⟩
  simp only [at_, types_Validate.f]
  rw [e1 k (by omega), Option.bind_some, if_neg (by omega), e2 k (by omega), Option.bind_some, if_pos hf, e5 k (by omega), Option.bind_some]
  split <;> split <;> first | rfl | omega
theorem validate_ok {t : S24} (hv : Vt 10 t) (hl : (prt 10 t).length ≤ 24) : Ev (at_ types_Validate.f t) 0 := by
  have h := validate_vt hv
  rw [if_neg (by omega)] at h
  exact h

end Go.Proofs.YtggelekooacmnaaDoor.Pure
