import Derived.Test.YtggelekooacmnaaDoorU7
import Derived.Test.YtggelekooacmnaaDoorC6
set_option linter.unusedVariables false
set_option linter.unusedSimpArgs false
namespace Go.Proofs.YtggelekooacmnaaDoor.Pure
open Go.RowKit Go.Proofs.YtggelekooacmnaaDoor.R Go.Proofs.YtggelekooacmnaaDoorW.PrintWords Go.Proofs.YtggelekooacmnaaDoorW.PrintLast
-- sizes of the types that are built
theorem gt1 {t : S24} (h : Gt 1 t) : t = ⟨1, 0, 0, 0, []⟩ ∨ ∃ lo hi : Int, t = ⟨2, lo, hi, 0, []⟩ ∧ -2 ≤ lo ∧ lo ≤ hi ∧ hi ≤ lo + 3 ∧ lo ≤ 3 := by
  cases h with
  | bool => exact .inl rfl
  | int _ lo hi h1 h2 h3 h4 => exact .inr ⟨lo, hi, rfl, h1, h2, h3, h4⟩
  | tup _ l h1 h2 h3 =>
    match l, h1, h3 with
    | x :: _, _, h3 => cases h3 x List.mem_cons_self
  | lst _ m x h1 h2 h3 h4 h5 => omega
theorem size_one {t : S24} (h : Gt 1 t) : ∃ z : Int, (z = 1 ∨ z = 2 ∨ z = 3 ∨ z = 4) ∧ Ev (at_ types_size.f t) z := by
  rcases gt1 h with rfl | ⟨lo, hi, rfl, h1, h2, h3, h4⟩
  · refine ⟨2, by omega, 4, fun k hk => ?_⟩
    obtain ⟨k, rfl⟩ : ∃ j, k = j + 4 := ⟨k - 4, by omega⟩
    simp [at_, types_size.f, types_cells.f, types_isTruth.f, rd_T41]
  · refine ⟨hi - lo + 1, by omega, 4, fun k hk => ?_⟩
    obtain ⟨k, rfl⟩ : ∃ j, k = j + 4 := ⟨k - 4, by omega⟩
    have e : wrap64 (wrap64 (hi - lo) + 1) = hi - lo + 1 := by unfold wrap64; omega
    simp [at_, types_size.f, types_cells.f, types_cells.j0, types_isTruth.f, rd_T41, e]
theorem size_two {x y : S24} {a b : Int} (ha : a = 1 ∨ a = 2 ∨ a = 3 ∨ a = 4) (hb : 1 ≤ b) (hb2 : b ≤ 100) (h1 : Ev (at_ types_size.f x) a) (h2 : Ev (at_ types_size.f y) b) :
    Ev (at_ types_size.f ⟨5, 0, 0, 0, [x, y]⟩) (a * b) := by
  obtain ⟨K1, e1⟩ := h1
  obtain ⟨K2, e2⟩ := h2
  unfold at_ at e1 e2
  refine ⟨K1 + K2 + 5, fun k hk => ?_⟩
  obtain ⟨k, rfl⟩ : ∃ j, k = j + 4 := ⟨k - 4, by omega⟩
  have e1' := e1 (k + 2) (by omega)
  have e2' := e2 (k + 1) (by omega)
  have w1 : mn (wrap64 (1 * a)) 1073741825 = a := by unfold mn wrap64; split <;> omega
  have w2 : mn (wrap64 (a * b)) 1073741825 = a * b := by
    rcases ha with rfl | rfl | rfl | rfl <;> (rw [wrap_in (by omega) (by omega)]; unfold mn; split <;> omega)
  simp only [at_, types_size.f]
  rw [if_pos trivial]
  simp only [types_size.l0]
  rw [if_pos (by simp), if_pos (by simp), if_pos (by simp), show rd_T24 [x, y] 0 = x from rfl, e1', Option.bind_some, w1, show wrap64 (0 + 1) = 1 from by unfold wrap64; omega,
    if_pos (by simp), if_pos (by simp), if_pos (by simp), show rd_T24 [x, y] 1 = y from rfl, e2', Option.bind_some, w2, show wrap64 (1 + 1) = 2 from by unfold wrap64; omega, if_neg (by simp)]
theorem size_three {x y z : S24} {a b c : Int} (ha : a = 1 ∨ a = 2 ∨ a = 3 ∨ a = 4) (hb : b = 1 ∨ b = 2 ∨ b = 3 ∨ b = 4) (hc : c = 1 ∨ c = 2 ∨ c = 3 ∨ c = 4) (h1 : Ev (at_ types_size.f x) a) (h2 : Ev (at_ types_size.f y) b)
    (h3 : Ev (at_ types_size.f z) c) : Ev (at_ types_size.f ⟨5, 0, 0, 0, [x, y, z]⟩) (a * b * c) := by
  obtain ⟨K1, e1⟩ := h1
  obtain ⟨K2, e2⟩ := h2
  obtain ⟨K3, e3⟩ := h3
  unfold at_ at e1 e2 e3
  refine ⟨K1 + K2 + K3 + 5, fun k hk => ?_⟩
  obtain ⟨k, rfl⟩ : ∃ j, k = j + 5 := ⟨k - 5, by omega⟩
  have e1' := e1 (k + 3) (by omega)
  have e2' := e2 (k + 2) (by omega)
  have e3' := e3 (k + 1) (by omega)
  have w1 : mn (wrap64 (1 * a)) 1073741825 = a := by unfold mn wrap64; split <;> omega
  have w2 : mn (wrap64 (a * b)) 1073741825 = a * b := by
    rcases ha with rfl | rfl | rfl | rfl <;> (rw [wrap_in (by omega) (by omega)]; unfold mn; split <;> omega)
  have w3 : mn (wrap64 (a * b * c)) 1073741825 = a * b * c := by
    rcases ha with rfl | rfl | rfl | rfl <;> rcases hb with rfl | rfl | rfl | rfl <;> (rw [wrap_in (by omega) (by omega)]; unfold mn; split <;> omega)
  simp only [at_, types_size.f]
  rw [if_pos trivial]
  simp only [types_size.l0]
  rw [if_pos (by simp), if_pos (by simp), if_pos (by simp), show rd_T24 [x, y, z] 0 = x from rfl, e1', Option.bind_some, w1, show wrap64 (0 + 1) = 1 from by unfold wrap64; omega,
    if_pos (by simp), if_pos (by simp), if_pos (by simp), show rd_T24 [x, y, z] 1 = y from rfl, e2', Option.bind_some, w2, show wrap64 (1 + 1) = 2 from by unfold wrap64; omega,
    if_pos (by simp), if_pos (by simp), if_pos (by simp), show rd_T24 [x, y, z] 2 = z from rfl, e3', Option.bind_some, w3, show wrap64 (2 + 1) = 3 from by unfold wrap64; omega, if_neg (by simp)]
/-- the sum of the powers of a up to the m-th -/
def gs (a m : Int) : Int := if m = 1 then 1 + a else if m = 2 then 1 + a + a * a else if m = 3 then 1 + a + a * a + a * a * a else 1 + a + a * a + a * a * a + a * a * a * a
theorem gs_l1 {a m : Int} (ha : a = 1 ∨ a = 2 ∨ a = 3 ∨ a = 4) (hm : m = 1 ∨ m = 2 ∨ m = 3 ∨ m = 4) (k : Nat) : types_size.l1 (k + 5) 1 1 a m 0 = some (gs a m) := by
  rcases ha with rfl | rfl | rfl | rfl <;> rcases hm with rfl | rfl | rfl | rfl <;> kernel_rfl
theorem size_lst {x : S24} {a m : Int} (ha : a = 1 ∨ a = 2 ∨ a = 3 ∨ a = 4) (hm : m = 1 ∨ m = 2 ∨ m = 3 ∨ m = 4) (h1 : Ev (at_ types_size.f x) a) : Ev (at_ types_size.f ⟨6, 0, 0, m, [x]⟩) (gs a m) := by
  obtain ⟨K1, e1⟩ := h1
  unfold at_ at e1
  refine ⟨K1 + 6, fun k hk => ?_⟩
  obtain ⟨k, rfl⟩ : ∃ j, k = j + 1 := ⟨k - 1, by omega⟩
  have e1' := e1 k (by omega)
  simp only [at_, types_size.f]
  rw [if_neg (by decide), if_pos trivial, if_pos (by simp), rd1, e1', Option.bind_some]
  obtain ⟨k, rfl⟩ : ∃ j, k = j + 5 := ⟨k - 5, by omega⟩
  rw [gs_l1 ha hm]
theorem gs_bd {a m : Int} (ha : a = 1 ∨ a = 2 ∨ a = 3 ∨ a = 4) (hm : m = 1 ∨ m = 2 ∨ m = 3 ∨ m = 4) : 1 ≤ gs a m ∧ gs a m ≤ 1000 ∧ (m ≤ 2 → gs a m ≤ 100) := by
  rcases ha with rfl | rfl | rfl | rfl <;> rcases hm with rfl | rfl | rfl | rfl <;> decide
theorem size_gt2 {t : S24} (h : Gt 2 t) : ∃ z : Int, 1 ≤ z ∧ z ≤ 100 ∧ Ev (at_ types_size.f t) z := by
  cases h with
  | bool =>
    obtain ⟨z, hz, e⟩ := size_one (.bool 0)
    exact ⟨z, by omega, by omega, e⟩
  | int _ lo hi h1 h2 h3 h4 =>
    obtain ⟨z, hz, e⟩ := size_one (.int 0 lo hi h1 h2 h3 h4)
    exact ⟨z, by omega, by omega, e⟩
  | tup _ l h1 h2 h3 =>
    match l, h1, h2, h3 with
    | [x, y], _, _, h3 =>
      obtain ⟨a, ha, e1⟩ := size_one (h3 x (by simp))
      obtain ⟨b, hb, e2⟩ := size_one (h3 y (by simp))
      refine ⟨a * b, ?_, ?_, size_two ha (by omega) (by omega) e1 e2⟩
      · rcases ha with rfl | rfl | rfl | rfl <;> omega
      · rcases ha with rfl | rfl | rfl | rfl <;> omega
    | [x, y, z], _, _, h3 =>
      obtain ⟨a, ha, e1⟩ := size_one (h3 x (by simp))
      obtain ⟨b, hb, e2⟩ := size_one (h3 y (by simp))
      obtain ⟨c, hc, e3⟩ := size_one (h3 z (by simp))
      refine ⟨a * b * c, ?_, ?_, size_three ha hb hc e1 e2 e3⟩
      · rcases ha with rfl | rfl | rfl | rfl <;> rcases hb with rfl | rfl | rfl | rfl <;> omega
      · rcases ha with rfl | rfl | rfl | rfl <;> rcases hb with rfl | rfl | rfl | rfl <;> omega
    | [], h1, _, _ => simp at h1
    | [_], h1, _, _ => simp at h1
    | _ :: _ :: _ :: _ :: _, _, h2, _ => simp at h2
  | lst _ m x h1 h2 h3 h4 h5 =>
    obtain ⟨a, ha, e1⟩ := size_one h3
    have hm : m = 1 ∨ m = 2 ∨ m = 3 ∨ m = 4 := by omega
    have hb := gs_bd ha hm
    exact ⟨_, hb.1, hb.2.2 h2, size_lst ha hm e1⟩
/-- Size, of a valid type whose size is small -/
theorem Size_ok {t : S24} {z : Int} (hv : Vt 10 t) (hl : (prt 10 t).length ≤ 24) (h3 : t.f0 ≠ 3) (h4 : t.f0 ≠ 4) (hz : z ≤ 1000) (he : Ev (at_ types_size.f t) z) : Ev (at_ types_Size.f t) (z, 0) := by
  obtain ⟨K1, e1⟩ := validate_ok hv hl
  obtain ⟨K2, e2⟩ := he
  unfold at_ at e1 e2
  refine ⟨K1 + K2 + 1, fun k hk => ?_⟩
  have e1' := e1 k (by omega)
  obtain ⟨k, rfl⟩ : ∃ j, k = j + 1 := ⟨k - 1, by omega⟩
  have e2' := e2 k (by omega)
  have hf : (t.f0 == 4) = false := by simp [h4]
  simp only [at_, types_Size.f]
  rw [e1', Option.bind_some, if_pos rfl, if_neg h3, hf]
  simp only [types_Size.j0]
  rw [if_neg (by decide), e2', Option.bind_some, if_neg (by omega)]

end Go.Proofs.YtggelekooacmnaaDoor.Pure
