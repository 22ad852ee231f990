import Derived.Test.YtggelekooacmnaaVbu2
set_option linter.unusedVariables false
set_option linter.unusedSimpArgs false
namespace Go.Proofs.Ytggelekooacmnaa.Pure
open Go.RowKit Go.Proofs.Ytggelekooacmnaa.Q Go.Proofs.YtggelekooacmnaaW.bS Go.Proofs.YtggelekooacmnaaW.eQ
inductive Vt : Nat → S27 → Prop
  | bool (n : Nat) : Vt (n + 1) ⟨1, 0, 0, 0, []⟩
  | int (n : Nat) (lo hi : Int) (h1 : -1000 ≤ lo) (h2 : lo ≤ hi) (h3 : hi ≤ 1000) : Vt (n + 1) ⟨2, lo, hi, 0, []⟩
  | nat (n : Nat) : Vt (n + 1) ⟨3, 0, 0, 0, []⟩
  | real (n : Nat) : Vt (n + 1) ⟨4, 0, 0, 0, []⟩
  | tup (n : Nat) (l : List S27) (h1 : 2 ≤ l.length) (h2 : l.length ≤ 4) (h3 : ∀ x ∈ l, Vt n x) (h4 : ∀ x ∈ l, x.f0 ≠ 3 ∧ x.f0 ≠ 4) : Vt (n + 1) ⟨5, 0, 0, 0, l⟩
  | lst (n : Nat) (m : Int) (x : S27) (h1 : 1 ≤ m) (h2 : m ≤ 4) (h3 : Vt n x) (h4 : x.f0 = 1 ∨ x.f0 = 2) : Vt (n + 1) ⟨6, 0, 0, m, [x]⟩
theorem Vt.up {n : Nat} : ∀ {t : S27}, Vt n t → Vt (n + 1) t := by
  induction n with
  | zero => intro t h; cases h
  | succ n ih =>
    intro t h
    cases h with
    | bool => exact .bool _
    | int _ lo hi h1 h2 h3 => exact .int _ _ _ h1 h2 h3
    | nat => exact .nat _
    | real => exact .real _
    | tup _ l h1 h2 h3 h4 => exact .tup _ _ h1 h2 (fun x hx => ih (h3 x hx)) h4
    | lst _ m x h1 h2 h3 h4 => exact .lst _ _ _ h1 h2 (ih h3) h4
theorem Vt.mono {n m : Nat} (h : n ≤ m) {t : S27} (ht : Vt n t) : Vt m t := by
  induction h with
  | refl => exact ht
  | step _ ih => exact ih.up
theorem Vt.bd {n : Nat} : ∀ {t : S27}, Vt n t → Bd n t := by
  induction n with
  | zero => intro t h; cases h
  | succ n ih =>
    intro t h
    cases h with
    | bool => exact ⟨by simp, by simp⟩
    | int _ lo hi h1 h2 h3 => exact ⟨by simp, by simp⟩
    | nat => exact ⟨by simp, by simp⟩
    | real => exact ⟨by simp, by simp⟩
    | tup _ l h1 h2 h3 h4 => exact ⟨by show l.length ≤ 1000; omega, fun x hx => ih (h3 x hx)⟩
    | lst _ m x h1 h2 h3 h4 => exact ⟨by simp, fun y hy => by simp at hy; subst hy; exact ih h3⟩
theorem Xm {f : S27 → Int} : ∀ {l : List S27}, fl1 f l = 0 ↔ ∀ x ∈ l, f x = 0 ∧ x.f0 ≠ 3 ∧ x.f0 ≠ 4
  | [] => by simp [fl1]
  | x :: l => by
    simp only [fl1, List.forall_mem_cons]
    by_cases h : f x = 0
    · by_cases h3 : x.f0 = 3
      · simp [h, h3]
      · by_cases h4 : x.f0 = 4
        · simp [h, h4]
        · simp only [h, h3, h4, if_true, if_false, true_and, not_false_eq_true, ne_eq, Xm]
    · simp [h]
theorem vt_flt (n : Nat) : ∀ {t : S27}, Vt n t → flt n t = 0 := by
  induction n with
  | zero => intro t h; cases h
  | succ n ih =>
    intro t h
    cases h with
    | bool => simp [flt]
    | int _ lo hi h1 h2 h3 =>
      simp only [flt]
      rw [if_neg (by omega), if_neg (by simp), if_pos trivial, if_neg (by omega)]
    | nat => simp [flt]
    | real => simp [flt]
    | tup _ l h1 h2 h3 h4 =>
      simp only [flt]
      rw [if_neg (by omega), if_neg (by simp), if_neg (by omega), if_pos trivial, if_neg (by omega), Xm]
      exact fun x hx => ⟨ih (h3 x hx), h4 x hx⟩
    | lst _ m x h1 h2 h3 h4 =>
      simp only [flt]
      rw [if_neg (by omega), if_neg (by simp), if_neg (by omega), if_neg (by omega), if_pos trivial, if_neg (by omega)]
      simp only [lst1]
      rw [if_pos (ih h3)]
      rcases h4 with h4 | h4 <;> simp [h4]
theorem vt_dep (n : Nat) : ∀ {t : S27}, Vt n t → ∀ m, dep m t ≤ n := by
  induction n with
  | zero => intro t h; cases h
  | succ n ih =>
    intro t h m
    cases m with
    | zero => simp [dep]; omega
    | succ m =>
      simp only [dep]
      have : mxl (dep m) t.f4 0 ≤ n := by
        refine Xf (fun x hx => ?_) (by omega)
        cases h with
        | bool => simp at hx
        | int _ lo hi h1 h2 h3 => simp at hx
        | nat => simp at hx
        | real => simp at hx
        | tup _ l h1 h2 h3 h4 => exact ih (h3 x hx) m
        | lst _ m' y h1 h2 h3 h4 => simp at hx; subst hx; exact ih h3 m
      omega
def prt : Nat → S27 → List S44
  | 0, _ => []
  | n + 1, t => if t.f0 = 1 then [⟨1, 0, 1⟩] else if t.f0 = 2 then [⟨2, t.f1, t.f2⟩] else if t.f0 = 3 ∨ t.f0 = 4 then [⟨t.f0, 0, 0⟩]
    else if t.f0 = 6 then ⟨2, 0, t.f3⟩ :: (List.replicate t.f3.toNat (prt n (af t.f4 0))).flatten else (t.f4.map (prt n)).flatten
theorem Xn {l : List S27} {f : S27 → List S44} {c : Nat} (h : ∀ x ∈ l, (f x).length ≤ c) : (l.map f).flatten.length ≤ l.length * c := by
  induction l with
  | nil => simp
  | cons x l ih =>
    have h1 := h x List.mem_cons_self
    have h2 := ih (fun y hy => h y (List.mem_cons_of_mem x hy))
    simp only [List.map_cons, List.flatten_cons, List.length_append, List.length_cons, Nat.add_mul]
    omega
theorem Qy {α : Type} (m : Nat) (l : List α) : (List.replicate m l).flatten.length = m * l.length := by simp
theorem rd1 (x : S27) : af [x] 0 = x := by simp [af]
theorem J8 (n : Nat) : ∀ {t : S27}, Vt n t → (prt n t).length ≤ 5 ^ n ∧ 1 ≤ (prt n t).length := by
  induction n with
  | zero => intro t h; cases h
  | succ n ih =>
    intro t h
    have hp : 1 ≤ 5 ^ n := Nat.pos_of_ne_zero (by simp)
    have h5 : 5 ^ (n + 1) = 5 ^ n * 5 := Nat.pow_succ ..
    cases h with
    | bool => simp [prt]; omega
    | int _ lo hi h1 h2 h3 => simp [prt]; omega
    | nat => simp [prt]; omega
    | real => simp [prt]; omega
    | tup _ l h1 h2 h3 h4 =>
      have e : prt (n + 1) ⟨5, 0, 0, 0, l⟩ = (l.map (prt n)).flatten := by simp [prt]
      rw [e]
      have hl := Xn (fun x hx => (ih (h3 x hx)).1)
      have : l.length * 5 ^ n ≤ 4 * 5 ^ n := Nat.mul_le_mul_right _ h2
      refine ⟨by omega, ?_⟩
      match l, h1, h3 with
      | x :: l, _, h3 =>
        have := (ih (h3 x List.mem_cons_self)).2
        simp only [List.map_cons, List.flatten_cons, List.length_append]; omega
    | lst _ m x h1 h2 h3 h4 =>
      have e : prt (n + 1) ⟨6, 0, 0, m, [x]⟩ = ⟨2, 0, m⟩ :: (List.replicate m.toNat (prt n x)).flatten := by simp [prt, rd1]
      have e1 : (prt n x).length = 1 := by
        cases h3 with
        | bool => simp [prt]
        | int _ lo hi h1 h2 h3 => simp [prt]
        | nat => simp at h4
        | real => simp at h4
        | tup _ l _ _ _ _ => simp at h4
        | lst _ m x _ _ _ _ => simp at h4
      rw [e, List.length_cons, Qy, e1]
      omega
end Go.Proofs.Ytggelekooacmnaa.Pure
