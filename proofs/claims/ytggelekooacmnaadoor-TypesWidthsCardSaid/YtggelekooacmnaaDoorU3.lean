import Derived.Test.YtggelekooacmnaaDoorU2
import Derived.Test.YtggelekooacmnaaDoorC5
set_option linter.unusedVariables false
set_option linter.unusedSimpArgs false
namespace Go.Proofs.YtggelekooacmnaaDoor.Pure
open Go.RowKit Go.Proofs.YtggelekooacmnaaDoor.R Go.Proofs.YtggelekooacmnaaDoorW.PrintWords Go.Proofs.YtggelekooacmnaaDoorW.PrintLast
-- valid types, their parts, Validate
inductive Vt : Nat → S24 → Prop
  | bool (n : Nat) : Vt (n + 1) ⟨1, 0, 0, 0, []⟩
  | int (n : Nat) (lo hi : Int) (h1 : -1000 ≤ lo) (h2 : lo ≤ hi) (h3 : hi ≤ 1000) : Vt (n + 1) ⟨2, lo, hi, 0, []⟩
  | nat (n : Nat) : Vt (n + 1) ⟨3, 0, 0, 0, []⟩
  | real (n : Nat) : Vt (n + 1) ⟨4, 0, 0, 0, []⟩
  | tup (n : Nat) (l : List S24) (h1 : 2 ≤ l.length) (h2 : l.length ≤ 4) (h3 : ∀ x ∈ l, Vt n x) (h4 : ∀ x ∈ l, x.f0 ≠ 3 ∧ x.f0 ≠ 4) : Vt (n + 1) ⟨5, 0, 0, 0, l⟩
  | lst (n : Nat) (m : Int) (x : S24) (h1 : 1 ≤ m) (h2 : m ≤ 4) (h3 : Vt n x) (h4 : x.f0 = 1 ∨ x.f0 = 2) : Vt (n + 1) ⟨6, 0, 0, m, [x]⟩
theorem Vt.up {n : Nat} : ∀ {t : S24}, Vt n t → Vt (n + 1) t := by
  induction n with
  | zero => intro t h; cases h
  | succ n ih =>
    intro t h
    cases h with
    | bool => exact .bool _
    | int _ lo hi h1 h2 h3 => exact .int _ _ _ h1 h2 h3
    | nat => exact .nat _
    | real => exact .real _
    | tup _ l h1 h2 h3 h4 => exact .tup _ _ h1 h2 (fun x hx => ih (h3 x hx)) h4
    | lst _ m x h1 h2 h3 h4 => exact .lst _ _ _ h1 h2 (ih h3) h4
theorem Vt.mono {n m : Nat} (h : n ≤ m) {t : S24} (ht : Vt n t) : Vt m t := by
  induction h with
  | refl => exact ht
  | step _ ih => exact ih.up
theorem Vt.bd {n : Nat} : ∀ {t : S24}, Vt n t → Bd n t := by
  induction n with
  | zero => intro t h; cases h
  | succ n ih =>
    intro t h
    cases h with
    | bool => exact ⟨by simp, by simp⟩
    | int _ lo hi h1 h2 h3 => exact ⟨by simp, by simp⟩
    | nat => exact ⟨by simp, by simp⟩
    | real => exact ⟨by simp, by simp⟩
    | tup _ l h1 h2 h3 h4 => exact ⟨by show l.length ≤ 1000; omega, fun x hx => ih (h3 x hx)⟩
    | lst _ m x h1 h2 h3 h4 => exact ⟨by simp, fun y hy => by simp at hy; subst hy; exact ih h3⟩
theorem fl1_zero {f : S24 → Int} : ∀ {l : List S24}, fl1 f l = 0 ↔ ∀ x ∈ l, f x = 0 ∧ x.f0 ≠ 3 ∧ x.f0 ≠ 4
  | [] => by simp [fl1]
  | x :: l => by
    simp only [fl1, List.forall_mem_cons]
    by_cases h : f x = 0
    · by_cases h3 : x.f0 = 3
      · simp [h, h3]
      · by_cases h4 : x.f0 = 4
        · simp [h, h4]
        · simp only [h, h3, h4, if_true, if_false, true_and, not_false_eq_true, ne_eq, fl1_zero]
    · simp [h]
theorem flt_vt (n : Nat) : ∀ {t : S24}, Bd n t → flt n t = 0 → Vt n t := by
  induction n with
  | zero => intro t h; exact h.elim
  | succ n ih =>
    intro t hb h
    obtain ⟨a0, a1, a2, a3, l⟩ := t
    simp only [flt] at h
    by_cases hk : a0 < 1 ∨ 6 < a0
    · rw [if_pos hk] at h; omega
    · rw [if_neg hk] at h
      by_cases hu : unus a0 a1 a2 a3 l
      · rw [if_pos hu] at h; omega
      · rw [if_neg hu] at h
        unfold unus at hu
        have hnil : a0 < 5 → l = [] := fun h5 => List.eq_nil_of_length_eq_zero (by omega)
        rcases kinds_of hk with rfl | rfl | rfl | rfl | rfl | rfl
        · obtain rfl := hnil (by omega)
          obtain rfl : a1 = 0 := by omega
          obtain rfl : a2 = 0 := by omega
          obtain rfl : a3 = 0 := by omega
          exact .bool _
        · obtain rfl := hnil (by omega)
          obtain rfl : a3 = 0 := by omega
          simp at h
          exact .int _ _ _ (by omega) (by omega) (by omega)
        · obtain rfl := hnil (by omega)
          obtain rfl : a1 = 0 := by omega
          obtain rfl : a2 = 0 := by omega
          obtain rfl : a3 = 0 := by omega
          exact .nat _
        · obtain rfl := hnil (by omega)
          obtain rfl : a1 = 0 := by omega
          obtain rfl : a2 = 0 := by omega
          obtain rfl : a3 = 0 := by omega
          exact .real _
        · obtain rfl : a1 = 0 := by omega
          obtain rfl : a2 = 0 := by omega
          obtain rfl : a3 = 0 := by omega
          rw [if_neg (by omega), if_pos rfl] at h
          by_cases hc : l.length < 2 ∨ l.length > 4
          · rw [if_pos hc] at h; omega
          · rw [if_neg hc, fl1_zero] at h
            exact .tup _ _ (by omega) (by omega) (fun x hx => ih (hb.2 x hx) (h x hx).1) (fun x hx => (h x hx).2)
        · obtain rfl : a1 = 0 := by omega
          obtain rfl : a2 = 0 := by omega
          rw [if_neg (by omega), if_neg (by omega), if_pos rfl] at h
          by_cases hc : a3 < 1 ∨ a3 > 4
          · rw [if_pos hc] at h; omega
          · rw [if_neg hc] at h
            match l, hb, h with
            | [x], hb, h =>
              simp only [lst1] at h
              by_cases hx : flt n x = 0
              · rw [if_pos hx] at h
                refine .lst _ _ _ (by omega) (by omega) (ih (hb.2 x List.mem_cons_self) hx) ?_
                by_cases h1 : x.f0 = 1
                · exact .inl h1
                · by_cases h2 : x.f0 = 2
                  · exact .inr h2
                  · simp [h1, h2] at h
              · rw [if_neg hx] at h; exact absurd h hx
            | [], _, h => simp [lst1] at h
            | _ :: _ :: _, _, h => simp [lst1] at h
theorem vt_flt (n : Nat) : ∀ {t : S24}, Vt n t → flt n t = 0 := by
  induction n with
  | zero => intro t h; cases h
  | succ n ih =>
    intro t h
    cases h with
    | bool => simp [flt]
    | int _ lo hi h1 h2 h3 =>
      simp only [flt]
      rw [if_neg (by omega), if_neg (by simp), if_pos trivial, if_neg (by omega)]
    | nat => simp [flt]
    | real => simp [flt]
    | tup _ l h1 h2 h3 h4 =>
      simp only [flt]
      rw [if_neg (by omega), if_neg (by simp), if_neg (by omega), if_pos trivial, if_neg (by omega), fl1_zero]
      exact fun x hx => ⟨ih (h3 x hx), h4 x hx⟩
    | lst _ m x h1 h2 h3 h4 =>
      simp only [flt]
      rw [if_neg (by omega), if_neg (by simp), if_neg (by omega), if_neg (by omega), if_pos trivial, if_neg (by omega)]
      simp only [lst1]
      rw [if_pos (ih h3)]
      rcases h4 with h4 | h4 <;> simp [h4]
theorem vt_dep (n : Nat) : ∀ {t : S24}, Vt n t → ∀ m, dep m t ≤ n := by
  induction n with
  | zero => intro t h; cases h
  | succ n ih =>
    intro t h m
    cases m with
    | zero => simp [dep]; omega
    | succ m =>
      simp only [dep]
      have : mxl (dep m) t.f4 0 ≤ n := by
        refine mxl_le (fun x hx => ?_) (by omega)
        cases h with
        | bool => simp at hx
        | int _ lo hi h1 h2 h3 => simp at hx
        | nat => simp at hx
        | real => simp at hx
        | tup _ l h1 h2 h3 h4 => exact ih (h3 x hx) m
        | lst _ m' y h1 h2 h3 h4 => simp at hx; subst hx; exact ih h3 m
      omega
theorem mxl_mem {f : S24 → Int} : ∀ {l : List S24} {m : Int} {x : S24}, x ∈ l → f x ≤ mxl f l m
  | y :: l, m, x, h => by
    simp only [mxl]
    rcases List.mem_cons.1 h with rfl | h
    · exact Int.le_trans mx_ge.2 (mxl_ge f l _)
    · exact mxl_mem h
theorem vt_low (n : Nat) : ∀ {t : S24} (d : Nat), Vt n t → dep n t ≤ d → Vt d t := by
  induction n with
  | zero => intro t d h; cases h
  | succ n ih =>
    intro t d h hd
    simp only [dep] at hd
    have h0 := mxl_ge (dep n) t.f4 0
    obtain ⟨d, rfl⟩ : ∃ e, d = e + 1 := ⟨d - 1, by omega⟩
    cases h with
    | bool => exact .bool _
    | int _ lo hi h1 h2 h3 => exact .int _ _ _ h1 h2 h3
    | nat => exact .nat _
    | real => exact .real _
    | tup _ l h1 h2 h3 h4 => exact .tup _ _ h1 h2 (fun x hx => ih d (h3 x hx) (by have := mxl_mem (f := dep n) (m := 0) hx; simp only at hd; omega)) h4
    | lst _ m x h1 h2 h3 h4 => exact .lst _ _ _ h1 h2 (ih d h3 (by have := mxl_mem (f := dep n) (m := 0) (x := x) (l := [x]) List.mem_cons_self; simp only at hd; omega)) h4
def prt : Nat → S24 → List S41
  | 0, _ => []
  | n + 1, t => if t.f0 = 1 then [⟨1, 0, 1⟩] else if t.f0 = 2 then [⟨2, t.f1, t.f2⟩] else if t.f0 = 3 ∨ t.f0 = 4 then [⟨t.f0, 0, 0⟩]
    else if t.f0 = 6 then ⟨2, 0, t.f3⟩ :: (List.replicate t.f3.toNat (prt n (rd_T24 t.f4 0))).flatten else (t.f4.map (prt n)).flatten
theorem flat_len {l : List S24} {f : S24 → List S41} {c : Nat} (h : ∀ x ∈ l, (f x).length ≤ c) : (l.map f).flatten.length ≤ l.length * c := by
  induction l with
  | nil => simp
  | cons x l ih =>
    have h1 := h x List.mem_cons_self
    have h2 := ih (fun y hy => h y (List.mem_cons_of_mem x hy))
    simp only [List.map_cons, List.flatten_cons, List.length_append, List.length_cons, Nat.add_mul]
    omega
theorem rep_len {α : Type} (m : Nat) (l : List α) : (List.replicate m l).flatten.length = m * l.length := by simp
theorem rd1 (x : S24) : rd_T24 [x] 0 = x := by simp [rd_T24]
theorem prt_len (n : Nat) : ∀ {t : S24}, Vt n t → (prt n t).length ≤ 5 ^ n ∧ 1 ≤ (prt n t).length := by
  induction n with
  | zero => intro t h; cases h
  | succ n ih =>
    intro t h
    have hp : 1 ≤ 5 ^ n := Nat.pos_of_ne_zero (by simp)
    have h5 : 5 ^ (n + 1) = 5 ^ n * 5 := Nat.pow_succ ..
    cases h with
    | bool => simp [prt]; omega
    | int _ lo hi h1 h2 h3 => simp [prt]; omega
    | nat => simp [prt]; omega
    | real => simp [prt]; omega
    | tup _ l h1 h2 h3 h4 =>
      have e : prt (n + 1) ⟨5, 0, 0, 0, l⟩ = (l.map (prt n)).flatten := by simp [prt]
      rw [e]
      have hl := flat_len (fun x hx => (ih (h3 x hx)).1)
      have : l.length * 5 ^ n ≤ 4 * 5 ^ n := Nat.mul_le_mul_right _ h2
      refine ⟨by omega, ?_⟩
      match l, h1, h3 with
      | x :: l, _, h3 =>
        have := (ih (h3 x List.mem_cons_self)).2
        simp only [List.map_cons, List.flatten_cons, List.length_append]; omega
    | lst _ m x h1 h2 h3 h4 =>
      have e : prt (n + 1) ⟨6, 0, 0, m, [x]⟩ = ⟨2, 0, m⟩ :: (List.replicate m.toNat (prt n x)).flatten := by simp [prt, rd1]
      have e1 : (prt n x).length = 1 := by
        cases h3 with
        | bool => simp [prt]
        | int _ lo hi h1 h2 h3 => simp [prt]
        | nat => simp at h4
        | real => simp at h4
        | tup _ l _ _ _ _ => simp at h4
        | lst _ m x _ _ _ _ => simp at h4
      rw [e, List.length_cons, rep_len, e1]
      omega

end Go.Proofs.YtggelekooacmnaaDoor.Pure
