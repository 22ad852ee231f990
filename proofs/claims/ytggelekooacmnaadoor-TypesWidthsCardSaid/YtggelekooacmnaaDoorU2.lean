import Derived.Test.YtggelekooacmnaaDoorU1
set_option linter.unusedVariables false
set_option linter.unusedSimpArgs false
namespace Go.Proofs.YtggelekooacmnaaDoor.Pure
open Go.RowKit Go.Proofs.YtggelekooacmnaaDoor.R Go.Proofs.YtggelekooacmnaaDoorW.PrintWords Go.Proofs.YtggelekooacmnaaDoorW.PrintLast
-- faults
def fl1 (f : S24 → Int) : List S24 → Int
  | [] => 0
  | x :: l => if f x = 0 then (if x.f0 = 3 then 8 else if x.f0 = 4 then 8 else fl1 f l) else f x
abbrev unus (a0 a1 a2 a3 : Int) (l : List S24) : Prop := (a0 ≠ 2 ∧ (a1 ≠ 0 ∨ a2 ≠ 0)) ∨ (a0 ≠ 6 ∧ a3 ≠ 0) ∨ (a0 < 5 ∧ l.length ≠ 0)
def lst1 (f : S24 → Int) : List S24 → Int
  | [x] => if f x = 0 then (if x.f0 = 1 then 0 else if x.f0 = 2 then 0 else 8) else f x
  | _ => 2
def flt : Nat → S24 → Int
  | 0, _ => 0
  | n + 1, t => if t.f0 < 1 ∨ 6 < t.f0 then 14 else if unus t.f0 t.f1 t.f2 t.f3 t.f4 then 2
    else if t.f0 = 2 then (if t.f1 < -1000 ∨ t.f1 > t.f2 ∨ t.f2 > 1000 then 1 else 0)
    else if t.f0 = 5 then (if t.f4.length < 2 ∨ t.f4.length > 4 then 1 else fl1 (flt n) t.f4)
    else if t.f0 = 6 then (if t.f3 < 1 ∨ t.f3 > 4 then 1 else lst1 (flt n) t.f4)
    else 0
theorem kinds_of {a : Int} (h : ¬ (a < 1 ∨ 6 < a)) : a = 1 ∨ a = 2 ∨ a = 3 ∨ a = 4 ∨ a = 5 ∨ a = 6 := by omega
theorem unused_eq {a0 a1 a2 a3 : Int} {l : List S24} (h : ¬ (a0 < 1 ∨ 6 < a0)) : types_unused.f a0 a1 a2 a3 l = some (decide (unus a0 a1 a2 a3 l)) := by
  unfold types_unused.f unus
  rcases kinds_of h with rfl | rfl | rfl | rfl | rfl | rfl <;> by_cases h1 : a1 = 0 <;> by_cases h2 : a2 = 0 <;> by_cases h3 : a3 = 0 <;> by_cases h4 : l = [] <;> simp [h1, h2, h3, h4]
theorem fault_l0 (n : Nat) (l : List S24) (hl : l.length ≤ 1000) (ih : ∀ t ∈ l, Ev (at_ types_fault.f t) (flt n t)) :
    ∀ (d i : Nat), i + d = l.length → Ev (fun k => types_fault.l0 k l l.length i) (fl1 (flt n) (l.drop i)) := by
  intro d
  induction d with
  | zero =>
    intro i hi
    refine ⟨1, fun k hk => ?_⟩
    obtain ⟨k, rfl⟩ : ∃ j, k = j + 1 := ⟨k - 1, by omega⟩
    simp only [types_fault.l0]
    rw [if_neg (by omega), List.drop_eq_nil_of_le (by omega)]; rfl
  | succ d IH =>
    intro i hi
    have hlt : i < l.length := by omega
    obtain ⟨K1, e1⟩ := ih l[i] (List.getElem_mem hlt)
    obtain ⟨K2, e2⟩ := IH (i + 1) (by omega)
    refine ⟨max K1 K2 + 1, fun k hk => ?_⟩
    obtain ⟨k, rfl⟩ : ∃ j, k = j + 1 := ⟨k - 1, by omega⟩
    have e1' := e1 k (by omega)
    have e2' := e2 k (by omega)
    unfold at_ at e1'
    dsimp only at e1' e2'
    simp only [types_fault.l0]
    rw [if_pos (by omega), if_pos (by omega), if_pos (by omega), rdT hlt, e1', Option.bind_some, wrap_nat (by omega), e2', List.drop_eq_getElem_cons hlt]
    simp only [fl1]
    repeat' split
    all_goals rfl
theorem fault_ev (n : Nat) : ∀ (t : S24), n ≤ 1000 → Bd n t → Ev (at_ types_fault.f t) (flt n t) := by
  induction n with
  | zero => intro t _ h; exact h.elim
  | succ n ih =>
    intro t hn hb
    obtain ⟨a0, a1, a2, a3, l⟩ := t
    have hl : l.length ≤ 1000 := hb.1
    by_cases hk : a0 < 1 ∨ 6 < a0
    · refine ⟨2, fun k hk2 => ?_⟩
      obtain ⟨k, rfl⟩ : ∃ j, k = j + 2 := ⟨k - 2, by omega⟩
      simp only [at_, types_fault.f, flt]
      rw [if_pos hk]
      split
      · simp only [types_fault.j0, if_true]
      · rw [show decide (a0 > 6) = true from by simp; omega]; simp only [types_fault.j0, if_true]
    · have hj : ∀ k, at_ types_fault.f ⟨a0, a1, a2, a3, l⟩ (k + 2) = types_fault.j0 (k + 1) false a0 a1 a2 a3 l := by
        intro k
        simp only [at_, types_fault.f]
        rw [if_neg (by omega), show decide (a0 > 6) = false from by simp; omega]
      by_cases hu : unus a0 a1 a2 a3 l
      · refine ⟨2, fun k hk2 => ?_⟩
        obtain ⟨k, rfl⟩ : ∃ j, k = j + 2 := ⟨k - 2, by omega⟩
        rw [hj]
        simp only [types_fault.j0]
        rw [unused_eq hk, decide_eq_true hu]
        simp only [flt, if_neg hk, if_pos hu]; rfl
      · have hj0 : ∀ k, at_ types_fault.f ⟨a0, a1, a2, a3, l⟩ (k + 2) = (if a0 = 2 then (if a1 < (-1000) then (some 1) else (if a1 > a2 then (some 1) else (if a2 > 1000 then (some 1) else (some 0)))) else (if a0 = 5 then (if (l.length : Int) < 2 then (types_fault.j1 k true a0 a1 a2 a3 l) else (types_fault.j1 k (decide ((l.length : Int) > 4)) a0 a1 a2 a3 l)) else (if a0 = 6 then (if a3 < 1 then (types_fault.j3 k true a0 a1 a2 a3 l) else (types_fault.j3 k (decide (a3 > 4)) a0 a1 a2 a3 l)) else (some 0)))) := by
          intro k
          rw [hj]
          simp only [types_fault.j0]
          rw [unused_eq hk, decide_eq_false hu]; rfl
        have hs : flt (n + 1) ⟨a0, a1, a2, a3, l⟩ = (if a0 = 2 then (if a1 < -1000 ∨ a1 > a2 ∨ a2 > 1000 then 1 else 0) else if a0 = 5 then (if l.length < 2 ∨ l.length > 4 then 1 else fl1 (flt n) l) else if a0 = 6 then (if a3 < 1 ∨ a3 > 4 then 1 else lst1 (flt n) l) else 0) := by
          simp only [flt, if_neg hk, if_neg hu]
        rw [hs]
        by_cases k2 : a0 = 2
        · refine ⟨2, fun k hk2 => ?_⟩
          obtain ⟨k, rfl⟩ : ∃ j, k = j + 2 := ⟨k - 2, by omega⟩
          rw [hj0, if_pos k2, if_pos k2]
          by_cases c1 : a1 < -1000
          · rw [if_pos c1, if_pos (by omega)]
          · by_cases c2 : a1 > a2
            · rw [if_neg c1, if_pos c2, if_pos (by omega)]
            · by_cases c3 : a2 > 1000
              · rw [if_neg c1, if_neg c2, if_pos c3, if_pos (by omega)]
              · rw [if_neg c1, if_neg c2, if_neg c3, if_neg (by omega)]
        · by_cases k5 : a0 = 5
          · by_cases c : l.length < 2 ∨ l.length > 4
            · refine ⟨3, fun k hk2 => ?_⟩
              obtain ⟨k, rfl⟩ : ∃ j, k = j + 3 := ⟨k - 3, by omega⟩
              rw [hj0, if_neg k2, if_neg k2, if_pos k5, if_pos k5, if_pos c]
              split
              · simp only [types_fault.j1, if_true]
              · rw [show decide ((l.length : Int) > 4) = true from by simp; omega]; simp only [types_fault.j1, if_true]
            · obtain ⟨K, e⟩ := fault_l0 n l hl (fun x hx => ih x (by omega) (hb.2 x hx)) l.length 0 (by omega)
              refine ⟨K + 3, fun k hk2 => ?_⟩
              obtain ⟨k, rfl⟩ : ∃ j, k = j + 3 := ⟨k - 3, by omega⟩
              rw [hj0, if_neg k2, if_neg k2, if_pos k5, if_pos k5, if_neg c, if_neg (by omega), show decide ((l.length : Int) > 4) = false from by simp; omega]
              have e' := e k (by omega)
              dsimp only at e'
              simp only [types_fault.j1]
              rw [if_neg (by decide)]
              exact e'
          · by_cases k6 : a0 = 6
            · by_cases c : a3 < 1 ∨ a3 > 4
              · refine ⟨3, fun k hk2 => ?_⟩
                obtain ⟨k, rfl⟩ : ∃ j, k = j + 3 := ⟨k - 3, by omega⟩
                rw [hj0, if_neg k2, if_neg k2, if_neg k5, if_neg k5, if_pos k6, if_pos k6, if_pos c]
                split
                · simp only [types_fault.j3, if_true]
                · rw [show decide (a3 > 4) = true from by simp; omega]; simp only [types_fault.j3, if_true]
              · have hj3 : ∀ k, at_ types_fault.f ⟨a0, a1, a2, a3, l⟩ (k + 3) = types_fault.j3 (k + 1) false a0 a1 a2 a3 l := by
                  intro k
                  rw [hj0, if_neg k2, if_neg k5, if_pos k6, if_neg (by omega), show decide (a3 > 4) = false from by simp; omega]
                rw [if_neg k2, if_neg k5, if_pos k6, if_neg c]
                match l, hl, hb, hj3 with
                | [x], hl, hb, hj3 =>
                  obtain ⟨K, e⟩ := ih x (by omega) (hb.2 x List.mem_cons_self)
                  refine ⟨K + 3, fun k hk2 => ?_⟩
                  obtain ⟨k, rfl⟩ : ∃ j, k = j + 3 := ⟨k - 3, by omega⟩
                  have e' := e k (by omega)
                  unfold at_ at e'
                  rw [hj3]
                  simp only [types_fault.j3]
                  rw [if_neg (by decide), if_pos (by simp), if_pos (by simp), rdT0 (by simp), List.getElem_cons_zero, e', Option.bind_some]
                  simp only [lst1]
                  repeat' split
                  all_goals rfl
                | [], hl, hb, hj3 =>
                  refine ⟨3, fun k hk2 => ?_⟩
                  obtain ⟨k, rfl⟩ : ∃ j, k = j + 3 := ⟨k - 3, by omega⟩
                  rw [hj3]; simp only [types_fault.j3]; rfl
                | x :: y :: l, hl, hb, hj3 =>
                  refine ⟨3, fun k hk2 => ?_⟩
                  obtain ⟨k, rfl⟩ : ∃ j, k = j + 3 := ⟨k - 3, by omega⟩
                  rw [hj3]; simp only [types_fault.j3]
                  rw [if_neg (by decide), if_neg (by simp; omega)]; rfl
            · refine ⟨2, fun k hk2 => ?_⟩
              obtain ⟨k, rfl⟩ : ∃ j, k = j + 2 := ⟨k - 2, by omega⟩
              rw [hj0]
              simp only [if_neg k2, if_neg k5, if_neg k6]

end Go.Proofs.YtggelekooacmnaaDoor.Pure
