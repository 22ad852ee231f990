import Derived.Test.YtggelekooacmnaaVbu4
import Derived.Test.YtggelekooacmnaaVb17
set_option linter.unusedVariables false
set_option linter.unusedSimpArgs false
namespace Go.Proofs.Ytggelekooacmnaa.Pure
open Go.RowKit Go.Proofs.Ytggelekooacmnaa.Q Go.Proofs.YtggelekooacmnaaW.bS Go.Proofs.YtggelekooacmnaaW.eQ
def Bv : Nat → S31 → Prop
  | 0, _ => False
  | n + 1, v => v.f1.length ≤ 1000 ∧ ∀ x ∈ v.f1, Bv n x
theorem rdV {l : List S31} {i : Nat} (h : i < l.length) : bG l (i : Int) = l[i] := by
  unfold bG; simp [List.getD, h]
def ck1 (f : S27 → S31 → Int) : List S27 → List S31 → Int
  | t :: ts, v :: vs => if f t v = 0 then ck1 f ts vs else f t v
  | _, _ => 0
def ck2 (f : S31 → Int) : List S31 → Int
  | v :: vs => if f v = 0 then ck2 f vs else f v
  | [] => 0
def chk : Nat → S27 → S31 → Int
  | 0, _, _ => 0
  | n + 1, t, v =>
    if t.f0 = 5 then (if v.f0 ≠ 0 ∨ v.f1.length ≠ t.f4.length then 2 else ck1 (chk n) t.f4 v.f1)
    else if t.f0 = 6 then (if v.f0 ≠ 0 ∨ (v.f1.length : Int) > t.f3 then 2 else ck2 (chk n (af t.f4 0)) v.f1)
    else if v.f1.length ≠ 0 then 2
    else if t.f0 = 1 then (if v.f0 < 0 ∨ v.f0 > 1 then 1 else 0)
    else if t.f0 = 3 then (if v.f0 < 0 then 1 else 0)
    else (if v.f0 < t.f1 ∨ v.f0 > t.f2 then 1 else 0)
theorem QD {a1 a2 a3 : Int} {l : List S27} {i : Nat} (h : i < l.length) : lh.f 5 a1 a2 a3 l i = some ((l[i]).f0, (l[i]).f1, (l[i]).f2, (l[i]).f3, (l[i]).f4) := by
  unfold lh.f
  rw [if_neg (by decide), if_pos (by omega), if_pos (by omega), rdT h]
theorem QE {a1 a2 a3 i : Int} {x : S27} : lh.f 6 a1 a2 a3 [x] i = some (x.f0, x.f1, x.f2, x.f3, x.f4) := by
  unfold lh.f
  rw [if_pos rfl, if_pos (by simp), rd1]
abbrev at2 {α : Type} (g : Nat → Int → Int → Int → Int → List S27 → Int → List S31 → Option α) (t : S27) (v : S31) : Nat → Option α := fun k => g k t.f0 t.f1 t.f2 t.f3 t.f4 v.f0 v.f1
theorem aan (n : Nat) (ts : List S27) (vs : List S31) (hl : ts.length = vs.length) (h4 : ts.length ≤ 1000) (ih : ∀ (i : Nat) (h : i < ts.length) (h' : i < vs.length), Ev (at2 bC.f ts[i] vs[i]) (chk n ts[i] vs[i])) :
    ∀ (d i : Nat), i + d = vs.length → Ev (fun k => bC.l0 k vs vs.length i 5 0 0 0 ts) (ck1 (chk n) (ts.drop i) (vs.drop i)) := by
  intro d
  induction d with
  | zero =>
    intro i hi
    refine ⟨1, fun k hk => ?_⟩
    obtain ⟨k, rfl⟩ : ∃ j, k = j + 1 := ⟨k - 1, by omega⟩
    simp only [bC.l0]
    rw [if_neg (by omega), List.drop_eq_nil_of_le (show vs.length ≤ i by omega), List.drop_eq_nil_of_le (show ts.length ≤ i by omega)]; rfl
  | succ d IH =>
    intro i hi
    have hlt : i < vs.length := by omega
    have hlt' : i < ts.length := by omega
    obtain ⟨K1, e1⟩ := ih i hlt' hlt
    obtain ⟨K2, e2⟩ := IH (i + 1) (by omega)
    refine ⟨max K1 K2 + 1, fun k hk => ?_⟩
    obtain ⟨k, rfl⟩ : ∃ j, k = j + 1 := ⟨k - 1, by omega⟩
    have e1' := e1 k (by omega)
    have e2' := e2 k (by omega)
    dsimp only [at2] at e1' e2'
    simp only [bC.l0]
    rw [if_pos (by omega), if_pos (by omega), if_pos (by omega), QD hlt', Option.bind_some, rdV hlt, e1', Option.bind_some, kT (by omega), e2', List.drop_eq_getElem_cons hlt, List.drop_eq_getElem_cons hlt']
    simp only [ck1]
    split <;> rfl
theorem aao (n : Nat) (x : S27) (a1 a2 a3 : Int) (vs : List S31) (h4 : vs.length ≤ 1000) (ih : ∀ (i : Nat) (h' : i < vs.length), Ev (at2 bC.f x vs[i]) (chk n x vs[i])) :
    ∀ (d i : Nat), i + d = vs.length → Ev (fun k => bC.l0 k vs vs.length i 6 a1 a2 a3 [x]) (ck2 (chk n x) (vs.drop i)) := by
  intro d
  induction d with
  | zero =>
    intro i hi
    refine ⟨1, fun k hk => ?_⟩
    obtain ⟨k, rfl⟩ : ∃ j, k = j + 1 := ⟨k - 1, by omega⟩
    simp only [bC.l0]
    rw [if_neg (by omega), List.drop_eq_nil_of_le (by omega)]; rfl
  | succ d IH =>
    intro i hi
    have hlt : i < vs.length := by omega
    obtain ⟨K1, e1⟩ := ih i hlt
    obtain ⟨K2, e2⟩ := IH (i + 1) (by omega)
    refine ⟨max K1 K2 + 1, fun k hk => ?_⟩
    obtain ⟨k, rfl⟩ : ∃ j, k = j + 1 := ⟨k - 1, by omega⟩
    have e1' := e1 k (by omega)
    have e2' := e2 k (by omega)
    dsimp only [at2] at e1' e2'
    simp only [bC.l0]
    rw [if_pos (by omega), if_pos (by omega), if_pos (by omega), QE, Option.bind_some, rdV hlt, e1', Option.bind_some, kT (by omega), e2', List.drop_eq_getElem_cons hlt]
    simp only [ck2]
    split <;> rfl
theorem Xo (n : Nat) : ∀ {t : S27} {v : S31} {m : Nat}, Vt n t → t.f0 ≠ 4 → Bv m v → n ≤ m → Ev (at2 bC.f t v) (chk n t v) := by
  induction n with
  | zero => intro t v m h; cases h
  | succ n ih =>
    intro t v m h hr hb hm
    obtain ⟨m, rfl⟩ : ∃ e, m = e + 1 := ⟨m - 1, by omega⟩
    obtain ⟨v0, vs⟩ := v
    have hvl : vs.length ≤ 1000 := hb.1
    have leaf : ∀ a0 a1 a2 a3 : Int, ∀ l, a0 ≠ 5 → a0 ≠ 6 → ∀ k, at2 bC.f ⟨a0, a1, a2, a3, l⟩ ⟨v0, vs⟩ (k + 2) = (if (vs.length : Int) = 0 then (if a0 = 1 then (if v0 < a1 then (some 1) else (if v0 > 1 then (some 1) else (some 0))) else (if a0 = 3 then (if v0 < a1 then (some 1) else (if v0 > v0 then (some 1) else (some 0))) else (if v0 < a1 then (some 1) else (if v0 > a2 then (some 1) else (some 0))))) else (some 2)) := by
      intro a0 a1 a2 a3 l h5 h6 k
      simp only [at2, bC.f, if_neg h5]
      rw [show (a0 == 6) = false from by simpa using h6]
      simp only [bC.j0]
      rw [if_neg (by decide)]
    have lf : ∀ a0 a1 a2 : Int, a0 ≠ 5 → a0 ≠ 6 → (a0 = 1 → a1 = 0) → (a0 = 3 → a1 = 0) → Ev (at2 bC.f ⟨a0, a1, a2, 0, []⟩ ⟨v0, vs⟩) (chk (n + 1) ⟨a0, a1, a2, 0, []⟩ ⟨v0, vs⟩) := by
      intro a0 a1 a2 h5 h6 h1 h3
      refine ⟨2, fun k hk => ?_⟩
      obtain ⟨k, rfl⟩ : ∃ j, k = j + 2 := ⟨k - 2, by omega⟩
      rw [leaf _ _ _ _ _ h5 h6]
      simp only [chk, if_neg h5, if_neg h6]
      by_cases hz : vs.length = 0
      · have hz' : (vs.length : Int) = 0 := by omega
        rw [if_pos hz', if_neg (show ¬ (vs.length ≠ 0) by omega)]
        by_cases k1 : a0 = 1
        · simp only [if_pos k1, h1 k1]
          by_cases c1 : v0 < 0
          · rw [if_pos c1, if_pos (.inl c1)]
          · by_cases c2 : v0 > 1
            · rw [if_neg c1, if_pos c2, if_pos (.inr c2)]
            · rw [if_neg c1, if_neg c2, if_neg (by omega)]
        · simp only [if_neg k1]
          by_cases k3 : a0 = 3
          · simp only [if_pos k3, h3 k3]
            rw [if_neg (show ¬ v0 > v0 by omega)]
            split <;> rfl
          · simp only [if_neg k3]
            by_cases c1 : v0 < a1
            · rw [if_pos c1, if_pos (.inl c1)]
            · by_cases c2 : v0 > a2
              · rw [if_neg c1, if_pos c2, if_pos (.inr c2)]
              · rw [if_neg c1, if_neg c2, if_neg (by omega)]
      · rw [if_neg (show ¬ (vs.length : Int) = 0 by omega), if_pos hz]
    cases h with
    | bool => exact lf _ _ _ (by decide) (by decide) (fun _ => rfl) (fun _ => rfl)
    | int _ lo hi h1 h2 h3 => exact lf _ _ _ (by decide) (by decide) (fun h => absurd h (by decide)) (fun h => absurd h (by decide))
    | nat => exact lf _ _ _ (by decide) (by decide) (fun _ => rfl) (fun _ => rfl)
    | real => exact absurd rfl hr
    | tup _ l h1 h2 h3 h4 =>
      have hj : ∀ k, at2 bC.f ⟨5, 0, 0, 0, l⟩ ⟨v0, vs⟩ (k + 2) = (if v0 = 0 then (if (vs.length : Int) = (l.length : Int) then bC.j1 k false 5 0 0 0 l v0 vs else bC.j1 k true 5 0 0 0 l v0 vs) else bC.j1 k true 5 0 0 0 l v0 vs) := by
        intro k
        simp only [at2, bC.f, bC.j0, if_pos]
        simp
      have hs : chk (n + 1) ⟨5, 0, 0, 0, l⟩ ⟨v0, vs⟩ = (if v0 ≠ 0 ∨ vs.length ≠ l.length then 2 else ck1 (chk n) l vs) := by simp only [chk, if_pos]
      rw [hs]
      by_cases c : v0 ≠ 0 ∨ vs.length ≠ l.length
      · refine ⟨3, fun k hk => ?_⟩
        obtain ⟨k, rfl⟩ : ∃ j, k = j + 3 := ⟨k - 3, by omega⟩
        rw [hj, if_pos c]
        split
        · rw [if_neg (by omega)]; simp only [bC.j1, if_pos]
        · simp only [bC.j1, if_pos]
      · have hlen : l.length = vs.length := by omega
        obtain ⟨K, e⟩ := aan n l vs hlen (by omega) (fun i hi hi' => ih (h3 _ (List.getElem_mem hi)) (h4 _ (List.getElem_mem hi)).2 (hb.2 _ (List.getElem_mem hi')) (by omega)) vs.length 0 (by omega)
        refine ⟨K + 3, fun k hk => ?_⟩
        obtain ⟨k, rfl⟩ : ∃ j, k = j + 3 := ⟨k - 3, by omega⟩
        rw [hj, if_neg c, if_pos (by omega), if_pos (by omega)]
        have e' := e k (by omega)
        dsimp only at e'
        simp only [bC.j1]
        rw [if_neg (by decide)]
        simpa using e'
    | lst _ mm x h1 h2 h3 h4 =>
      have hj : ∀ k, at2 bC.f ⟨6, 0, 0, mm, [x]⟩ ⟨v0, vs⟩ (k + 2) = (if v0 = 0 then bC.j1 k (decide ((vs.length : Int) > mm)) 6 0 0 mm [x] v0 vs else bC.j1 k true 6 0 0 mm [x] v0 vs) := by
        intro k
        simp only [at2, bC.f, bC.j0]
        simp
      have hs : chk (n + 1) ⟨6, 0, 0, mm, [x]⟩ ⟨v0, vs⟩ = (if v0 ≠ 0 ∨ (vs.length : Int) > mm then 2 else ck2 (chk n x) vs) := by simp [chk, rd1]
      rw [hs]
      by_cases c : v0 ≠ 0 ∨ (vs.length : Int) > mm
      · refine ⟨3, fun k hk => ?_⟩
        obtain ⟨k, rfl⟩ : ∃ j, k = j + 3 := ⟨k - 3, by omega⟩
        rw [hj, if_pos c]
        split
        · rw [show decide ((vs.length : Int) > mm) = true from by simp; omega]; simp only [bC.j1, if_pos]
        · simp only [bC.j1, if_pos]
      · have hx4 : x.f0 ≠ 4 := by omega
        obtain ⟨K, e⟩ := aao n x 0 0 mm vs hvl (fun i hi' => ih h3 hx4 (hb.2 _ (List.getElem_mem hi')) (by omega)) vs.length 0 (by omega)
        refine ⟨K + 3, fun k hk => ?_⟩
        obtain ⟨k, rfl⟩ : ∃ j, k = j + 3 := ⟨k - 3, by omega⟩
        rw [hj, if_neg c, if_pos (by omega), show decide ((vs.length : Int) > mm) = false from by simp; omega]
        have e' := e k (by omega)
        dsimp only at e'
        simp only [bC.j1]
        rw [if_neg (by decide)]
        simpa using e'
end Go.Proofs.Ytggelekooacmnaa.Pure
