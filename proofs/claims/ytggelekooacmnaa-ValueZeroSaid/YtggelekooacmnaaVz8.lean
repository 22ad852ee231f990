/- Lemmas for: EC that ru is true for every list of numbers: the zero of a type is a value of it, and the cells of a list behind its length are the zero of its element. -/
import Derived.SizedLaws
import Derived.ChangeSlices
import Derived.Test.YtggelekooacmnaaVz2
import Derived.Test.YtggelekooacmnaaVz3
import Derived.Test.YtggelekooacmnaaVz5
import Derived.Test.YtggelekooacmnaaVz6
import Derived.Test.YtggelekooacmnaaVz7
set_option linter.unusedVariables false
set_option linter.unusedSimpArgs false
namespace Go.Proofs.Ytggelekooacmnaa.Pure
open Go.RowKit Go.Proofs.Ytggelekooacmnaa.Z Go.Proofs.YtggelekooacmnaaW.bM Go.Proofs.YtggelekooacmnaaW.dR Go.Proofs.YtggelekooacmnaaW.eO
-- values: the printer's check and wrong are plain functions here
theorem UF {a1 a2 a3 : Int} {l : List S27} {i : Nat} (h : i < l.length) : ma.f 5 a1 a2 a3 l i = some ((l[i]).f0, (l[i]).f1, (l[i]).f2, (l[i]).f3, (l[i]).f4) := by
  unfold ma.f
  rw [if_neg (by decide), if_pos (by omega), if_pos (by omega), rdT h]
theorem UG {a1 a2 a3 i : Int} {x : S27} : ma.f 6 a1 a2 a3 [x] i = some (x.f0, x.f1, x.f2, x.f3, x.f4) := by
  unfold ma.f
  rw [if_pos rfl, if_pos (by simp), rd1]
abbrev at2 {α : Type} (g : Nat → Int → Int → Int → Int → List S27 → Int → List S31 → Option α) (t : S27) (v : S31) : Nat → Option α := fun k => g k t.f0 t.f1 t.f2 t.f3 t.f4 v.f0 v.f1
theorem Ut (n : Nat) {t : S27} {v : S31} {m : Nat} (h : Vt 10 t) (h4 : t.f0 ≠ 4) (_ : Bv m v) (_ : 10 ≤ m) : Ev (fun _ => kz.f t.f0 t.f1 t.f2 t.f3 t.f4 v.f0 v.f1) (chk 10 t v) :=
  ⟨0, fun k _ => by show (if vtb 10 t = true then some (chk 10 t v) else none) = _; rw [if_pos (vt_vtb 10 h h4)]⟩
theorem XQ (n : Nat) {t : S27} {v : S31} {m : Nat} (h : Vt 10 t) (h4 : t.f0 ≠ 4) (_ : Bv m v) (_ : 10 ≤ m) : Ev (fun _ => kM.f t.f0 t.f1 t.f2 t.f3 t.f4 v.f0 v.f1) (chk 10 t v) :=
  ⟨0, fun k _ => by show (if vtb 10 t = true then some (chk 10 t v) else none) = _; rw [if_pos (vt_vtb 10 h h4)]⟩

-- values: zero, cells
/-- the zero -/
def zr (x : S27) : Int := if x.f0 = 2 then max x.f1 (min 0 x.f2) else 0
def zv : Nat → S27 → S31
  | 0, _ => ⟨0, []⟩
  | n + 1, t => if t.f0 = 2 then ⟨zr t, []⟩ else if t.f0 = 5 then ⟨0, t.f4.map (zv n)⟩ else ⟨0, []⟩
theorem etaV (v : S31) : (⟨v.f0, v.f1⟩ : S31) = v := by cases v; rfl
theorem etaT (t : S27) : (⟨t.f0, t.f1, t.f2, t.f3, t.f4⟩ : S27) = t := by cases t; rfl
theorem zero_l0 (n : Nat) (l : List S27) (hl : l.length ≤ 4) (ih : ∀ t ∈ l, Ev (at_ dE.f t) ((zv n t).f0, (zv n t).f1)) :
    ∀ (d i : Nat) (o : List S31), o.length ≤ i → i + d = l.length → Ev (fun k => dE.l0 k l l.length i 0 o) ((0 : Int), o ++ (l.drop i).map (zv n)) := by
  intro d
  induction d with
  | zero =>
    intro i o ho hi
    refine ⟨1, fun k hk => ?_⟩
    obtain ⟨k, rfl⟩ : ∃ j, k = j + 1 := ⟨k - 1, by omega⟩
    simp only [dE.l0]
    rw [if_neg (by omega), List.drop_eq_nil_of_le (by omega)]; simp
  | succ d IH =>
    intro i o ho hi
    have hlt : i < l.length := by omega
    obtain ⟨K1, e1⟩ := ih l[i] (List.getElem_mem hlt)
    obtain ⟨K2, e2⟩ := IH (i + 1) (o ++ [zv n l[i]]) (by rw [List.length_append, List.length_singleton]; omega) (by omega)
    refine ⟨max K1 K2 + 1, fun k hk => ?_⟩
    obtain ⟨k, rfl⟩ : ∃ j, k = j + 1 := ⟨k - 1, by omega⟩
    have e1' := e1 k (by omega)
    have e2' := e2 k (by omega)
    unfold at_ at e1'
    dsimp only at e1' e2'
    simp only [dE.l0]
    rw [if_pos (by omega), if_pos (by omega), if_pos (by omega), rdT hlt, e1', Option.bind_some, if_pos (by omega), lQ (by omega), etaV, e2', List.append_assoc, List.drop_eq_getElem_cons hlt]
    rfl
theorem Xl (n : Nat) : ∀ {t : S27}, Vt n t → Ev (at_ dE.f t) ((zv n t).f0, (zv n t).f1) := by
  induction n with
  | zero => intro t h; cases h
  | succ n ih =>
    intro t h
    by_cases k5 : t.f0 = 5
    · cases h with
      | tup _ l h1 h2 h3 h4 =>
        obtain ⟨K, e⟩ := zero_l0 n l h2 (fun x hx => ih (h3 x hx)) l.length 0 [] (by simp) (by omega)
        refine ⟨K + 1, fun k hk => ?_⟩
        obtain ⟨k, rfl⟩ : ∃ j, k = j + 1 := ⟨k - 1, by omega⟩
        have e' := e k (by omega)
        simp only [at_, dE.f, zv]
        simpa using e'
      | _ => simp at k5
    · refine ⟨1, fun k hk => ?_⟩
      obtain ⟨k, rfl⟩ : ∃ j, k = j + 1 := ⟨k - 1, by omega⟩
      simp only [at_, dE.f, zv, zr]
      by_cases k2 : t.f0 = 2
      · simp only [if_pos k2, mx_eq, mn_eq]
      · simp only [if_neg k2, if_neg k5]
/-- the cells -/
def yI (f : S27 → S31 → List Int) : List S27 → List S31 → List Int
  | t :: ts, v :: vs => f t v ++ yI f ts vs
  | _, _ => []
def cel : Nat → S27 → S31 → List Int
  | 0, _, _ => []
  | n + 1, t, v => if t.f0 = 5 then yI (cel n) t.f4 v.f1
    else if t.f0 = 6 then (v.f1.length : Int) :: (v.f1.map (fun x => x.f0) ++ List.replicate (t.f3.toNat - v.f1.length) (zr (aj t.f4 0)))
    else [v.f0]
theorem ck1_at {f : S27 → S31 → Int} : ∀ {ts : List S27} {vs : List S31}, ck1 f ts vs = 0 → ∀ (i : Nat) (h : i < ts.length) (h' : i < vs.length), f ts[i] vs[i] = 0
  | t :: ts, v :: vs, h, i, hi, hi' => by
    simp only [ck1] at h
    by_cases hc : f t v = 0
    · rw [if_pos hc] at h
      cases i with
      | zero => exact hc
      | succ i => exact ck1_at h i (by simpa using hi) (by simpa using hi')
    · rw [if_neg hc] at h; exact absurd h hc
  | [], _, _, i, hi, _ => by simp at hi
  | _ :: _, [], _, i, _, hi => by simp at hi
theorem ck2_at {f : S31 → Int} : ∀ {vs : List S31}, ck2 f vs = 0 → ∀ v ∈ vs, f v = 0
  | v :: vs, h, x, hx => by
    simp only [ck2] at h
    by_cases hc : f v = 0
    · rw [if_pos hc] at h
      rcases List.mem_cons.1 hx with rfl | hx
      · exact hc
      · exact ck2_at h x hx
    · rw [if_neg hc] at h; exact absurd h hc
  | [], _, x, hx => by simp at hx
/-- what a value of a valid type is -/
theorem Te {n : Nat} {l : List S27} {v : S31} (h : chk (n + 1) ⟨5, 0, 0, 0, l⟩ v = 0) : v.f0 = 0 ∧ v.f1.length = l.length ∧ ∀ (i : Nat) (h : i < l.length) (h' : i < v.f1.length), chk n l[i] v.f1[i] = 0 := by
  simp only [chk, if_pos] at h
  by_cases c : v.f0 ≠ 0 ∨ v.f1.length ≠ l.length
  · rw [if_pos c] at h; simp at h
  · rw [if_neg c] at h
    exact ⟨by omega, by omega, ck1_at h⟩
theorem Oj {n : Nat} {m : Int} {x : S27} {v : S31} (h : chk (n + 1) ⟨6, 0, 0, m, [x]⟩ v = 0) : v.f0 = 0 ∧ (v.f1.length : Int) ≤ m ∧ ∀ y ∈ v.f1, chk n x y = 0 := by
  have hs : chk (n + 1) ⟨6, 0, 0, m, [x]⟩ v = (if v.f0 ≠ 0 ∨ (v.f1.length : Int) > m then 2 else ck2 (chk n x) v.f1) := by simp [chk, rd1]
  rw [hs] at h
  by_cases c : v.f0 ≠ 0 ∨ (v.f1.length : Int) > m
  · rw [if_pos c] at h; simp at h
  · rw [if_neg c] at h
    exact ⟨by omega, by omega, ck2_at h⟩
theorem Uu {n : Nat} {t : S27} {v : S31} (h5 : t.f0 ≠ 5) (h6 : t.f0 ≠ 6) (h : chk (n + 1) t v = 0) : v.f1 = [] ∧ (t.f0 = 1 → 0 ≤ v.f0 ∧ v.f0 ≤ 1) ∧ (t.f0 = 3 → 0 ≤ v.f0) ∧ (t.f0 ≠ 1 → t.f0 ≠ 3 → t.f1 ≤ v.f0 ∧ v.f0 ≤ t.f2) := by
  simp only [chk, if_neg h5, if_neg h6] at h
  by_cases c : v.f1.length ≠ 0
  · rw [if_pos c] at h; simp at h
  · rw [if_neg c] at h
    refine ⟨List.eq_nil_of_length_eq_zero (by omega), ?_, ?_, ?_⟩
    · intro h1
      simp only [if_pos h1] at h
      split at h <;> omega
    · intro h3
      have h1 : t.f0 ≠ 1 := by omega
      simp only [if_neg h1, if_pos h3] at h
      split at h <;> omega
    · intro h1 h3
      simp only [if_neg h1, if_neg h3] at h
      split at h <;> omega
theorem Uv {n : Nat} : ∀ {ts : List S27} {vs : List S31}, ts.length = vs.length → (∀ (i : Nat) (h : i < ts.length) (h' : i < vs.length), (cel n ts[i] vs[i]).length = (prt n ts[i]).length) → (yI (cel n) ts vs).length = (ts.map (prt n)).flatten.length
  | [], [], _, _ => rfl
  | t :: ts, v :: vs, hl, h => by
    simp only [yI, List.length_append, List.map_cons, List.flatten_cons]
    have h0 := h 0 (by simp) (by simp)
    simp only [List.getElem_cons_zero] at h0
    rw [h0, Uv (by simpa using hl) (fun i h1 h2 => h (i + 1) (Nat.succ_lt_succ h1) (Nat.succ_lt_succ h2))]
  | [], _ :: _, hl, _ => by simp at hl
  | _ :: _, [], hl, _ => by simp at hl
theorem Tf (n : Nat) : ∀ {t : S27} {v : S31}, Vt n t → chk n t v = 0 → (cel n t v).length = (prt n t).length := by
  induction n with
  | zero => intro t v h; cases h
  | succ n ih =>
    intro t v h hc
    cases h with
    | bool => simp [cel, prt]
    | int _ lo hi h1 h2 h3 => simp [cel, prt]
    | nat => simp [cel, prt]
    | real => simp [cel, prt]
    | tup _ l h1 h2 h3 h4 =>
      obtain ⟨_, hl, ha⟩ := Te hc
      rw [prt5, show cel (n + 1) ⟨5, 0, 0, 0, l⟩ v = yI (cel n) l v.f1 from by simp [cel]]
      exact Uv hl.symm (fun i h1 h2 => ih (h3 _ (List.getElem_mem h1)) (ha i h1 h2))
    | lst _ m x h1 h2 h3 h4 =>
      obtain ⟨_, hl, ha⟩ := Oj hc
      rw [prt6, List.length_cons, Kg, Kh h3 h4]
      simp [cel]; omega

end Go.Proofs.Ytggelekooacmnaa.Pure
set_option linter.unusedVariables false
set_option linter.unusedSimpArgs false
namespace Go.Proofs.Ytggelekooacmnaa.Pure
open Go.RowKit Go.Proofs.Ytggelekooacmnaa.Z Go.Proofs.YtggelekooacmnaaW.bM Go.Proofs.YtggelekooacmnaaW.dR Go.Proofs.YtggelekooacmnaaW.eO
-- flatten, read, XR
theorem Vv.bd1 {n m : Nat} {v : S31} (hb : Bv (m + 1) v) (i : Nat) (h : i < v.f1.length) : Bv m v.f1[i] := hb.2 _ (List.getElem_mem h)
theorem flat_l0 (n : Nat) (ts : List S27) (vs : List S31) (hl : ts.length = vs.length) (h4 : ts.length ≤ 4) (B : Nat) (hB : B ≤ 10000000) (ih : ∀ (i : Nat) (h : i < ts.length) (h' : i < vs.length), Ev (at2 aV.f ts[i] vs[i]) (cel n ts[i] vs[i]) ∧ (cel n ts[i] vs[i]).length ≤ B) :
    ∀ (d i : Nat) (o : List Int), o.length ≤ i * B → i + d = vs.length → Ev (fun k => aV.l0 k o vs vs.length i 5 0 0 0 ts) (o ++ yI (cel n) (ts.drop i) (vs.drop i)) := by
  intro d
  induction d with
  | zero =>
    intro i o ho hi
    refine ⟨1, fun k hk => ?_⟩
    obtain ⟨k, rfl⟩ : ∃ j, k = j + 1 := ⟨k - 1, by omega⟩
    simp only [aV.l0]
    rw [if_neg (by omega), List.drop_eq_nil_of_le (show vs.length ≤ i by omega), List.drop_eq_nil_of_le (show ts.length ≤ i by omega)]; simp [yI]
  | succ d IH =>
    intro i o ho hi
    have hlt : i < vs.length := by omega
    have hlt' : i < ts.length := by omega
    obtain ⟨⟨K1, e1⟩, hb⟩ := ih i hlt' hlt
    have hm : (o ++ cel n ts[i] vs[i]).length ≤ (i + 1) * B := by rw [List.length_append, Nat.add_mul]; omega
    have hm2 : (i + 1) * B ≤ 4 * B := Nat.mul_le_mul_right _ (by omega)
    obtain ⟨K2, e2⟩ := IH (i + 1) (o ++ cel n ts[i] vs[i]) hm (by omega)
    refine ⟨max K1 K2 + 1, fun k hk => ?_⟩
    obtain ⟨k, rfl⟩ : ∃ j, k = j + 1 := ⟨k - 1, by omega⟩
    have e1' := e1 k (by omega)
    have e2' := e2 k (by omega)
    dsimp only [at2] at e1' e2'
    rw [List.length_append] at hm
    simp only [aV.l0]
    rw [if_pos (by omega), if_pos (by omega), if_pos (by omega), if_pos (by omega), rdT hlt', rdV hlt, e1', Option.bind_some, if_pos (by omega), lQ (by omega), e2', List.append_assoc, List.drop_eq_getElem_cons hlt, List.drop_eq_getElem_cons hlt']
    rfl
theorem Cm {t : S27} {v : S31} (h5 : t.f0 ≠ 5) (h6 : t.f0 ≠ 6) : Ev (at2 aV.f t v) [v.f0] := by
  refine ⟨1, fun k hk => ?_⟩
  obtain ⟨k, rfl⟩ : ∃ j, k = j + 1 := ⟨k - 1, by omega⟩
  simp only [at2, aV.f, if_neg h5, if_neg h6]
theorem flat_l2 (n : Nat) (x : S27) (m : Int) (hx : Vt n x) (hs : x.f0 = 1 ∨ x.f0 = 2) (N : Nat) (hN : N ≤ 4) :
    ∀ (d i : Nat) (o : List Int), o.length ≤ 100 + i → i + d = N → Ev (fun k => aV.l2 k o N i 6 0 0 m [x]) (o ++ List.replicate d (zr x)) := by
  intro d
  induction d with
  | zero =>
    intro i o ho hi
    refine ⟨1, fun k hk => ?_⟩
    obtain ⟨k, rfl⟩ : ∃ j, k = j + 1 := ⟨k - 1, by omega⟩
    simp only [aV.l2]
    rw [if_neg (by omega)]; simp
  | succ d IH =>
    intro i o ho hi
    obtain ⟨K1, e1⟩ := Xl n hx
    have hz : (zv n x).f0 = zr x := by
      cases hx with
      | bool => simp [zv, zr]
      | int _ lo hi h1 h2 h3 => simp [zv]
      | _ => simp at hs
    obtain ⟨K3, e3⟩ := Cm (t := x) (v := zv n x) (by omega) (by omega)
    obtain ⟨K2, e2⟩ := IH (i + 1) (o ++ [zr x]) (by rw [List.length_append, List.length_singleton]; omega) (by omega)
    refine ⟨max K1 (max K2 K3) + 1, fun k hk => ?_⟩
    obtain ⟨k, rfl⟩ : ∃ j, k = j + 1 := ⟨k - 1, by omega⟩
    have e1' := e1 k (by omega)
    have e2' := e2 k (by omega)
    have e3' := e3 k (by omega)
    unfold at_ at e1'
    dsimp only [at2] at e1' e2' e3'
    simp only [aV.l2]
    rw [if_pos (by omega), if_pos (by simp), rd1, e1', Option.bind_some, e3', Option.bind_some, if_pos (by rw [List.length_singleton]; omega), lQ (by omega), hz, e2', List.append_assoc]
    rfl
theorem flat_l1 (n : Nat) (x : S27) (m v0 : Int) (vs ws : List S31) (hs : x.f0 = 1 ∨ x.f0 = 2) (h4 : vs.length ≤ 4) (r : List Int → List Int)
    (fin : ∀ o : List Int, o.length ≤ 100 → Ev (fun k => aV.l2 k o (wrap64 (m - (ws.length : Int))) 0 6 0 0 m [x]) (r o)) :
    ∀ (d i : Nat) (o : List Int), o.length ≤ 1 + i → i + d = vs.length → Ev (fun k => aV.l1 k o vs vs.length i 6 0 0 m [x] v0 ws) (r (o ++ (vs.drop i).map (fun y => y.f0))) := by
  intro d
  induction d with
  | zero =>
    intro i o ho hi
    obtain ⟨K, e⟩ := fin o (by omega)
    refine ⟨K + 1, fun k hk => ?_⟩
    obtain ⟨k, rfl⟩ : ∃ j, k = j + 1 := ⟨k - 1, by omega⟩
    have e' := e k (by omega)
    dsimp only at e'
    simp only [aV.l1]
    rw [if_neg (by omega), e', List.drop_eq_nil_of_le (by omega)]; simp
  | succ d IH =>
    intro i o ho hi
    have hlt : i < vs.length := by omega
    obtain ⟨K3, e3⟩ := Cm (t := x) (v := vs[i]) (by omega) (by omega)
    obtain ⟨K2, e2⟩ := IH (i + 1) (o ++ [vs[i].f0]) (by rw [List.length_append, List.length_singleton]; omega) (by omega)
    refine ⟨max K2 K3 + 1, fun k hk => ?_⟩
    obtain ⟨k, rfl⟩ : ∃ j, k = j + 1 := ⟨k - 1, by omega⟩
    have e2' := e2 k (by omega)
    have e3' := e3 k (by omega)
    dsimp only [at2] at e2' e3'
    simp only [aV.l1]
    rw [if_pos (by omega), if_pos (by omega), if_pos (by omega), if_pos (by simp), rd1, rdV hlt, e3', Option.bind_some, if_pos (by rw [List.length_singleton]; omega), lQ (by omega), e2', List.append_assoc, List.drop_eq_getElem_cons hlt]
    rfl
theorem QT (n : Nat) : ∀ {t : S27} {v : S31} {m : Nat}, n ≤ 10 → Vt n t → Bv m v → n ≤ m → chk n t v = 0 → Ev (at2 aV.f t v) (cel n t v) := by
  induction n with
  | zero => intro t v m _ h; cases h
  | succ n ih =>
    intro t v m hn h hb hm hc
    obtain ⟨m, rfl⟩ : ∃ e, m = e + 1 := ⟨m - 1, by omega⟩
    cases h with
    | bool => simp only [cel]; exact Cm (by decide) (by decide)
    | int _ lo hi h1 h2 h3 => simp only [cel]; exact Cm (by simp) (by simp)
    | nat => simp only [cel]; exact Cm (by decide) (by decide)
    | real => simp only [cel]; exact Cm (by decide) (by decide)
    | tup _ l h1 h2 h3 h4 =>
      obtain ⟨_, hl, ha⟩ := Te hc
      have hp := pow5 (show n ≤ 9 by omega)
      obtain ⟨K, e⟩ := flat_l0 n l v.f1 hl.symm h2 (5 ^ n) (by omega) (fun i hi hi' => ⟨ih (by omega) (h3 _ (List.getElem_mem hi)) (Vv.bd1 (n := n) hb i hi') (by omega) (ha i hi hi'), by
        rw [Tf n (h3 _ (List.getElem_mem hi)) (ha i hi hi')]; exact (Gs n (h3 _ (List.getElem_mem hi))).1⟩) v.f1.length 0 [] (by simp) (by omega)
      rw [show cel (n + 1) ⟨5, 0, 0, 0, l⟩ v = yI (cel n) l v.f1 from by simp [cel]]
      refine ⟨K + 1, fun k hk => ?_⟩
      obtain ⟨k, rfl⟩ : ∃ j, k = j + 1 := ⟨k - 1, by omega⟩
      have e' := e k (by omega)
      simp only [at2, aV.f]
      simpa using e'
    | lst _ mm x h1 h2 h3 h4 =>
      obtain ⟨_, hl, ha⟩ := Oj hc
      have hN : wrap64 (mm - (v.f1.length : Int)) = ((mm.toNat - v.f1.length : Nat) : Int) := by unfold wrap64; omega
      have fin : ∀ o : List Int, o.length ≤ 100 → Ev (fun k => aV.l2 k o (wrap64 (mm - (v.f1.length : Int))) 0 6 0 0 mm [x]) (o ++ List.replicate (mm.toNat - v.f1.length) (zr x)) := by
        intro o ho
        rw [hN]
        exact flat_l2 n x mm h3 h4 (mm.toNat - v.f1.length) (by omega) _ 0 o (by omega) (by omega)
      obtain ⟨K, e⟩ := flat_l1 n x mm v.f0 v.f1 v.f1 h4 (by omega) _ fin v.f1.length 0 [(v.f1.length : Int)] (by simp) (by omega)
      refine ⟨K + 1, fun k hk => ?_⟩
      obtain ⟨k, rfl⟩ : ∃ j, k = j + 1 := ⟨k - 1, by omega⟩
      have e' := e k (by omega)
      simp only [at2, aV.f, cel]
      simpa [rd1] using e'
theorem eq_l0 (l m : List Int) (hl : l.length = m.length) (hb : l.length ≤ 1000000000) : ∀ (d i : Nat), i + d = l.length → Ev (fun k => bZ.l0 k l m l.length i) (decide (l.drop i = m.drop i)) := by
  intro d
  induction d with
  | zero =>
    intro i hi
    refine ⟨1, fun k hk => ?_⟩
    obtain ⟨k, rfl⟩ : ∃ j, k = j + 1 := ⟨k - 1, by omega⟩
    simp only [bZ.l0]
    rw [if_neg (by omega), List.drop_eq_nil_of_le (show l.length ≤ i by omega), List.drop_eq_nil_of_le (show m.length ≤ i by omega)]; simp
  | succ d IH =>
    intro i hi
    have hlt : i < l.length := by omega
    have hlt' : i < m.length := by omega
    obtain ⟨K2, e2⟩ := IH (i + 1) (by omega)
    refine ⟨K2 + 1, fun k hk => ?_⟩
    obtain ⟨k, rfl⟩ : ∃ j, k = j + 1 := ⟨k - 1, by omega⟩
    have e2' := e2 k (by omega)
    dsimp only at e2'
    have r1 : rd l (i : Int) = l[i] := by simp [rd, List.getD, hlt]
    have r2 : rd m (i : Int) = m[i] := by simp [rd, List.getD, hlt']
    have hiff : (l.drop i = m.drop i) ↔ (l[i] = m[i] ∧ l.drop (i + 1) = m.drop (i + 1)) := by
      rw [List.drop_eq_getElem_cons hlt, List.drop_eq_getElem_cons hlt', List.cons.injEq]
    simp only [bZ.l0]
    rw [if_pos (by omega), if_pos (by omega), if_pos (by omega), if_pos (by omega), r1, r2, lQ (by omega), e2']
    by_cases c : l[i] = m[i]
    · rw [if_pos c]; congr 1; rw [decide_eq_decide, hiff]; simp [c]
    · rw [if_neg c, decide_eq_false (fun h => c (hiff.1 h).1)]
theorem equal_ev (l m : List Int) (hb : l.length ≤ 1000000000) : Ev (fun k => bZ.f k l m) (decide (l = m)) := by
  unfold bZ.f
  by_cases hl : l.length = m.length
  · simp only [if_pos (show (l.length : Int) = (m.length : Int) by omega)]
    simpa using eq_l0 l m hl hb l.length 0 (by omega)
  · simp only [if_neg (show ¬ (l.length : Int) = (m.length : Int) by omega)]
    rw [decide_eq_false (fun h => hl (by rw [h]))]
    exact Ev.now _
theorem same_l0 (l m : List Int) (hl : l.length = m.length) (hb : l.length ≤ 1000000000) : ∀ (d i : Nat), i + d = l.length → Ev (fun k => bS.l0 k l m i) (decide (l.drop i = m.drop i)) := by
  intro d
  induction d with
  | zero =>
    intro i hi
    refine ⟨1, fun k hk => ?_⟩
    obtain ⟨k, rfl⟩ : ∃ j, k = j + 1 := ⟨k - 1, by omega⟩
    simp only [bS.l0]
    rw [if_neg (by omega), List.drop_eq_nil_of_le (show l.length ≤ i by omega), List.drop_eq_nil_of_le (show m.length ≤ i by omega)]; simp
  | succ d IH =>
    intro i hi
    have hlt : i < l.length := by omega
    have hlt' : i < m.length := by omega
    obtain ⟨K2, e2⟩ := IH (i + 1) (by omega)
    refine ⟨K2 + 1, fun k hk => ?_⟩
    obtain ⟨k, rfl⟩ : ∃ j, k = j + 1 := ⟨k - 1, by omega⟩
    have e2' := e2 k (by omega)
    dsimp only at e2'
    have r1 : rd l (i : Int) = l[i] := by simp [rd, List.getD, hlt]
    have r2 : rd m (i : Int) = m[i] := by simp [rd, List.getD, hlt']
    have hiff : (l.drop i = m.drop i) ↔ (l[i] = m[i] ∧ l.drop (i + 1) = m.drop (i + 1)) := by
      rw [List.drop_eq_getElem_cons hlt, List.drop_eq_getElem_cons hlt', List.cons.injEq]
    simp only [bS.l0]
    rw [if_pos (by omega), if_pos (by omega), if_pos (by omega), r1, r2, lQ (by omega), e2']
    by_cases c : l[i] = m[i]
    · rw [if_pos c]; congr 1; rw [decide_eq_decide, hiff]; simp [c]
    · rw [if_neg c, decide_eq_false (fun h => c (hiff.1 h).1)]
theorem sameInts_ev (l m : List Int) (hb : l.length ≤ 1000000000) : Ev (fun k => bS.f k l m) (decide (l = m)) := by
  unfold bS.f
  by_cases hl : l.length = m.length
  · simp only [if_pos (show (l.length : Int) = (m.length : Int) by omega)]
    simpa using same_l0 l m hl hb l.length 0 (by omega)
  · simp only [if_neg (show ¬ (l.length : Int) = (m.length : Int) by omega)]
    rw [decide_eq_false (fun h => hl (by rw [h]))]
    exact Ev.now _

end Go.Proofs.Ytggelekooacmnaa.Pure
set_option linter.unusedVariables false
set_option linter.unusedSimpArgs false
namespace Go.Proofs.Ytggelekooacmnaa.Pure
open Go.RowKit Go.Proofs.Ytggelekooacmnaa.Z Go.Proofs.YtggelekooacmnaaW.bM Go.Proofs.YtggelekooacmnaaW.dR Go.Proofs.YtggelekooacmnaaW.eO
-- read, XR on the cells of a value
theorem TH {t : S27} (h5 : t.f0 ≠ 5) (h6 : t.f0 ≠ 6) (c : Int) (rest : List Int) : Ev (fun k => bU.f k t.f0 t.f1 t.f2 t.f3 t.f4 (c :: rest)) (c, [], rest, true) := by
  refine ⟨1, fun k hk => ?_⟩
  obtain ⟨k, rfl⟩ : ∃ j, k = j + 1 := ⟨k - 1, by omega⟩
  simp only [bU.f, if_neg h5, if_neg h6]
  rw [if_neg (by simp; omega), if_pos (by simp), if_pos (by simp; omega)]
  simp [rd]
theorem read_l0t (n : Nat) (ts : List S27) (vs : List S31) (hl : ts.length = vs.length) (h4 : ts.length ≤ 4) (rest : List Int)
    (ih : ∀ (i : Nat) (h : i < ts.length) (h' : i < vs.length) (r : List Int), (cel n ts[i] vs[i]).length + r.length ≤ 100000000 → Ev (fun k => bU.f k (ts[i]).f0 (ts[i]).f1 (ts[i]).f2 (ts[i]).f3 (ts[i]).f4 (cel n ts[i] vs[i] ++ r)) ((vs[i]).f0, (vs[i]).f1, r, true)) :
    ∀ (d i : Nat) (o : List S31), o.length ≤ i → i + d = vs.length → (yI (cel n) (ts.drop i) (vs.drop i)).length + rest.length ≤ 100000000 → Ev (fun k => bU.l0 k (yI (cel n) (ts.drop i) (vs.drop i) ++ rest) ts.length ts.length i 5 0 0 0 ts 0 o) (0, o ++ vs.drop i, rest, true) := by
  intro d
  induction d with
  | zero =>
    intro i o ho hi hq
    refine ⟨1, fun k hk => ?_⟩
    obtain ⟨k, rfl⟩ : ∃ j, k = j + 1 := ⟨k - 1, by omega⟩
    simp only [bU.l0]
    rw [if_neg (by omega), if_neg (by decide), List.drop_eq_nil_of_le (show vs.length ≤ i by omega), List.drop_eq_nil_of_le (show ts.length ≤ i by omega)]; simp [yI]
  | succ d IH =>
    intro i o ho hi hq
    have hlt : i < vs.length := by omega
    have hlt' : i < ts.length := by omega
    rw [List.drop_eq_getElem_cons hlt, List.drop_eq_getElem_cons hlt', yI, List.length_append] at hq
    obtain ⟨K1, e1⟩ := ih i hlt' hlt (yI (cel n) (ts.drop (i + 1)) (vs.drop (i + 1)) ++ rest) (by rw [List.length_append]; omega)
    obtain ⟨K2, e2⟩ := IH (i + 1) (o ++ [vs[i]]) (by rw [List.length_append, List.length_singleton]; omega) (by omega) (by omega)
    refine ⟨max K1 K2 + 1, fun k hk => ?_⟩
    obtain ⟨k, rfl⟩ : ∃ j, k = j + 1 := ⟨k - 1, by omega⟩
    have e1' := e1 k (by omega)
    have e2' := e2 k (by omega)
    dsimp only at e1' e2'
    have ec : yI (cel n) (ts.drop i) (vs.drop i) ++ rest = cel n ts[i] vs[i] ++ (yI (cel n) (ts.drop (i + 1)) (vs.drop (i + 1)) ++ rest) := by
      rw [List.drop_eq_getElem_cons hlt, List.drop_eq_getElem_cons hlt', yI, List.append_assoc]
    simp only [bU.l0]
    rw [if_pos (by omega), UF hlt', Option.bind_some, ec, e1', Option.bind_some]
    dsimp only
    rw [if_pos rfl, if_pos (by omega), lQ (by omega), etaV, e2', List.append_assoc, List.drop_eq_getElem_cons hlt]
    rfl
theorem read_l0l (n : Nat) (x : S27) (m : Int) (hs : x.f0 = 1 ∨ x.f0 = 2) (vs : List S31) (hv : ∀ v ∈ vs, v.f1 = []) (h4 : vs.length ≤ 4) (hm : (vs.length : Int) ≤ m) (hm2 : m ≤ 4) (tail : List Int) (ht : m.toNat - vs.length ≤ tail.length) (hb : tail.length ≤ 1000000000) :
    ∀ (d i : Nat) (o : List S31), o.length ≤ i → i + d = vs.length → Ev (fun k => bU.l0 k ((vs.drop i).map (fun y => y.f0) ++ tail) vs.length vs.length i 6 0 0 m [x] 0 o) (0, o ++ vs.drop i, tail.drop (m.toNat - vs.length), true) := by
  intro d
  induction d with
  | zero =>
    intro i o ho hi
    refine ⟨1, fun k hk => ?_⟩
    obtain ⟨k, rfl⟩ : ∃ j, k = j + 1 := ⟨k - 1, by omega⟩
    have hw : wrap64 (m - (vs.length : Int)) = ((m.toNat - vs.length : Nat) : Int) := by unfold wrap64; omega
    simp only [bU.l0]
    rw [if_neg (by omega), if_pos trivial, List.drop_eq_nil_of_le (show vs.length ≤ i by omega), hw]
    simp only [List.map_nil, List.nil_append, List.append_nil]
    rw [if_neg (by omega), if_pos (by omega), if_pos (by omega)]
    simp
  | succ d IH =>
    intro i o ho hi
    have hlt : i < vs.length := by omega
    obtain ⟨K1, e1⟩ := TH (t := x) (by omega) (by omega) vs[i].f0 ((vs.drop (i + 1)).map (fun y => y.f0) ++ tail)
    obtain ⟨K2, e2⟩ := IH (i + 1) (o ++ [vs[i]]) (by rw [List.length_append, List.length_singleton]; omega) (by omega)
    refine ⟨max K1 K2 + 1, fun k hk => ?_⟩
    obtain ⟨k, rfl⟩ : ∃ j, k = j + 1 := ⟨k - 1, by omega⟩
    have e1' := e1 k (by omega)
    have e2' := e2 k (by omega)
    dsimp only at e1' e2'
    have ec : (vs.drop i).map (fun y => y.f0) ++ tail = vs[i].f0 :: ((vs.drop (i + 1)).map (fun y => y.f0) ++ tail) := by
      rw [List.drop_eq_getElem_cons hlt]; rfl
    have hv' : (⟨vs[i].f0, []⟩ : S31) = vs[i] := by
      have := hv vs[i] (List.getElem_mem hlt)
      rw [← this, etaV]
    simp only [bU.l0]
    rw [if_pos (by omega), UG, Option.bind_some, ec, e1', Option.bind_some]
    dsimp only
    rw [if_pos rfl, if_pos (by omega), lQ (by omega), hv', e2', List.append_assoc, List.drop_eq_getElem_cons hlt]
    rfl
theorem read_ev (n : Nat) : ∀ {t : S27} {v : S31}, n ≤ 10 → Vt n t → chk n t v = 0 → ∀ rest : List Int, (cel n t v).length + rest.length ≤ 100000000 → Ev (fun k => bU.f k t.f0 t.f1 t.f2 t.f3 t.f4 (cel n t v ++ rest)) (v.f0, v.f1, rest, true) := by
  induction n with
  | zero => intro t v _ h; cases h
  | succ n ih =>
    intro t v hn h hc rest hrest
    have hlen := Tf (n + 1) h hc
    have hpos := (Gs (n + 1) h).2
    have leaf : t.f0 ≠ 5 → t.f0 ≠ 6 → Ev (fun k => bU.f k t.f0 t.f1 t.f2 t.f3 t.f4 (cel (n + 1) t v ++ rest)) (v.f0, v.f1, rest, true) := by
      intro h5 h6
      rw [show cel (n + 1) t v = [v.f0] from by simp [cel, h5, h6], (Uu h5 h6 hc).1]
      exact TH h5 h6 v.f0 rest
    cases h with
    | bool => exact leaf (by decide) (by decide)
    | int _ lo hi h1 h2 h3 => exact leaf (by simp) (by simp)
    | nat => exact leaf (by decide) (by decide)
    | real => exact leaf (by decide) (by decide)
    | tup _ l h1 h2 h3 h4 =>
      obtain ⟨hz, hl, ha⟩ := Te hc
      have ec : cel (n + 1) ⟨5, 0, 0, 0, l⟩ v = yI (cel n) l v.f1 := by simp [cel]
      rw [ec] at hlen hrest ⊢
      have hb : ∀ (i : Nat) (h : i < l.length) (h' : i < v.f1.length) (r : List Int), (cel n l[i] v.f1[i]).length + r.length ≤ 100000000 → Ev (fun k => bU.f k (l[i]).f0 (l[i]).f1 (l[i]).f2 (l[i]).f3 (l[i]).f4 (cel n l[i] v.f1[i] ++ r)) ((v.f1[i]).f0, (v.f1[i]).f1, r, true) := fun i h h' r hr => ih (by omega) (h3 _ (List.getElem_mem h)) (ha i h h') r hr
      obtain ⟨K, e⟩ := read_l0t n l v.f1 hl.symm h2 rest hb v.f1.length 0 [] (by simp) (by omega) (by simpa using hrest)
      refine ⟨K + 2, fun k hk => ?_⟩
      obtain ⟨k, rfl⟩ : ∃ j, k = j + 2 := ⟨k - 2, by omega⟩
      have e' := e k (by omega)
      simp only [bU.f]
      rw [if_neg (by rw [List.length_append]; omega), if_pos trivial]
      simp only [bU.j0]
      rw [hz]
      simpa using e'
    | lst _ m x h1 h2 h3 h4 =>
      obtain ⟨hz, hl, ha⟩ := Oj hc
      have ec : cel (n + 1) ⟨6, 0, 0, m, [x]⟩ v = (v.f1.length : Int) :: (v.f1.map (fun x => x.f0) ++ List.replicate (m.toNat - v.f1.length) (zr x)) := by simp [cel, rd1]
      rw [ec] at hlen hrest ⊢
      have hv : ∀ y ∈ v.f1, y.f1 = [] := by
        intro y hy
        have hq := ha y hy
        cases n with
        | zero => cases h3
        | succ n => exact (Uu (by omega) (by omega) hq).1
      simp only [List.length_cons, List.length_append, List.length_map, List.length_replicate] at hrest
      obtain ⟨K, e⟩ := read_l0l n x m h4 v.f1 hv (by omega) hl h2 (List.replicate (m.toNat - v.f1.length) (zr x) ++ rest) (by simp) (by simp; omega) v.f1.length 0 [] (by simp) (by omega)
      refine ⟨K + 2, fun k hk => ?_⟩
      obtain ⟨k, rfl⟩ : ∃ j, k = j + 2 := ⟨k - 2, by omega⟩
      have e' := e k (by omega)
      have hr0 : rd ((v.f1.length : Int) :: (v.f1.map (fun x => x.f0) ++ List.replicate (m.toNat - v.f1.length) (zr x)) ++ rest) 0 = v.f1.length := by simp [rd]
      simp only [bU.f]
      rw [if_neg (by simp; omega), if_neg (by decide), if_pos trivial, if_pos (by simp; omega), hr0, if_neg (by omega), if_neg (by omega), if_pos (by simp; omega)]
      simp only [bU.j0]
      rw [hz]
      simpa using e'
theorem KZ {t : S27} (hv : Vt 10 t) (hl : (prt 10 t).length ≤ 24) (h4 : t.f0 ≠ 4) : Ev (at_ eX.f t) 0 ∧ Ev (at_ gU.f t) 0 := by
  obtain ⟨⟨K1, e1⟩, ⟨K2, e2⟩⟩ := Ow hv hl
  unfold at_ at e1 e2
  refine ⟨⟨K1, fun k hk => ?_⟩, ⟨K2, fun k hk => ?_⟩⟩
  · simp only [at_, eX.f]
    rw [e1 k hk, Option.bind_some, if_pos rfl, if_neg h4]
  · simp only [at_, gU.f]
    rw [e2 k hk, Option.bind_some, if_pos rfl, if_neg h4]
theorem OU {t : S27} {v : S31} {m : Nat} (hv : Vt 10 t) (hl : (prt 10 t).length ≤ 24) (h4 : t.f0 ≠ 4) (hb : Bv m v) (hm : 10 ≤ m) : Ev (at2 gp.f t v) (chk 10 t v) ∧ Ev (at2 dO.f t v) (chk 10 t v) := by
  obtain ⟨⟨K1, e1⟩, ⟨K2, e2⟩⟩ := KZ hv hl h4
  obtain ⟨K3, e3⟩ := Ut 10 hv h4 hb hm
  obtain ⟨K4, e4⟩ := XQ 10 hv h4 hb hm
  unfold at_ at e1 e2
  dsimp only [at2] at e3 e4
  refine ⟨⟨K1 + K3, fun k hk => ?_⟩, ⟨K2 + K4, fun k hk => ?_⟩⟩
  · simp only [at2, gp.f]
    rw [e1 k (by omega), Option.bind_some, if_pos rfl, e3 k (by omega), Option.bind_some]
  · simp only [at2, dO.f]
    rw [e2 k (by omega), Option.bind_some, if_pos rfl, e4 k (by omega), Option.bind_some]
theorem Xx {t : S27} {v : S31} {m : Nat} (hv : Vt 10 t) (hl : (prt 10 t).length ≤ 24) (h4 : t.f0 ≠ 4) (hb : Bv m v) (hm : 10 ≤ m) (hc : chk 10 t v = 0) : Ev (at2 ek.f t v) (cel 10 t v, 0) := by
  obtain ⟨⟨K1, e1⟩, _⟩ := OU hv hl h4 hb hm
  obtain ⟨K2, e2⟩ := QT 10 (by omega) hv hb hm hc
  dsimp only [at2] at e1 e2
  refine ⟨K1 + K2, fun k hk => ?_⟩
  simp only [at2, ek.f]
  rw [e1 k (by omega), Option.bind_some, if_pos hc, e2 k (by omega), Option.bind_some]
theorem Unflatten_ev {t : S27} {v : S31} {m : Nat} (hv : Vt 10 t) (hl : (prt 10 t).length ≤ 24) (h4 : t.f0 ≠ 4) (hb : Bv m v) (hm : 10 ≤ m) (hc : chk 10 t v = 0) :
    Ev (fun k => gI.f k t.f0 t.f1 t.f2 t.f3 t.f4 (cel 10 t v)) (v.f0, v.f1, 0) := by
  obtain ⟨⟨K1, e1⟩, _⟩ := KZ hv hl h4
  have hcl := Tf 10 hv hc
  obtain ⟨K2, e2⟩ := read_ev 10 (by omega) hv hc [] (by simp; omega)
  obtain ⟨K3, e3⟩ := Ut 10 hv h4 hb hm
  obtain ⟨K4, e4⟩ := QT 10 (by omega) hv hb hm hc
  obtain ⟨K5, e5⟩ := equal_ev (cel 10 t v) (cel 10 t v) (by omega)
  unfold at_ at e1
  dsimp only [at2] at e2 e3 e4 e5
  simp only [List.append_nil, decide_true] at e2 e5
  refine ⟨K1 + K2 + K3 + K4 + K5, fun k hk => ?_⟩
  simp only [gI.f]
  rw [e1 k (by omega), Option.bind_some, if_pos rfl, e2 k (by omega), Option.bind_some, if_pos rfl]
  rw [if_pos (by simp), e3 k (by omega), Option.bind_some, if_pos hc, e4 k (by omega), Option.bind_some, e5 k (by omega), Option.bind_some, if_pos rfl]

end Go.Proofs.Ytggelekooacmnaa.Pure
set_option linter.unusedVariables false
set_option linter.unusedSimpArgs false
namespace Go.Proofs.Ytggelekooacmnaa.Pure
open Go.RowKit Go.Proofs.Ytggelekooacmnaa.Z Go.Proofs.YtggelekooacmnaaW.bM Go.Proofs.YtggelekooacmnaaW.dR Go.Proofs.YtggelekooacmnaaW.eO
-- the reader of numbers, and the types that are built
/-- a reader's state -/
structure Rs (l : List Int) (at0 : Int) : Prop where
  len : l.length ≤ 1000
  lo : 0 ≤ at0
  hi : at0 ≤ l.length
theorem raw_ok {l : List Int} {p s : Int} (h : Rs l p) : ∃ x p', jN.f l p s = some (x, p', s) ∧ Rs l p' := by
  obtain ⟨h1, h2, h3⟩ := h
  unfold jN.f
  by_cases c : p ≥ (l.length : Int)
  · exact ⟨0, p, by rw [if_pos c], ⟨h1, h2, h3⟩⟩
  · have e : wrap64 (p + 1) = p + 1 := by unfold wrap64; omega
    have e2 : wrap64 (p + 1 - 1) = p := by unfold wrap64; omega
    rw [if_neg c, e, e2, if_pos h2, if_pos (by omega)]
    exact ⟨_, _, rfl, ⟨h1, by omega, by omega⟩⟩
theorem tmod_bd (x a : Int) (ha : 0 < a) : -a < Int.tmod x a ∧ Int.tmod x a < a := by
  have h1 := Int.tmod_lt_of_pos x ha
  have h2 := Int.tmod_lt_of_pos (-x) ha
  rw [Int.neg_tmod] at h2
  omega
theorem Ee {l : List Int} {p s a : Int} (h : Rs l p) (ha : a ≤ 1000000) : ∃ x p', dz.f l p s a = some (x, p', s) ∧ Rs l p' ∧ 0 ≤ x ∧ (1 ≤ a → x < a) ∧ (a < 1 → x = 0) := by
  unfold dz.f
  by_cases c : a < 1
  · exact ⟨0, p, by rw [if_pos c], h, by omega, by omega, fun _ => rfl⟩
  · obtain ⟨x, p', e, h'⟩ := raw_ok (s := s) h
    have hb := tmod_bd x a (by omega)
    rw [if_neg c, e, Option.bind_some, if_neg (by omega)]
    dsimp only
    by_cases c2 : Int.tmod x a < 0
    · have ew : wrap64 (Int.tmod x a + a) = Int.tmod x a + a := by unfold wrap64; omega
      rw [if_pos c2, ew]
      exact ⟨_, _, rfl, h', by omega, by omega, by omega⟩
    · rw [if_neg c2]
      exact ⟨_, _, rfl, h', by omega, by omega, by omega⟩
theorem Ef {l : List Int} {p s lo hi : Int} (h : Rs l p) (h1 : -100000 ≤ lo) (h2 : lo ≤ hi) (h3 : hi ≤ 100000) : ∃ x p', dK.f l p s lo hi = some (x, p', s) ∧ Rs l p' ∧ lo ≤ x ∧ x ≤ hi := by
  unfold dK.f
  have e : wrap64 (wrap64 (hi - lo) + 1) = hi - lo + 1 := by unfold wrap64; omega
  obtain ⟨x, p', e1, h', hx0, hx1, _⟩ := Ee (s := s) (a := hi - lo + 1) h (by omega)
  have hx := hx1 (by omega)
  have ew : wrap64 (lo + x) = lo + x := by unfold wrap64; omega
  rw [e, e1, Option.bind_some]
  dsimp only
  rw [ew]
  exact ⟨_, _, rfl, h', by omega, by omega⟩
theorem New_ok (l : List Int) : ll.f l = some (l.take 1000, 0, 0) ∧ Rs (l.take 1000) 0 := by
  unfold ll.f
  refine ⟨?_, ⟨by rw [List.length_take]; omega, by omega, by omega⟩⟩
  by_cases c : (l.length : Int) > 1000
  · rw [if_pos c, if_pos (by omega)]
  · rw [if_neg c, List.take_of_length_le (by omega)]
/-- the types that are built, at most d deep -/
inductive Gt : Nat → S27 → Prop
  | bool (d : Nat) : Gt (d + 1) ⟨1, 0, 0, 0, []⟩
  | int (d : Nat) (lo hi : Int) (h1 : -2 ≤ lo) (h2 : lo ≤ hi) (h3 : hi ≤ lo + 3) (h4 : lo ≤ 3) : Gt (d + 1) ⟨2, lo, hi, 0, []⟩
  | tup (d : Nat) (l : List S27) (h1 : 2 ≤ l.length) (h2 : l.length ≤ 3) (h3 : ∀ x ∈ l, Gt d x) : Gt (d + 1) ⟨5, 0, 0, 0, l⟩
  | lst (d : Nat) (m : Int) (x : S27) (h1 : 1 ≤ m) (h2 : m ≤ 2) (h3 : Gt 1 x) (h4 : x.f0 = 1 ∨ x.f0 = 2) (h5 : 1 ≤ d) : Gt (d + 1) ⟨6, 0, 0, m, [x]⟩
theorem Gt.kind {d : Nat} {t : S27} (h : Gt d t) : t.f0 ≠ 3 ∧ t.f0 ≠ 4 ∧ 1 ≤ t.f0 ∧ t.f0 ≤ 6 := by cases h <;> simp
theorem Gt.vt {d : Nat} : ∀ {t : S27}, Gt d t → Vt d t := by
  induction d with
  | zero => intro t h; cases h
  | succ d ih =>
    intro t h
    cases h with
    | bool => exact .bool _
    | int _ lo hi h1 h2 h3 h4 => exact .int _ _ _ (by omega) h2 (by omega)
    | tup _ l h1 h2 h3 => exact .tup _ _ h1 (by omega) (fun x hx => ih (h3 x hx)) (fun x hx => ⟨(h3 x hx).kind.1, (h3 x hx).kind.2.1⟩)
    | lst _ m x h1 h2 h3 h4 h5 =>
      refine .lst _ _ _ h1 (by omega) (Vt.mono h5 ?_) h4
      cases h3 with
      | bool => exact .bool _
      | int _ lo hi h1 h2 h3 h4 => exact .int _ _ _ (by omega) h2 (by omega)
      | tup _ l h1 h2 h3 => simp at h4
      | lst _ m x h1 h2 h3 h4 h5 => omega
theorem Gt.Gs {d : Nat} : ∀ {t : S27} {n : Nat}, Gt d t → d ≤ n → (prt n t).length ≤ 3 ^ (d - 1) := by
  induction d with
  | zero => intro t n h; cases h
  | succ d ih =>
    intro t n h hn
    obtain ⟨n, rfl⟩ : ∃ e, n = e + 1 := ⟨n - 1, by omega⟩
    have hp : 1 ≤ 3 ^ (d + 1 - 1) := Nat.pos_of_ne_zero (by simp)
    cases h with
    | bool => simpa [prt] using hp
    | int _ lo hi h1 h2 h3 h4 => simpa [prt] using hp
    | tup _ l h1 h2 h3 =>
      rw [prt5]
      have hl := Ul (f := prt n) (fun x hx => ih (h3 x hx) (show d ≤ n by omega))
      obtain ⟨d, rfl⟩ : ∃ e, d = e + 1 := by
        match l, h1, h3 with
        | x :: _, _, h3 => exact ⟨d - 1, by have := h3 x List.mem_cons_self; cases d with
            | zero => cases this
            | succ d => omega⟩
      have h5 : 3 ^ (d + 1 + 1 - 1) = 3 ^ (d + 1 - 1) * 3 := Nat.pow_succ ..
      have : l.length * 3 ^ (d + 1 - 1) ≤ 3 * 3 ^ (d + 1 - 1) := Nat.mul_le_mul_right _ h2
      omega
    | lst _ m x h1 h2 h3 h4 h5 =>
      have hv : Vt n x := Vt.mono (by omega) h3.vt
      rw [prt6, List.length_cons, Kg, Kh hv h4]
      have : 3 ^ 1 ≤ 3 ^ (d + 1 - 1) := Nat.pow_le_pow_right (by omega) (by omega)
      omega
theorem Type_l0 (d : Nat) (hd : d ≤ 100) (l : List Int) (s : Int) (ih : ∀ p, Rs l p → ∃ t p', Ev (fun k => av.f k l p s d) (t.f0, t.f1, t.f2, t.f3, t.f4, p', s) ∧ Gt d t ∧ Rs l p') :
    ∀ (c : Nat) (p : Int) (o : List S27), c ≤ 3 → o.length + c ≤ 3 → Rs l p → (∀ x ∈ o, Gt d x) → ∃ o' p', Ev (fun k => av.l0 k (d + 1 : Nat) c l p s 5 0 0 0 o) (5, 0, 0, 0, o', p', s) ∧ o'.length = o.length + c ∧ (∀ x ∈ o', Gt d x) ∧ Rs l p' := by
  intro c
  induction c with
  | zero =>
    intro p o hc ho hr hg
    refine ⟨o, p, ⟨1, fun k hk => ?_⟩, by omega, hg, hr⟩
    obtain ⟨k, rfl⟩ : ∃ j, k = j + 1 := ⟨k - 1, by omega⟩
    simp only [av.l0]
    rw [if_neg (by omega)]
  | succ c IH =>
    intro p o hc ho hr hg
    obtain ⟨t, p1, ⟨K1, e1⟩, g1, hr1⟩ := ih p hr
    obtain ⟨o', p', ⟨K2, e2⟩, hl, hg', hr'⟩ := IH p1 (o ++ [t]) (by omega) (by rw [List.length_append, List.length_singleton]; omega) hr1 (by
      intro x hx
      rcases List.mem_append.1 hx with hx | hx
      · exact hg x hx
      · rw [List.mem_singleton] at hx; rw [hx]; exact g1)
    refine ⟨o', p', ⟨max K1 K2 + 1, fun k hk => ?_⟩, by rw [hl, List.length_append, List.length_singleton]; omega, hg', hr'⟩
    obtain ⟨k, rfl⟩ : ∃ j, k = j + 1 := ⟨k - 1, by omega⟩
    have e1' := e1 k (by omega)
    have e2' := e2 k (by omega)
    dsimp only at e1' e2'
    have ew : wrap64 (((d + 1 : Nat) : Int) - 1) = (d : Int) := by unfold wrap64; omega
    have ec : wrap64 (((c + 1 : Nat) : Int) - 1) = (c : Int) := by unfold wrap64; omega
    simp only [av.l0]
    rw [if_pos (by omega), ew, e1', Option.bind_some]
    dsimp only
    rw [if_pos (by omega), ec, eta_s, e2']
theorem Xm (d : Nat) : ∀ {l : List Int} {p s : Int}, 1 ≤ d → d ≤ 100 → Rs l p → ∃ t p', Ev (fun k => av.f k l p s d) (t.f0, t.f1, t.f2, t.f3, t.f4, p', s) ∧ Gt d t ∧ Rs l p' := by
  induction d with
  | zero => intro l p s h; omega
  | succ d ih =>
    intro l p s h1 h2 hr
    obtain ⟨k1, p1, e1, hr1, b1, b1', _⟩ := Ee (s := s) (a := 6) hr (by omega)
    have b1' := b1' (by omega)
    have leaf : ∀ (kd q : Int), Rs l q → 0 ≤ kd → kd < 3 → ∃ t p', (∃ K, ∀ k, K ≤ k → av.j0 k ((d + 1 : Nat) : Int) kd l q s = some (t.f0, t.f1, t.f2, t.f3, t.f4, p', s)) ∧ Gt (d + 1) t ∧ Rs l p' := by
      intro kd q hq c0 c3
      by_cases c : kd = 0
      · refine ⟨⟨1, 0, 0, 0, []⟩, q, ⟨1, fun k hk => ?_⟩, .bool _, hq⟩
        obtain ⟨k, rfl⟩ : ∃ j, k = j + 1 := ⟨k - 1, by omega⟩
        simp only [av.j0]
        rw [if_pos c]
      · obtain ⟨lo, q1, e2, hq1, l1, l2⟩ := Ef (s := s) (lo := -2) (hi := 3) hq (by omega) (by omega) (by omega)
        obtain ⟨w, q2, e3, hq2, w1, w2, _⟩ := Ee (s := s) (a := 4) hq1 (by omega)
        have w2 := w2 (by omega)
        have ew : wrap64 (lo + w) = lo + w := by unfold wrap64; omega
        refine ⟨⟨2, lo, lo + w, 0, []⟩, q2, ⟨2, fun k hk => ?_⟩, .int _ _ _ l1 (by omega) (by omega) (by omega), hq2⟩
        obtain ⟨k, rfl⟩ : ∃ j, k = j + 2 := ⟨k - 2, by omega⟩
        simp only [av.j0]
        rw [if_neg c]
        have hb : ∀ b, b = true → av.j1 (k + 1) ((d + 1 : Nat) : Int) kd b l q s = some (2, lo, lo + w, 0, [], q2, s) := by
          intro b hb
          simp only [av.j1]
          rw [if_pos hb, e2, Option.bind_some]
          dsimp only
          rw [e3, Option.bind_some]
          dsimp only
          rw [ew]
        by_cases c1 : kd = 1
        · rw [if_pos c1]; exact hb _ (by rw [c1]; rfl)
        · rw [if_neg c1]; exact hb _ (by rw [show kd = 2 from by omega]; rfl)
    by_cases hd : d = 0
    · subst hd
      obtain ⟨k2, p2, e2, hr2, b2, b2', _⟩ := Ee (s := s) (a := 3) hr1 (by omega)
      have b2' := b2' (by omega)
      obtain ⟨t, p', ⟨K, e⟩, g, hr'⟩ := leaf k2 p2 hr2 b2 b2'
      refine ⟨t, p', ⟨K + 1, fun k hk => ?_⟩, g, hr'⟩
      obtain ⟨k, rfl⟩ : ∃ j, k = j + 1 := ⟨k - 1, by omega⟩
      simp only [av.f]
      rw [e1, Option.bind_some, if_pos (by omega)]
      dsimp only
      rw [e2, Option.bind_some]
      exact e k (by omega)
    · have hf : ∀ k, av.f (k + 1) l p s ((d + 1 : Nat) : Int) = av.j0 k ((d + 1 : Nat) : Int) k1 l p1 s := by
        intro k
        simp only [av.f]
        rw [e1, Option.bind_some, if_neg (by omega)]
      by_cases c3 : k1 < 3
      · obtain ⟨t, p', ⟨K, e⟩, g, hr'⟩ := leaf k1 p1 hr1 b1 c3
        refine ⟨t, p', ⟨K + 1, fun k hk => ?_⟩, g, hr'⟩
        obtain ⟨k, rfl⟩ : ∃ j, k = j + 1 := ⟨k - 1, by omega⟩
        show av.f (k + 1) l p s ((d + 1 : Nat) : Int) = _
        rw [hf]
        exact e k (by omega)
      · have hj : ∀ k, av.f (k + 3) l p s ((d + 1 : Nat) : Int) = (if k1 = 3 then av.j2 k ((d + 1 : Nat) : Int) true l p1 s else av.j2 k ((d + 1 : Nat) : Int) (k1 == 4) l p1 s) := by
          intro k
          rw [hf]
          simp only [av.j0]
          rw [if_neg (by omega), if_neg (by omega), show (k1 == 2) = false from by simp; omega]
          simp only [av.j1]
          rw [if_neg (by decide)]
          by_cases c : k1 = 3
          · rw [if_pos c, if_pos c, c]; rfl
          · rw [if_neg c, if_neg c]
        by_cases c4 : k1 = 3 ∨ k1 = 4
        · obtain ⟨c, p2, e2, hr2, g1, g2⟩ := Ef (s := s) (lo := 2) (hi := 3) hr1 (by omega) (by omega) (by omega)
          obtain ⟨o', p', ⟨K, e⟩, hl, hg, hr'⟩ := Type_l0 d (by omega) l s (fun p hp => ih (by omega) (by omega) hp) c.toNat p2 [] (by omega) (by simp; omega) hr2 (by simp)
          refine ⟨⟨5, 0, 0, 0, o'⟩, p', ⟨K + 4, fun k hk => ?_⟩, .tup _ _ (by simp at hl; omega) (by simp at hl; omega) hg, hr'⟩
          obtain ⟨k, rfl⟩ : ∃ j, k = j + 4 := ⟨k - 4, by omega⟩
          show av.f (k + 1 + 3) l p s ((d + 1 : Nat) : Int) = _
          have hb : ∀ b, b = true → av.j2 (k + 1) ((d + 1 : Nat) : Int) b l p1 s = some (5, 0, 0, 0, o', p', s) := by
            intro b hb
            have e' := e k (by omega)
            dsimp only at e'
            simp only [av.j2]
            rw [if_pos hb, e2, Option.bind_some]
            dsimp only
            rw [show c = (c.toNat : Int) from by omega]
            exact e'
          rw [hj]
          by_cases c : k1 = 3
          · rw [if_pos c]; exact hb _ rfl
          · rw [if_neg c]; exact hb _ (by rw [show k1 = 4 from by omega]; rfl)
        · obtain ⟨m, p2, e2, hr2, g1, g2⟩ := Ef (s := s) (lo := 1) (hi := 2) hr1 (by omega) (by omega) (by omega)
          have h1t : ∃ x p', Ev (fun k => av.f k l p2 s 1) (x.f0, x.f1, x.f2, x.f3, x.f4, p', s) ∧ Gt 1 x ∧ Rs l p' := by
            obtain ⟨k3, p3, e3, hr3, b3, b3', _⟩ := Ee (s := s) (a := 6) hr2 (by omega)
            obtain ⟨k4, p4, e4, hr4, b4, b4', _⟩ := Ee (s := s) (a := 3) hr3 (by omega)
            have b4' := b4' (by omega)
            have fin : ∃ x p', (∃ K, ∀ k, K ≤ k → av.j0 k 1 k4 l p4 s = some (x.f0, x.f1, x.f2, x.f3, x.f4, p', s)) ∧ Gt 1 x ∧ Rs l p' := by
              by_cases c : k4 = 0
              · refine ⟨⟨1, 0, 0, 0, []⟩, p4, ⟨1, fun k hk => ?_⟩, .bool _, hr4⟩
                obtain ⟨k, rfl⟩ : ∃ j, k = j + 1 := ⟨k - 1, by omega⟩
                simp only [av.j0]
                rw [if_pos c]
              · obtain ⟨lo, q1, e5, hq1, l1, l2⟩ := Ef (s := s) (lo := -2) (hi := 3) hr4 (by omega) (by omega) (by omega)
                obtain ⟨w, q2, e6, hq2, w1, w2, _⟩ := Ee (s := s) (a := 4) hq1 (by omega)
                have w2 := w2 (by omega)
                have ew : wrap64 (lo + w) = lo + w := by unfold wrap64; omega
                refine ⟨⟨2, lo, lo + w, 0, []⟩, q2, ⟨2, fun k hk => ?_⟩, .int _ _ _ l1 (by omega) (by omega) (by omega), hq2⟩
                obtain ⟨k, rfl⟩ : ∃ j, k = j + 2 := ⟨k - 2, by omega⟩
                simp only [av.j0]
                rw [if_neg c]
                have hb : ∀ b, b = true → av.j1 (k + 1) 1 k4 b l p4 s = some (2, lo, lo + w, 0, [], q2, s) := by
                  intro b hb
                  simp only [av.j1]
                  rw [if_pos hb, e5, Option.bind_some]
                  dsimp only
                  rw [e6, Option.bind_some]
                  dsimp only
                  rw [ew]
                by_cases c1 : k4 = 1
                · rw [if_pos c1]; exact hb _ (by rw [c1]; rfl)
                · rw [if_neg c1]; exact hb _ (by rw [show k4 = 2 from by omega]; rfl)
            obtain ⟨x, p', ⟨K, e⟩, g, hr'⟩ := fin
            refine ⟨x, p', ⟨K + 1, fun k hk => ?_⟩, g, hr'⟩
            obtain ⟨k, rfl⟩ : ∃ j, k = j + 1 := ⟨k - 1, by omega⟩
            simp only [av.f]
            rw [e3, Option.bind_some, if_pos (by omega)]
            dsimp only
            rw [e4, Option.bind_some]
            exact e k (by omega)
          obtain ⟨x, p', ⟨K, e⟩, g, hr'⟩ := h1t
          have hk12 : x.f0 = 1 ∨ x.f0 = 2 := by
            cases g with
            | bool => exact .inl rfl
            | int => exact .inr rfl
            | tup _ l h1 h2 h3 =>
              match l, h1, h3 with
              | y :: _, _, h3 => exact nomatch h3 y List.mem_cons_self
            | lst _ _ _ _ _ _ _ h5 => omega
          refine ⟨⟨6, 0, 0, m, [x]⟩, p', ⟨K + 4, fun k hk => ?_⟩, .lst _ _ _ g1 g2 g hk12 (by omega), hr'⟩
          obtain ⟨k, rfl⟩ : ∃ j, k = j + 4 := ⟨k - 4, by omega⟩
          have e' := e (k) (by omega)
          dsimp only at e'
          show av.f (k + 1 + 3) l p s ((d + 1 : Nat) : Int) = _
          rw [hj, if_neg (by omega), show (k1 == 4) = false from by simp; omega]
          simp only [av.j2]
          rw [if_neg (by decide), e2, Option.bind_some]
          dsimp only
          rw [e', Option.bind_some]
          dsimp only
          rw [eta_s]

end Go.Proofs.Ytggelekooacmnaa.Pure
set_option linter.unusedVariables false
set_option linter.unusedSimpArgs false
namespace Go.Proofs.Ytggelekooacmnaa.Pure
open Go.RowKit Go.Proofs.Ytggelekooacmnaa.Z Go.Proofs.YtggelekooacmnaaW.bM Go.Proofs.YtggelekooacmnaaW.dR Go.Proofs.YtggelekooacmnaaW.eO
theorem Pick_ok {l : List Int} {p s : Int} {ys : List Int} (h : Rs l p) (h1 : 1 ≤ ys.length) (h2 : ys.length ≤ 1000) : ∃ x p', jC.f l p s ys = some (x, p', s) ∧ Rs l p' ∧ x ∈ ys := by
  unfold jC.f
  obtain ⟨x, p', e1, h', hx0, hx1, _⟩ := Ee (s := s) (a := (ys.length : Int)) h (by omega)
  have hx := hx1 (by omega)
  rw [e1, Option.bind_some]
  dsimp only
  rw [if_pos hx0, if_pos hx]
  refine ⟨_, _, rfl, h', ?_⟩
  have hlt : x.toNat < ys.length := by omega
  have : rd ys x = ys[x.toNat] := by simp [rd, List.getD, hlt]
  rw [this]; exact List.getElem_mem hlt

-- a value that is drawn
theorem Bv.up {m : Nat} : ∀ {v : S31}, Bv m v → Bv (m + 1) v := by
  induction m with
  | zero => intro v h; exact h.elim
  | succ m ih => intro v h; exact ⟨h.1, fun x hx => ih (h.2 x hx)⟩
theorem Bv.mono {m k : Nat} (h : m ≤ k) {v : S31} (hv : Bv m v) : Bv k v := by
  induction h with
  | refl => exact hv
  | step _ ih => exact ih.up
theorem GY {l : List Int} {p s x : Int} (vs : List S31) (n : Nat) (hr : Rs l p) (hl : vs.length ≤ 100) (hv : ∀ v ∈ vs, Bv (n + 1) v) :
    ∃ (r : S31) (p' : Int), Ev (fun k => aC.j2 k l p s x vs) (r.f0, r.f1, p', s) ∧ Bv (n + 2) r ∧ r.f1.length ≤ vs.length + 1 ∧ Rs l p' := by
  obtain ⟨c, p1, e1, hr1, b1, b2, _⟩ := Ee (s := s) (a := 24) hr (by omega)
  by_cases c0 : c = 0
  · obtain ⟨y, p2, e2, hr2, _⟩ := Pick_ok (s := s) (ys := [-1, 1, 1000]) hr1 (by simp) (by simp)
    refine ⟨⟨wrap64 (x + y), vs⟩, p2, ⟨1, fun k hk => ?_⟩, ⟨by show vs.length ≤ 1000; omega, hv⟩, by simp, hr2⟩
    obtain ⟨k, rfl⟩ : ∃ j, k = j + 1 := ⟨k - 1, by omega⟩
    simp only [aC.j2]
    rw [e1, Option.bind_some]
    dsimp only
    rw [if_pos c0, e2, Option.bind_some]
  · by_cases c1 : c = 1
    · refine ⟨⟨x, vs ++ [⟨0, []⟩]⟩, p1, ⟨1, fun k hk => ?_⟩, ⟨by simp; omega, fun v hv' => ?_⟩, by simp, hr1⟩
      · obtain ⟨k, rfl⟩ : ∃ j, k = j + 1 := ⟨k - 1, by omega⟩
        simp only [aC.j2]
        rw [e1, Option.bind_some]
        dsimp only
        rw [if_neg c0, if_pos c1, if_pos (by simp; omega), Option.bind_some, if_pos (by simp; omega)]
        simp
      · simp at hv'
        rcases hv' with hv' | rfl
        · exact hv v hv'
        · exact ⟨by simp, by simp⟩
    · refine ⟨⟨x, vs⟩, p1, ⟨1, fun k hk => ?_⟩, ⟨by show vs.length ≤ 1000; omega, hv⟩, by simp, hr1⟩
      obtain ⟨k, rfl⟩ : ∃ j, k = j + 1 := ⟨k - 1, by omega⟩
      simp only [aC.j2]
      rw [e1, Option.bind_some]
      dsimp only
      rw [if_neg c0, if_neg c1]
abbrev smf (l : List Int) (p s : Int) (t : S27) : Nat → Option (Int × List S31 × Int × Int) := fun k => aC.f k l p s t.f0 t.f1 t.f2 t.f3 t.f4
theorem some_l0 (n : Nat) (ts : List S27) (h4 : ts.length ≤ 4) (l : List Int) (s a0 a1 a2 a3 : Int)
    (ih : ∀ t ∈ ts, ∀ p, Rs l p → ∃ (r : S31) (p' : Int), Ev (smf l p s t) (r.f0, r.f1, p', s) ∧ Bv (n + 1) r ∧ Rs l p') :
    ∀ (d i : Nat) (p : Int) (o : List S31), i + d = ts.length → o.length ≤ i → Rs l p → (∀ v ∈ o, Bv (n + 1) v) →
    ∃ (r : S31) (p' : Int), Ev (fun k => aC.l0 k i l p s a0 a1 a2 a3 ts 0 o) (r.f0, r.f1, p', s) ∧ Bv (n + 2) r ∧ Rs l p' := by
  intro d
  induction d with
  | zero =>
    intro i p o hi ho hr hv
    obtain ⟨r, p', ⟨K, e⟩, hb, _, hr'⟩ := GY (s := s) (x := 0) o n hr (by omega) hv
    refine ⟨r, p', ⟨K + 1, fun k hk => ?_⟩, hb, hr'⟩
    obtain ⟨k, rfl⟩ : ∃ j, k = j + 1 := ⟨k - 1, by omega⟩
    simp only [aC.l0]
    rw [if_neg (by omega)]
    exact e k (by omega)
  | succ d IH =>
    intro i p o hi ho hr hv
    have hlt : i < ts.length := by omega
    obtain ⟨v, p1, ⟨K1, e1⟩, hb1, hr1⟩ := ih ts[i] (List.getElem_mem hlt) p hr
    obtain ⟨r, p', ⟨K2, e2⟩, hb, hr'⟩ := IH (i + 1) p1 (o ++ [v]) (by omega) (by rw [List.length_append, List.length_singleton]; omega) hr1 (by
      intro y hy
      rcases List.mem_append.1 hy with hy | hy
      · exact hv y hy
      · rw [List.mem_singleton] at hy; rw [hy]; exact hb1)
    refine ⟨r, p', ⟨max K1 K2 + 1, fun k hk => ?_⟩, hb, hr'⟩
    obtain ⟨k, rfl⟩ : ∃ j, k = j + 1 := ⟨k - 1, by omega⟩
    have e1' := e1 k (by omega)
    have e2' := e2 k (by omega)
    dsimp only [smf] at e1' e2'
    simp only [aC.l0]
    rw [if_pos (by omega), if_pos (by omega), rdT hlt, e1', Option.bind_some]
    dsimp only
    rw [if_pos (by omega), lQ (by omega), etaV, e2']
theorem some_l1 (n : Nat) (x : S27) (l : List Int) (s a0 a1 a2 a3 : Int)
    (ih : ∀ p, Rs l p → ∃ (r : S31) (p' : Int), Ev (smf l p s x) (r.f0, r.f1, p', s) ∧ Bv (n + 1) r ∧ Rs l p') :
    ∀ (c : Nat) (p : Int) (o : List S31), o.length + c ≤ 10 → Rs l p → (∀ v ∈ o, Bv (n + 1) v) →
    ∃ (r : S31) (p' : Int), Ev (fun k => aC.l1 k c l p s a0 a1 a2 a3 [x] 0 o) (r.f0, r.f1, p', s) ∧ Bv (n + 2) r ∧ Rs l p' := by
  intro c
  induction c with
  | zero =>
    intro p o ho hr hv
    obtain ⟨r, p', ⟨K, e⟩, hb, _, hr'⟩ := GY (s := s) (x := 0) o n hr (by omega) hv
    refine ⟨r, p', ⟨K + 1, fun k hk => ?_⟩, hb, hr'⟩
    obtain ⟨k, rfl⟩ : ∃ j, k = j + 1 := ⟨k - 1, by omega⟩
    simp only [aC.l1]
    rw [if_neg (by omega)]
    exact e k (by omega)
  | succ c IH =>
    intro p o ho hr hv
    obtain ⟨v, p1, ⟨K1, e1⟩, hb1, hr1⟩ := ih p hr
    obtain ⟨r, p', ⟨K2, e2⟩, hb, hr'⟩ := IH p1 (o ++ [v]) (by rw [List.length_append, List.length_singleton]; omega) hr1 (by
      intro y hy
      rcases List.mem_append.1 hy with hy | hy
      · exact hv y hy
      · rw [List.mem_singleton] at hy; rw [hy]; exact hb1)
    refine ⟨r, p', ⟨max K1 K2 + 1, fun k hk => ?_⟩, hb, hr'⟩
    obtain ⟨k, rfl⟩ : ∃ j, k = j + 1 := ⟨k - 1, by omega⟩
    have e1' := e1 k (by omega)
    have e2' := e2 k (by omega)
    dsimp only [smf] at e1' e2'
    have ec : wrap64 (((c + 1 : Nat) : Int) - 1) = (c : Int) := by unfold wrap64; omega
    simp only [aC.l1]
    rw [if_pos (by omega), if_pos (by simp), if_pos (by simp), rd1, e1', Option.bind_some]
    dsimp only
    rw [if_pos (by omega), ec, etaV, e2']
theorem some_ev (n : Nat) : ∀ {t : S27} {l : List Int} {p s : Int}, Vt n t → Rs l p → ∃ (r : S31) (p' : Int), Ev (smf l p s t) (r.f0, r.f1, p', s) ∧ Bv (n + 1) r ∧ Rs l p' := by
  induction n with
  | zero => intro t l p s h; cases h
  | succ n ih =>
    intro t l p s h hr
    cases h with
    | bool =>
      obtain ⟨x, p1, e1, hr1, _⟩ := Ee (s := s) (a := 2) hr (by omega)
      obtain ⟨r, p', ⟨K, e⟩, hb, _, hr'⟩ := GY (s := s) (x := x) [] n hr1 (by simp) (by simp)
      refine ⟨r, p', ⟨K + 1, fun k hk => ?_⟩, hb, hr'⟩
      obtain ⟨k, rfl⟩ : ∃ j, k = j + 1 := ⟨k - 1, by omega⟩
      simp only [smf, aC.f]
      rw [if_neg (by decide), if_neg (by decide), if_pos trivial, e1, Option.bind_some]
      exact e k (by omega)
    | int _ lo hi h1 h2 h3 =>
      have em : mn hi (wrap64 (lo + 5)) = min hi (lo + 5) := by rw [mn_eq]; unfold wrap64; omega
      obtain ⟨x, p1, e1, hr1, _⟩ := Ef (s := s) (lo := lo) (hi := min hi (lo + 5)) hr (by omega) (by omega) (by omega)
      obtain ⟨r, p', ⟨K, e⟩, hb, _, hr'⟩ := GY (s := s) (x := x) [] n hr1 (by simp) (by simp)
      refine ⟨r, p', ⟨K + 1, fun k hk => ?_⟩, hb, hr'⟩
      obtain ⟨k, rfl⟩ : ∃ j, k = j + 1 := ⟨k - 1, by omega⟩
      simp only [smf, aC.f]
      rw [if_neg (by decide), if_neg (by decide), if_neg (by decide), if_pos trivial, em, e1, Option.bind_some]
      exact e k (by omega)
    | nat =>
      obtain ⟨x, p1, e1, hr1, _⟩ := Ee (s := s) (a := 4) hr (by omega)
      obtain ⟨r, p', ⟨K, e⟩, hb, _, hr'⟩ := GY (s := s) (x := x) [] n hr1 (by simp) (by simp)
      refine ⟨r, p', ⟨K + 1, fun k hk => ?_⟩, hb, hr'⟩
      obtain ⟨k, rfl⟩ : ∃ j, k = j + 1 := ⟨k - 1, by omega⟩
      simp only [smf, aC.f]
      rw [if_neg (by decide), if_neg (by decide), if_neg (by decide), if_neg (by decide), e1, Option.bind_some]
      exact e k (by omega)
    | real =>
      obtain ⟨x, p1, e1, hr1, _⟩ := Ee (s := s) (a := 4) hr (by omega)
      obtain ⟨r, p', ⟨K, e⟩, hb, _, hr'⟩ := GY (s := s) (x := x) [] n hr1 (by simp) (by simp)
      refine ⟨r, p', ⟨K + 1, fun k hk => ?_⟩, hb, hr'⟩
      obtain ⟨k, rfl⟩ : ∃ j, k = j + 1 := ⟨k - 1, by omega⟩
      simp only [smf, aC.f]
      rw [if_neg (by decide), if_neg (by decide), if_neg (by decide), if_neg (by decide), e1, Option.bind_some]
      exact e k (by omega)
    | tup _ ts h1 h2 h3 h4 =>
      obtain ⟨r, p', ⟨K, e⟩, hb, hr'⟩ := some_l0 n ts h2 l s 5 0 0 0 (fun t ht p hp => ih (h3 t ht) hp) ts.length 0 p [] (by omega) (by simp) hr (by simp)
      refine ⟨r, p', ⟨K + 1, fun k hk => ?_⟩, hb, hr'⟩
      obtain ⟨k, rfl⟩ : ∃ j, k = j + 1 := ⟨k - 1, by omega⟩
      simp only [smf, aC.f]
      rw [if_pos trivial]
      exact e k (by omega)
    | lst _ m x h1 h2 h3 h4 =>
      have em : wrap64 (m + 1) = m + 1 := by unfold wrap64; omega
      obtain ⟨c, p1, e1, hr1, b1, b2, _⟩ := Ee (s := s) (a := m + 1) hr (by omega)
      have b2 := b2 (by omega)
      obtain ⟨r, p', ⟨K, e⟩, hb, hr'⟩ := some_l1 n x l s 6 0 0 m (fun p hp => ih h3 hp) c.toNat p1 [] (by simp; omega) hr1 (by simp)
      refine ⟨r, p', ⟨K + 1, fun k hk => ?_⟩, hb, hr'⟩
      obtain ⟨k, rfl⟩ : ∃ j, k = j + 1 := ⟨k - 1, by omega⟩
      have e' := e k (by omega)
      dsimp only at e'
      simp only [smf, aC.f]
      rw [if_neg (by decide), if_pos trivial, em, e1, Option.bind_some]
      dsimp only
      rw [show c = (c.toNat : Int) from by omega]
      exact e'

end Go.Proofs.Ytggelekooacmnaa.Pure
set_option linter.unusedVariables false
set_option linter.unusedSimpArgs false
namespace Go.Proofs.Ytggelekooacmnaa.Pure
open Go.RowKit Go.Proofs.Ytggelekooacmnaa.Z Go.Proofs.YtggelekooacmnaaW.bM Go.Proofs.YtggelekooacmnaaW.dR Go.Proofs.YtggelekooacmnaaW.eO
theorem Uw : Ev df.f true := Ev.of (k := 30) df.mono (by decide +kernel)

-- the law: the zero of a type is a value of it; behind a list's length stand zeros
theorem Ux {f : S27 → S31 → Int} : ∀ {ts : List S27} {vs : List S31}, (∀ (i : Nat) (h : i < ts.length) (h' : i < vs.length), f ts[i] vs[i] = 0) → ck1 f ts vs = 0
  | t :: ts, v :: vs, h => by
    simp only [ck1]
    have h0 : f t v = 0 := h 0 (Nat.zero_lt_succ _) (Nat.zero_lt_succ _)
    rw [if_pos h0]
    exact Ux (fun i h1 h2 => h (i + 1) (Nat.succ_lt_succ h1) (Nat.succ_lt_succ h2))
  | [], _, _ => by simp [ck1]
  | _ :: _, [], _ => by simp [ck1]
theorem chk_zv (n : Nat) : ∀ {t : S27}, Vt n t → t.f0 ≠ 4 → chk n t (zv n t) = 0 := by
  induction n with
  | zero => intro t h; cases h
  | succ n ih =>
    intro t h k4
    cases h with
    | bool => simp [chk, zv]
    | int _ lo hi h1 h2 h3 => simp [chk, zv, zr]; omega
    | nat => simp [chk, zv]
    | real => exact absurd rfl k4
    | tup _ l h1 h2 h3 h4 =>
      have e : zv (n + 1) ⟨5, 0, 0, 0, l⟩ = ⟨0, l.map (zv n)⟩ := by simp [zv]
      rw [e]
      simp only [chk, if_pos]
      rw [if_neg (by simp)]
      exact Ux (fun i h1 h2 => by
        rw [List.getElem_map]
        exact ih (h3 _ (List.getElem_mem h1)) (h4 _ (List.getElem_mem h1)).2)
    | lst _ m x h1 h2 h3 h4 => simp [chk, zv, ck2]; omega
theorem bv_zv (n : Nat) : ∀ {t : S27}, Vt n t → Bv n (zv n t) := by
  induction n with
  | zero => intro t h; cases h
  | succ n ih =>
    intro t h
    by_cases k5 : t.f0 = 5
    · cases h with
      | tup _ l h1 h2 h3 h4 =>
        have e : zv (n + 1) ⟨5, 0, 0, 0, l⟩ = ⟨0, l.map (zv n)⟩ := by simp [zv]
        rw [e]
        refine ⟨by simp; omega, fun x hx => ?_⟩
        simp only [List.mem_map] at hx
        obtain ⟨y, hy, rfl⟩ := hx
        exact ih (h3 y hy)
      | _ => simp at k5
    · by_cases k2 : t.f0 = 2
      · rw [show zv (n + 1) t = ⟨zr t, []⟩ from by simp [zv, k2]]; exact ⟨by simp, by simp⟩
      · rw [show zv (n + 1) t = ⟨0, []⟩ from by simp [zv, k2, k5]]; exact ⟨by simp, by simp⟩
theorem Xn {t : S27} (hv : Vt 10 t) (hl : (prt 10 t).length ≤ 24) (h4 : t.f0 ≠ 4) : Ev (at_ gP.f t) ((zv 10 t).f0, (zv 10 t).f1, 0) := by
  obtain ⟨⟨K1, e1⟩, _⟩ := KZ hv hl h4
  obtain ⟨K2, e2⟩ := Xl 10 hv
  unfold at_ at e1 e2
  refine ⟨K1 + K2, fun k hk => ?_⟩
  simp only [at_, gP.f]
  rw [e1 k (by omega), Option.bind_some, if_pos rfl, e2 k (by omega), Option.bind_some]
theorem zero_l0' (xs : List Int) (z : Int) (zs : List S31) (hb : xs.length ≤ 1000) (n : Nat) (h : ∀ (i : Nat) (hi : i < xs.length), n ≤ i → xs[i] = z) : ∀ (d i : Nat), n ≤ i → i + d = xs.length → Ev (fun k => ax.l0 k xs i z zs) true := by
  intro d
  induction d with
  | zero =>
    intro i hn hi
    obtain ⟨K, e⟩ := Uw
    refine ⟨K + 1, fun k hk => ?_⟩
    obtain ⟨k, rfl⟩ : ∃ j, k = j + 1 := ⟨k - 1, by omega⟩
    simp only [ax.l0]
    rw [if_neg (by omega), e k (by omega), Option.bind_some]
  | succ d IH =>
    intro i hn hi
    have hlt : i < xs.length := by omega
    obtain ⟨K2, e2⟩ := IH (i + 1) (by omega) (by omega)
    refine ⟨K2 + 1, fun k hk => ?_⟩
    obtain ⟨k, rfl⟩ : ∃ j, k = j + 1 := ⟨k - 1, by omega⟩
    have e2' := e2 k (by omega)
    dsimp only at e2'
    have r1 : rd xs (i : Int) = z := by
      rw [← h i hlt hn]; simp [rd, List.getD, hlt]
    simp only [ax.l0]
    rw [if_pos (by omega), if_pos (by omega), r1, if_pos rfl, lQ (by omega), e2']
theorem zero_j0 {l : List Int} {p s : Int} (hr : Rs l p) : Ev (fun k => ax.j0 k false l p s) true := by
  obtain ⟨el, p1, ⟨K1, e1⟩, g, hr1⟩ := Xm 1 (s := s) (by omega) (by omega) hr
  change ∀ k, K1 ≤ k → av.f k l p s 1 = _ at e1
  obtain ⟨m, p2, e2, hr2, m1, m2⟩ := Ef (s := s) (lo := 1) (hi := 4) hr1 (by omega) (by omega) (by omega)
  have gk : el.f0 = 1 ∨ el.f0 = 2 := by
    cases g with
    | bool => exact .inl rfl
    | int => exact .inr rfl
    | tup _ l h1 h2 h3 =>
      match l, h1, h3 with
      | y :: _, _, h3 => exact nomatch h3 y List.mem_cons_self
    | lst _ _ _ _ _ _ _ h5 => omega
  have hel : Vt 10 el := Vt.mono (by omega) g.vt
  have hel9 : Vt 9 el := Vt.mono (by omega) g.vt
  have hls : Vt 10 ⟨6, 0, 0, m, [el]⟩ := .lst _ _ _ m1 m2 hel9 gk
  have hpl : (prt 10 ⟨6, 0, 0, m, [el]⟩).length ≤ 24 := by
    rw [prt6, List.length_cons, Kg, Kh hel9 gk]; omega
  have hpe : (prt 10 el).length ≤ 24 := by rw [Kh hel gk]; omega
  obtain ⟨K3, e3⟩ := Xn hel hpe (by omega)
  obtain ⟨v, p3, ⟨K4, e4⟩, hbv, hr3⟩ := some_ev 10 (s := s) hls hr2
  obtain ⟨_, ⟨K5, e5⟩⟩ := OU hls hpl (by simp) hbv (by omega)
  obtain ⟨K6, e6⟩ := Uw
  unfold at_ at e3
  dsimp only [smf, at2] at e4 e5
  by_cases hc : chk 10 ⟨6, 0, 0, m, [el]⟩ v = 0
  · obtain ⟨K7, e7⟩ := Xx hls hpl (by simp) hbv (by omega) hc
    dsimp only [at2] at e7
    obtain ⟨hz, hvl, _⟩ := Oj hc
    have ec : cel 10 ⟨6, 0, 0, m, [el]⟩ v = (v.f1.length : Int) :: (v.f1.map (fun x => x.f0) ++ List.replicate (m.toNat - v.f1.length) (zr el)) := by simp [cel, rd1]
    have hlen : (cel 10 ⟨6, 0, 0, m, [el]⟩ v).length = m.toNat + 1 := by rw [ec]; simp; omega
    have hzz : (zv 10 el).f0 = zr el := by
      cases hel with
      | bool => simp [zv, zr]
      | int _ lo hi h1 h2 h3 => simp [zv]
      | _ => simp at gk
    have hat : ∀ (i : Nat) (hi : i < (cel 10 ⟨6, 0, 0, m, [el]⟩ v).length), v.f1.length + 1 ≤ i → (cel 10 ⟨6, 0, 0, m, [el]⟩ v)[i] = (zv 10 el).f0 := by
      rw [ec, hzz]
      intro i hi hn
      obtain ⟨i, rfl⟩ : ∃ j, i = j + 1 := ⟨i - 1, by omega⟩
      rw [List.getElem_cons_succ, List.getElem_append_right (by simp; omega), List.getElem_replicate]
    obtain ⟨K8, e8⟩ := zero_l0' (cel 10 ⟨6, 0, 0, m, [el]⟩ v) (zv 10 el).f0 (zv 10 el).f1 (by omega) (v.f1.length + 1) hat (m.toNat - v.f1.length) (v.f1.length + 1) (by omega) (by omega)
    refine ⟨K1 + K3 + K4 + K5 + K6 + K7 + K8 + 2, fun k hk => ?_⟩
    obtain ⟨k, rfl⟩ : ∃ j, k = j + 2 := ⟨k - 2, by omega⟩
    have e8' := e8 k (by omega)
    dsimp only at e8'
    simp only [ax.j0]
    rw [if_neg (by decide), e1 _ (by omega), Option.bind_some]
    dsimp only
    rw [e2, Option.bind_some]
    dsimp only
    rw [Option.bind_some, e3 _ (by omega), Option.bind_some]
    dsimp only
    rw [etaT, e4 _ (by omega), Option.bind_some]
    dsimp only
    rw [e5 _ (by omega), Option.bind_some, if_pos hc, e7 _ (by omega), Option.bind_some]
    dsimp only
    have hr0 : rd (cel 10 ⟨6, 0, 0, m, [el]⟩ v) 0 = v.f1.length := by rw [ec]; simp [rd]
    have hw1 : wrap64 (m + 1) = m + 1 := by unfold wrap64; omega
    rw [if_pos rfl, if_pos rfl, hw1, if_pos (by omega), if_pos (by omega), hr0, show ((v.f1.length : Int) != (v.f1.length : Int)) = false from by simp]
    simp only [ax.j1]
    rw [if_neg (by decide), lQ (by omega)]
    exact e8'
  · refine ⟨K1 + K3 + K4 + K5 + K6 + 2, fun k hk => ?_⟩
    obtain ⟨k, rfl⟩ : ∃ j, k = j + 2 := ⟨k - 2, by omega⟩
    simp only [ax.j0]
    rw [if_neg (by decide), e1 _ (by omega), Option.bind_some]
    dsimp only
    rw [e2, Option.bind_some]
    dsimp only
    rw [Option.bind_some, e3 _ (by omega), Option.bind_some]
    dsimp only
    rw [etaT, e4 _ (by omega), Option.bind_some]
    dsimp only
    rw [e5 _ (by omega), Option.bind_some, if_neg hc, e6 _ (by omega), Option.bind_some]
theorem ru : ax.Pure := by
  intro l hl hl8 hw
  obtain ⟨e0, hr⟩ := New_ok l
  obtain ⟨t, p1, ⟨K1, e1⟩, g, hr1⟩ := Xm 3 (s := 0) (by omega) (by omega) hr
  change ∀ k, K1 ≤ k → av.f k (l.take 1000) 0 0 3 = _ at e1
  have hv : Vt 10 t := Vt.mono (by omega) g.vt
  have hlen : (prt 10 t).length ≤ 24 := Nat.le_trans (g.Gs (by omega)) (by decide)
  obtain ⟨K2, e2⟩ := Xn hv hlen g.kind.2.1
  obtain ⟨_, ⟨K3, e3⟩⟩ := Ow hv hlen
  have hc := chk_zv 10 hv g.kind.2.1
  obtain ⟨⟨K4, e4⟩, _⟩ := OU hv hlen g.kind.2.1 (bv_zv 10 hv) (by omega)
  obtain ⟨K5, e5⟩ := zero_j0 (s := 0) hr1
  unfold at_ at e2 e3
  dsimp only [at2] at e4 e5
  refine ⟨K1 + K2 + K3 + K4 + K5 + 1, ?_⟩
  simp only [ax.f]
  rw [e0, Option.bind_some]
  dsimp only
  rw [e1 _ (by omega), Option.bind_some]
  dsimp only
  rw [e2 _ (by omega), Option.bind_some, e3 _ (by omega), Option.bind_some, if_pos rfl]
  dsimp only
  rw [if_pos rfl, e4 _ (by omega), Option.bind_some, hc]
  exact e5 _ (by omega)

end Go.Proofs.Ytggelekooacmnaa.Pure
namespace Go.Proofs.YtggelekooacmnaaW.bM
open Go.ChangeShapes Go.WideShapes
theorem Xy {H : Type} {enc : TypeId × Value → H} {P : Program} {W : World} {base : Nat} {spare : Nat → Bool} {held : Bool} {t e : TypeId} {k : IntKind} {a : Option Addr} {len cap : Nat} {d : DataW H} {ps : List MemPlace} {ts : List TypeId} {ds : List (DataW H)} {j : Nat}
    (hsz : (DataW.weightsEach P ts ds).all (· ≤ reachBytes) = true) (ht : ts[j]? = some t) (hd : ds[j]? = some d) (hu : P.underlying t = some (.slice e)) (he : P.underlying e = some (.int k)) (hc : P.cellsOf e = 1) {B : Nat} (hB : P.bytesOf e = B)
    (h : DataW.Trod enc P W base spare held t (.slice a len cap) d ps) : len * B ≤ 140737488351232 := by
  obtain ⟨fuel, hf⟩ := h
  rcases open_ints hu he hc hf with ⟨hcs, _⟩ | ⟨x, l, c, zs, hcs, _, hl, _, hz, hx, _, _⟩
  · simp [Value.cells] at hcs
    obtain ⟨rfl, rfl, rfl⟩ := hcs
    simp
  · simp [Value.cells] at hcs
    obtain ⟨rfl, rfl, rfl⟩ := hcs
    obtain ⟨hx, _⟩ := Prod.mk.inj hx
    subst hx
    have z := sized_slice hsz ht hd hu
    rw [hB] at z
    have hl2 : len ≤ zs.length := by
      rw [hz]
      split
      · exact hl
      · exact Nat.le_refl _
    have h1 : (lits (H := H) k (zs.take len)).length + (lits (H := H) k (zs.drop len)).length = zs.length := by
      simp [lits]
      omega
    rw [h1] at z
    exact Nat.le_trans (Nat.mul_le_mul_right _ hl2) z
end Go.Proofs.YtggelekooacmnaaW.bM
