import Derived.Test.YtggelekooacmnaaVbu5
set_option linter.unusedVariables false
set_option linter.unusedSimpArgs false
namespace Go.Proofs.Ytggelekooacmnaa.Pure
open Go.RowKit Go.Proofs.Ytggelekooacmnaa.Q Go.Proofs.YtggelekooacmnaaW.bS Go.Proofs.YtggelekooacmnaaW.eQ
theorem Z5 (n : Nat) (ts : List S27) (vs : List S31) (v0 : Int) (hl : ts.length = vs.length) (h4 : ts.length ≤ 1000) (ih : ∀ (i : Nat) (h : i < ts.length) (h' : i < vs.length), Ev (at2 aK.f ts[i] vs[i]) (chk n ts[i] vs[i])) :
    ∀ (d i : Nat), i + d = vs.length → Ev (fun k => aK.l0 k i 5 0 0 0 ts v0 vs) (ck1 (chk n) (ts.drop i) (vs.drop i)) := by
  intro d
  induction d with
  | zero =>
    intro i hi
    refine ⟨1, fun k hk => ?_⟩
    obtain ⟨k, rfl⟩ : ∃ j, k = j + 1 := ⟨k - 1, by omega⟩
    simp only [aK.l0]
    rw [if_neg (by omega), List.drop_eq_nil_of_le (show vs.length ≤ i by omega), List.drop_eq_nil_of_le (show ts.length ≤ i by omega)]; rfl
  | succ d IH =>
    intro i hi
    have hlt : i < vs.length := by omega
    have hlt' : i < ts.length := by omega
    obtain ⟨K1, e1⟩ := ih i hlt' hlt
    obtain ⟨K2, e2⟩ := IH (i + 1) (by omega)
    refine ⟨max K1 K2 + 1, fun k hk => ?_⟩
    obtain ⟨k, rfl⟩ : ∃ j, k = j + 1 := ⟨k - 1, by omega⟩
    have e1' := e1 k (by omega)
    have e2' := e2 k (by omega)
    dsimp only [at2] at e1' e2'
    simp only [aK.l0]
    rw [if_pos (by omega), if_pos (by omega), if_pos trivial, if_pos (by omega), if_pos (by omega), rdT hlt', rdV hlt, e1', Option.bind_some, kT (by omega), e2', List.drop_eq_getElem_cons hlt, List.drop_eq_getElem_cons hlt']
    simp only [ck1]
    split <;> rfl
theorem Z6 (n : Nat) (x : S27) (a1 a2 a3 v0 : Int) (vs : List S31) (h4 : vs.length ≤ 1000) (ih : ∀ (i : Nat) (h' : i < vs.length), Ev (at2 aK.f x vs[i]) (chk n x vs[i])) :
    ∀ (d i : Nat), i + d = vs.length → Ev (fun k => aK.l0 k i 6 a1 a2 a3 [x] v0 vs) (ck2 (chk n x) (vs.drop i)) := by
  intro d
  induction d with
  | zero =>
    intro i hi
    refine ⟨1, fun k hk => ?_⟩
    obtain ⟨k, rfl⟩ : ∃ j, k = j + 1 := ⟨k - 1, by omega⟩
    simp only [aK.l0]
    rw [if_neg (by omega), List.drop_eq_nil_of_le (by omega)]; rfl
  | succ d IH =>
    intro i hi
    have hlt : i < vs.length := by omega
    obtain ⟨K1, e1⟩ := ih i hlt
    obtain ⟨K2, e2⟩ := IH (i + 1) (by omega)
    refine ⟨max K1 K2 + 1, fun k hk => ?_⟩
    obtain ⟨k, rfl⟩ : ∃ j, k = j + 1 := ⟨k - 1, by omega⟩
    have e1' := e1 k (by omega)
    have e2' := e2 k (by omega)
    dsimp only [at2] at e1' e2'
    simp only [aK.l0]
    rw [if_pos (by omega), if_pos (by simp), if_neg (by decide), if_pos (by omega), rd1, rdV hlt, e1', Option.bind_some, kT (by omega), e2', List.drop_eq_getElem_cons hlt]
    simp only [ck2]
    split <;> rfl
theorem aap (n : Nat) : ∀ {t : S27} {v : S31} {m : Nat}, Vt n t → t.f0 ≠ 4 → Bv m v → n ≤ m → Ev (at2 aK.f t v) (chk n t v) := by
  induction n with
  | zero => intro t v m h; cases h
  | succ n ih =>
    intro t v m h hr hb hm
    obtain ⟨m, rfl⟩ : ∃ e, m = e + 1 := ⟨m - 1, by omega⟩
    obtain ⟨v0, vs⟩ := v
    have hvl : vs.length ≤ 1000 := hb.1
    cases h with
    | bool =>
      refine ⟨2, fun k hk => ?_⟩
      obtain ⟨k, rfl⟩ : ∃ j, k = j + 2 := ⟨k - 2, by omega⟩
      simp only [at2, aK.f, aK.j0, chk]
      by_cases hz : vs.length = 0
      · have : vs = [] := List.eq_nil_of_length_eq_zero hz
        subst this
        by_cases c1 : v0 = 0
        · simp [c1]
        · by_cases c2 : v0 = 1
          · simp [c2]
          · have : v0 < 0 ∨ v0 > 1 := by omega
            simp [c1, c2, this]
      · have : vs ≠ [] := fun h => hz (by simp [h])
        simp [this, Nat.pos_of_ne_zero hz]
    | int _ lo hi h1 h2 h3 =>
      refine ⟨2, fun k hk => ?_⟩
      obtain ⟨k, rfl⟩ : ∃ j, k = j + 2 := ⟨k - 2, by omega⟩
      simp only [at2, aK.f, aK.j0, chk]
      by_cases hz : vs.length = 0
      · have : vs = [] := List.eq_nil_of_length_eq_zero hz
        subst this
        by_cases c1 : v0 < lo
        · simp [c1]
        · by_cases c2 : hi < v0
          · simp [c1, c2]
          · simp [c1, c2]
      · have : vs ≠ [] := fun h => hz (by simp [h])
        simp [this, Nat.pos_of_ne_zero hz]
    | nat =>
      refine ⟨2, fun k hk => ?_⟩
      obtain ⟨k, rfl⟩ : ∃ j, k = j + 2 := ⟨k - 2, by omega⟩
      simp only [at2, aK.f, aK.j0, chk]
      by_cases hz : vs.length = 0
      · have : vs = [] := List.eq_nil_of_length_eq_zero hz
        subst this
        by_cases c1 : v0 < 0 <;> simp [c1]
      · have : vs ≠ [] := fun h => hz (by simp [h])
        simp [this, Nat.pos_of_ne_zero hz]
    | real => exact absurd rfl hr
    | tup _ l h1 h2 h3 h4 =>
      have hj : ∀ k, at2 aK.f ⟨5, 0, 0, 0, l⟩ ⟨v0, vs⟩ (k + 2) = (if v0 = 0 then (if (vs.length : Int) = (l.length : Int) then aK.j1 k false 5 0 0 0 l v0 vs else aK.j1 k true 5 0 0 0 l v0 vs) else aK.j1 k true 5 0 0 0 l v0 vs) := by
        intro k
        simp only [at2, aK.f, aK.j0, if_pos]
        simp
      have hs : chk (n + 1) ⟨5, 0, 0, 0, l⟩ ⟨v0, vs⟩ = (if v0 ≠ 0 ∨ vs.length ≠ l.length then 2 else ck1 (chk n) l vs) := by simp only [chk, if_pos]
      rw [hs]
      by_cases c : v0 ≠ 0 ∨ vs.length ≠ l.length
      · refine ⟨3, fun k hk => ?_⟩
        obtain ⟨k, rfl⟩ : ∃ j, k = j + 3 := ⟨k - 3, by omega⟩
        rw [hj, if_pos c]
        split
        · rw [if_neg (by omega)]; simp only [aK.j1, if_pos]
        · simp only [aK.j1, if_pos]
      · have hlen : l.length = vs.length := by omega
        obtain ⟨K, e⟩ := Z5 n l vs v0 hlen (by omega) (fun i hi hi' => ih (h3 _ (List.getElem_mem hi)) (h4 _ (List.getElem_mem hi)).2 (hb.2 _ (List.getElem_mem hi')) (by omega)) vs.length 0 (by omega)
        refine ⟨K + 3, fun k hk => ?_⟩
        obtain ⟨k, rfl⟩ : ∃ j, k = j + 3 := ⟨k - 3, by omega⟩
        rw [hj, if_neg c, if_pos (by omega), if_pos (by omega)]
        have e' := e k (by omega)
        dsimp only at e'
        simp only [aK.j1]
        rw [if_neg (by decide)]
        simpa using e'
    | lst _ mm x h1 h2 h3 h4 =>
      have hj : ∀ k, at2 aK.f ⟨6, 0, 0, mm, [x]⟩ ⟨v0, vs⟩ (k + 2) = (if v0 = 0 then aK.j1 k (decide ((vs.length : Int) > mm)) 6 0 0 mm [x] v0 vs else aK.j1 k true 6 0 0 mm [x] v0 vs) := by
        intro k
        simp only [at2, aK.f, aK.j0]
        simp
      have hs : chk (n + 1) ⟨6, 0, 0, mm, [x]⟩ ⟨v0, vs⟩ = (if v0 ≠ 0 ∨ (vs.length : Int) > mm then 2 else ck2 (chk n x) vs) := by simp [chk, rd1]
      rw [hs]
      by_cases c : v0 ≠ 0 ∨ (vs.length : Int) > mm
      · refine ⟨3, fun k hk => ?_⟩
        obtain ⟨k, rfl⟩ : ∃ j, k = j + 3 := ⟨k - 3, by omega⟩
        rw [hj, if_pos c]
        split
        · rw [show decide ((vs.length : Int) > mm) = true from by simp; omega]; simp only [aK.j1, if_pos]
        · simp only [aK.j1, if_pos]
      · have hx4 : x.f0 ≠ 4 := by omega
        obtain ⟨K, e⟩ := Z6 n x 0 0 mm v0 vs hvl (fun i hi' => ih h3 hx4 (hb.2 _ (List.getElem_mem hi')) (by omega)) vs.length 0 (by omega)
        refine ⟨K + 3, fun k hk => ?_⟩
        obtain ⟨k, rfl⟩ : ∃ j, k = j + 3 := ⟨k - 3, by omega⟩
        rw [hj, if_neg c, if_pos (by omega), show decide ((vs.length : Int) > mm) = false from by simp; omega]
        have e' := e k (by omega)
        dsimp only at e'
        simp only [aK.j1]
        rw [if_neg (by decide)]
        simpa using e'
def zr (x : S27) : Int := if x.f0 = 2 then max x.f1 (min 0 x.f2) else 0
def zv : Nat → S27 → S31
  | 0, _ => ⟨0, []⟩
  | n + 1, t => if t.f0 = 2 then ⟨zr t, []⟩ else if t.f0 = 5 then ⟨0, t.f4.map (zv n)⟩ else ⟨0, []⟩
theorem etaV (v : S31) : (⟨v.f0, v.f1⟩ : S31) = v := by cases v; rfl
theorem etaT (t : S27) : (⟨t.f0, t.f1, t.f2, t.f3, t.f4⟩ : S27) = t := by cases t; rfl
theorem zero_l0 (n : Nat) (l : List S27) (hl : l.length ≤ 4) (ih : ∀ t ∈ l, Ev (at_ dn.f t) ((zv n t).f0, (zv n t).f1)) :
    ∀ (d i : Nat) (o : List S31), o.length ≤ i → i + d = l.length → Ev (fun k => dn.l0 k l l.length i 0 o) ((0 : Int), o ++ (l.drop i).map (zv n)) := by
  intro d
  induction d with
  | zero =>
    intro i o ho hi
    refine ⟨1, fun k hk => ?_⟩
    obtain ⟨k, rfl⟩ : ∃ j, k = j + 1 := ⟨k - 1, by omega⟩
    simp only [dn.l0]
    rw [if_neg (by omega), List.drop_eq_nil_of_le (by omega)]; simp
  | succ d IH =>
    intro i o ho hi
    have hlt : i < l.length := by omega
    obtain ⟨K1, e1⟩ := ih l[i] (List.getElem_mem hlt)
    obtain ⟨K2, e2⟩ := IH (i + 1) (o ++ [zv n l[i]]) (by rw [List.length_append, List.length_singleton]; omega) (by omega)
    refine ⟨max K1 K2 + 1, fun k hk => ?_⟩
    obtain ⟨k, rfl⟩ : ∃ j, k = j + 1 := ⟨k - 1, by omega⟩
    have e1' := e1 k (by omega)
    have e2' := e2 k (by omega)
    unfold at_ at e1'
    dsimp only at e1' e2'
    simp only [dn.l0]
    rw [if_pos (by omega), if_pos (by omega), if_pos (by omega), rdT hlt, e1', Option.bind_some, if_pos (by omega), kT (by omega), etaV, e2', List.append_assoc, List.drop_eq_getElem_cons hlt]
    rfl
theorem zero_ev (n : Nat) : ∀ {t : S27}, Vt n t → Ev (at_ dn.f t) ((zv n t).f0, (zv n t).f1) := by
  induction n with
  | zero => intro t h; cases h
  | succ n ih =>
    intro t h
    by_cases k5 : t.f0 = 5
    · cases h with
      | tup _ l h1 h2 h3 h4 =>
        obtain ⟨K, e⟩ := zero_l0 n l h2 (fun x hx => ih (h3 x hx)) l.length 0 [] (by simp) (by omega)
        refine ⟨K + 1, fun k hk => ?_⟩
        obtain ⟨k, rfl⟩ : ∃ j, k = j + 1 := ⟨k - 1, by omega⟩
        have e' := e k (by omega)
        simp only [at_, dn.f, zv]
        simpa using e'
      | _ => simp at k5
    · refine ⟨1, fun k hk => ?_⟩
      obtain ⟨k, rfl⟩ : ∃ j, k = j + 1 := ⟨k - 1, by omega⟩
      simp only [at_, dn.f, zv, zr]
      by_cases k2 : t.f0 = 2
      · simp only [if_pos k2, mx_eq, mn_eq]
      · simp only [if_neg k2, if_neg k5]
def zq (f : S27 → S31 → List Int) : List S27 → List S31 → List Int
  | t :: ts, v :: vs => f t v ++ zq f ts vs
  | _, _ => []
def cel : Nat → S27 → S31 → List Int
  | 0, _, _ => []
  | n + 1, t, v => if t.f0 = 5 then zq (cel n) t.f4 v.f1
    else if t.f0 = 6 then (v.f1.length : Int) :: (v.f1.map (fun x => x.f0) ++ List.replicate (t.f3.toNat - v.f1.length) (zr (af t.f4 0)))
    else [v.f0]
theorem ck1_at {f : S27 → S31 → Int} : ∀ {ts : List S27} {vs : List S31}, ck1 f ts vs = 0 → ∀ (i : Nat) (h : i < ts.length) (h' : i < vs.length), f ts[i] vs[i] = 0
  | t :: ts, v :: vs, h, i, hi, hi' => by
    simp only [ck1] at h
    by_cases hc : f t v = 0
    · rw [if_pos hc] at h
      cases i with
      | zero => exact hc
      | succ i => exact ck1_at h i (by simpa using hi) (by simpa using hi')
    · rw [if_neg hc] at h; exact absurd h hc
  | [], _, _, i, hi, _ => by simp at hi
  | _ :: _, [], _, i, _, hi => by simp at hi
theorem ck2_at {f : S31 → Int} : ∀ {vs : List S31}, ck2 f vs = 0 → ∀ v ∈ vs, f v = 0
  | v :: vs, h, x, hx => by
    simp only [ck2] at h
    by_cases hc : f v = 0
    · rw [if_pos hc] at h
      rcases List.mem_cons.1 hx with rfl | hx
      · exact hc
      · exact ck2_at h x hx
    · rw [if_neg hc] at h; exact absurd h hc
  | [], _, x, hx => by simp at hx
theorem Qw {n : Nat} {l : List S27} {v : S31} (h : chk (n + 1) ⟨5, 0, 0, 0, l⟩ v = 0) : v.f0 = 0 ∧ v.f1.length = l.length ∧ ∀ (i : Nat) (h : i < l.length) (h' : i < v.f1.length), chk n l[i] v.f1[i] = 0 := by
  simp only [chk, if_pos] at h
  by_cases c : v.f0 ≠ 0 ∨ v.f1.length ≠ l.length
  · rw [if_pos c] at h; simp at h
  · rw [if_neg c] at h
    exact ⟨by omega, by omega, ck1_at h⟩
theorem Qx {n : Nat} {m : Int} {x : S27} {v : S31} (h : chk (n + 1) ⟨6, 0, 0, m, [x]⟩ v = 0) : v.f0 = 0 ∧ (v.f1.length : Int) ≤ m ∧ ∀ y ∈ v.f1, chk n x y = 0 := by
  have hs : chk (n + 1) ⟨6, 0, 0, m, [x]⟩ v = (if v.f0 ≠ 0 ∨ (v.f1.length : Int) > m then 2 else ck2 (chk n x) v.f1) := by simp [chk, rd1]
  rw [hs] at h
  by_cases c : v.f0 ≠ 0 ∨ (v.f1.length : Int) > m
  · rw [if_pos c] at h; simp at h
  · rw [if_neg c] at h
    exact ⟨by omega, by omega, ck2_at h⟩
theorem G9 {n : Nat} {t : S27} {v : S31} (h5 : t.f0 ≠ 5) (h6 : t.f0 ≠ 6) (h : chk (n + 1) t v = 0) : v.f1 = [] ∧ (t.f0 = 1 → 0 ≤ v.f0 ∧ v.f0 ≤ 1) ∧ (t.f0 = 3 → 0 ≤ v.f0) ∧ (t.f0 ≠ 1 → t.f0 ≠ 3 → t.f1 ≤ v.f0 ∧ v.f0 ≤ t.f2) := by
  simp only [chk, if_neg h5, if_neg h6] at h
  by_cases c : v.f1.length ≠ 0
  · rw [if_pos c] at h; simp at h
  · rw [if_neg c] at h
    refine ⟨List.eq_nil_of_length_eq_zero (by omega), ?_, ?_, ?_⟩
    · intro h1
      simp only [if_pos h1] at h
      split at h <;> omega
    · intro h3
      have h1 : t.f0 ≠ 1 := by omega
      simp only [if_neg h1, if_pos h3] at h
      split at h <;> omega
    · intro h1 h3
      simp only [if_neg h1, if_neg h3] at h
      split at h <;> omega
theorem Xp {n : Nat} : ∀ {ts : List S27} {vs : List S31}, ts.length = vs.length → (∀ (i : Nat) (h : i < ts.length) (h' : i < vs.length), (cel n ts[i] vs[i]).length = (prt n ts[i]).length) → (zq (cel n) ts vs).length = (ts.map (prt n)).flatten.length
  | [], [], _, _ => rfl
  | t :: ts, v :: vs, hl, h => by
    simp only [zq, List.length_append, List.map_cons, List.flatten_cons]
    have h0 := h 0 (by simp) (by simp)
    simp only [List.getElem_cons_zero] at h0
    rw [h0, Xp (by simpa using hl) (fun i h1 h2 => h (i + 1) (Nat.succ_lt_succ h1) (Nat.succ_lt_succ h2))]
  | [], _ :: _, hl, _ => by simp at hl
  | _ :: _, [], hl, _ => by simp at hl
theorem Wd (n : Nat) : ∀ {t : S27} {v : S31}, Vt n t → chk n t v = 0 → (cel n t v).length = (prt n t).length := by
  induction n with
  | zero => intro t v h; cases h
  | succ n ih =>
    intro t v h hc
    cases h with
    | bool => simp [cel, prt]
    | int _ lo hi h1 h2 h3 => simp [cel, prt]
    | nat => simp [cel, prt]
    | real => simp [cel, prt]
    | tup _ l h1 h2 h3 h4 =>
      obtain ⟨_, hl, ha⟩ := Qw hc
      rw [prt5, show cel (n + 1) ⟨5, 0, 0, 0, l⟩ v = zq (cel n) l v.f1 from by simp [cel]]
      exact Xp hl.symm (fun i h1 h2 => ih (h3 _ (List.getElem_mem h1)) (ha i h1 h2))
    | lst _ m x h1 h2 h3 h4 =>
      obtain ⟨_, hl, ha⟩ := Qx hc
      rw [prt6, List.length_cons, Qy, Td h3 h4]
      simp [cel]; omega
end Go.Proofs.Ytggelekooacmnaa.Pure
