import Derived.Test.YtggelekooacmnaaVbu7
set_option linter.unusedVariables false
set_option linter.unusedSimpArgs false
namespace Go.Proofs.Ytggelekooacmnaa.Pure
open Go.RowKit Go.Proofs.Ytggelekooacmnaa.Q Go.Proofs.YtggelekooacmnaaW.bS Go.Proofs.YtggelekooacmnaaW.eQ
theorem Wx {t : S27} (h5 : t.f0 ≠ 5) (h6 : t.f0 ≠ 6) (c : Int) (rest : List Int) : Ev (fun k => bP.f k t.f0 t.f1 t.f2 t.f3 t.f4 (c :: rest)) (c, [], rest, true) := by
  refine ⟨1, fun k hk => ?_⟩
  obtain ⟨k, rfl⟩ : ∃ j, k = j + 1 := ⟨k - 1, by omega⟩
  simp only [bP.f, if_neg h5, if_neg h6]
  rw [if_neg (by simp; omega), if_pos (by simp), if_pos (by simp; omega)]
  simp [rd]
theorem read_l0t (n : Nat) (ts : List S27) (vs : List S31) (hl : ts.length = vs.length) (h4 : ts.length ≤ 4) (rest : List Int)
    (ih : ∀ (i : Nat) (h : i < ts.length) (h' : i < vs.length) (r : List Int), (cel n ts[i] vs[i]).length + r.length ≤ 100000000 → Ev (fun k => bP.f k (ts[i]).f0 (ts[i]).f1 (ts[i]).f2 (ts[i]).f3 (ts[i]).f4 (cel n ts[i] vs[i] ++ r)) ((vs[i]).f0, (vs[i]).f1, r, true)) :
    ∀ (d i : Nat) (o : List S31), o.length ≤ i → i + d = vs.length → (zq (cel n) (ts.drop i) (vs.drop i)).length + rest.length ≤ 100000000 → Ev (fun k => bP.l0 k (zq (cel n) (ts.drop i) (vs.drop i) ++ rest) ts.length ts.length i 5 0 0 0 ts 0 o) (0, o ++ vs.drop i, rest, true) := by
  intro d
  induction d with
  | zero =>
    intro i o ho hi hq
    refine ⟨1, fun k hk => ?_⟩
    obtain ⟨k, rfl⟩ : ∃ j, k = j + 1 := ⟨k - 1, by omega⟩
    simp only [bP.l0]
    rw [if_neg (by omega), if_neg (by decide), List.drop_eq_nil_of_le (show vs.length ≤ i by omega), List.drop_eq_nil_of_le (show ts.length ≤ i by omega)]; simp [zq]
  | succ d IH =>
    intro i o ho hi hq
    have hlt : i < vs.length := by omega
    have hlt' : i < ts.length := by omega
    rw [List.drop_eq_getElem_cons hlt, List.drop_eq_getElem_cons hlt', zq, List.length_append] at hq
    obtain ⟨K1, e1⟩ := ih i hlt' hlt (zq (cel n) (ts.drop (i + 1)) (vs.drop (i + 1)) ++ rest) (by rw [List.length_append]; omega)
    obtain ⟨K2, e2⟩ := IH (i + 1) (o ++ [vs[i]]) (by rw [List.length_append, List.length_singleton]; omega) (by omega) (by omega)
    refine ⟨max K1 K2 + 1, fun k hk => ?_⟩
    obtain ⟨k, rfl⟩ : ∃ j, k = j + 1 := ⟨k - 1, by omega⟩
    have e1' := e1 k (by omega)
    have e2' := e2 k (by omega)
    dsimp only at e1' e2'
    have ec : zq (cel n) (ts.drop i) (vs.drop i) ++ rest = cel n ts[i] vs[i] ++ (zq (cel n) (ts.drop (i + 1)) (vs.drop (i + 1)) ++ rest) := by
      rw [List.drop_eq_getElem_cons hlt, List.drop_eq_getElem_cons hlt', zq, List.append_assoc]
    simp only [bP.l0]
    rw [if_pos (by omega), QD hlt', Option.bind_some, ec, e1', Option.bind_some]
    dsimp only
    rw [if_pos rfl, if_pos (by omega), kT (by omega), etaV, e2', List.append_assoc, List.drop_eq_getElem_cons hlt]
    rfl
theorem read_l0l (n : Nat) (x : S27) (m : Int) (hs : x.f0 = 1 ∨ x.f0 = 2) (vs : List S31) (hv : ∀ v ∈ vs, v.f1 = []) (h4 : vs.length ≤ 4) (hm : (vs.length : Int) ≤ m) (hm2 : m ≤ 4) (tail : List Int) (ht : m.toNat - vs.length ≤ tail.length) (hb : tail.length ≤ 1000000000) :
    ∀ (d i : Nat) (o : List S31), o.length ≤ i → i + d = vs.length → Ev (fun k => bP.l0 k ((vs.drop i).map (fun y => y.f0) ++ tail) vs.length vs.length i 6 0 0 m [x] 0 o) (0, o ++ vs.drop i, tail.drop (m.toNat - vs.length), true) := by
  intro d
  induction d with
  | zero =>
    intro i o ho hi
    refine ⟨1, fun k hk => ?_⟩
    obtain ⟨k, rfl⟩ : ∃ j, k = j + 1 := ⟨k - 1, by omega⟩
    have hw : wrap64 (m - (vs.length : Int)) = ((m.toNat - vs.length : Nat) : Int) := by unfold wrap64; omega
    simp only [bP.l0]
    rw [if_neg (by omega), if_pos trivial, List.drop_eq_nil_of_le (show vs.length ≤ i by omega), hw]
    simp only [List.map_nil, List.nil_append, List.append_nil]
    rw [if_neg (by omega), if_pos (by omega), if_pos (by omega)]
    simp
  | succ d IH =>
    intro i o ho hi
    have hlt : i < vs.length := by omega
    obtain ⟨K1, e1⟩ := Wx (t := x) (by omega) (by omega) vs[i].f0 ((vs.drop (i + 1)).map (fun y => y.f0) ++ tail)
    obtain ⟨K2, e2⟩ := IH (i + 1) (o ++ [vs[i]]) (by rw [List.length_append, List.length_singleton]; omega) (by omega)
    refine ⟨max K1 K2 + 1, fun k hk => ?_⟩
    obtain ⟨k, rfl⟩ : ∃ j, k = j + 1 := ⟨k - 1, by omega⟩
    have e1' := e1 k (by omega)
    have e2' := e2 k (by omega)
    dsimp only at e1' e2'
    have ec : (vs.drop i).map (fun y => y.f0) ++ tail = vs[i].f0 :: ((vs.drop (i + 1)).map (fun y => y.f0) ++ tail) := by
      rw [List.drop_eq_getElem_cons hlt]; rfl
    have hv' : (⟨vs[i].f0, []⟩ : S31) = vs[i] := by
      have := hv vs[i] (List.getElem_mem hlt)
      rw [← this, etaV]
    simp only [bP.l0]
    rw [if_pos (by omega), QE, Option.bind_some, ec, e1', Option.bind_some]
    dsimp only
    rw [if_pos rfl, if_pos (by omega), kT (by omega), hv', e2', List.append_assoc, List.drop_eq_getElem_cons hlt]
    rfl
theorem read_ev (n : Nat) : ∀ {t : S27} {v : S31}, n ≤ 10 → Vt n t → chk n t v = 0 → ∀ rest : List Int, (cel n t v).length + rest.length ≤ 100000000 → Ev (fun k => bP.f k t.f0 t.f1 t.f2 t.f3 t.f4 (cel n t v ++ rest)) (v.f0, v.f1, rest, true) := by
  induction n with
  | zero => intro t v _ h; cases h
  | succ n ih =>
    intro t v hn h hc rest hrest
    have hlen := Wd (n + 1) h hc
    have hpos := (J8 (n + 1) h).2
    have leaf : t.f0 ≠ 5 → t.f0 ≠ 6 → Ev (fun k => bP.f k t.f0 t.f1 t.f2 t.f3 t.f4 (cel (n + 1) t v ++ rest)) (v.f0, v.f1, rest, true) := by
      intro h5 h6
      rw [show cel (n + 1) t v = [v.f0] from by simp [cel, h5, h6], (G9 h5 h6 hc).1]
      exact Wx h5 h6 v.f0 rest
    cases h with
    | bool => exact leaf (by decide) (by decide)
    | int _ lo hi h1 h2 h3 => exact leaf (by simp) (by simp)
    | nat => exact leaf (by decide) (by decide)
    | real => exact leaf (by decide) (by decide)
    | tup _ l h1 h2 h3 h4 =>
      obtain ⟨hz, hl, ha⟩ := Qw hc
      have ec : cel (n + 1) ⟨5, 0, 0, 0, l⟩ v = zq (cel n) l v.f1 := by simp [cel]
      rw [ec] at hlen hrest ⊢
      have hb : ∀ (i : Nat) (h : i < l.length) (h' : i < v.f1.length) (r : List Int), (cel n l[i] v.f1[i]).length + r.length ≤ 100000000 → Ev (fun k => bP.f k (l[i]).f0 (l[i]).f1 (l[i]).f2 (l[i]).f3 (l[i]).f4 (cel n l[i] v.f1[i] ++ r)) ((v.f1[i]).f0, (v.f1[i]).f1, r, true) := fun i h h' r hr => ih (by omega) (h3 _ (List.getElem_mem h)) (ha i h h') r hr
      obtain ⟨K, e⟩ := read_l0t n l v.f1 hl.symm h2 rest hb v.f1.length 0 [] (by simp) (by omega) (by simpa using hrest)
      refine ⟨K + 2, fun k hk => ?_⟩
      obtain ⟨k, rfl⟩ : ∃ j, k = j + 2 := ⟨k - 2, by omega⟩
      have e' := e k (by omega)
      simp only [bP.f]
      rw [if_neg (by rw [List.length_append]; omega), if_pos trivial]
      simp only [bP.j0]
      rw [hz]
      simpa using e'
    | lst _ m x h1 h2 h3 h4 =>
      obtain ⟨hz, hl, ha⟩ := Qx hc
      have ec : cel (n + 1) ⟨6, 0, 0, m, [x]⟩ v = (v.f1.length : Int) :: (v.f1.map (fun x => x.f0) ++ List.replicate (m.toNat - v.f1.length) (zr x)) := by simp [cel, rd1]
      rw [ec] at hlen hrest ⊢
      have hv : ∀ y ∈ v.f1, y.f1 = [] := by
        intro y hy
        have hq := ha y hy
        cases n with
        | zero => cases h3
        | succ n => exact (G9 (by omega) (by omega) hq).1
      simp only [List.length_cons, List.length_append, List.length_map, List.length_replicate] at hrest
      obtain ⟨K, e⟩ := read_l0l n x m h4 v.f1 hv (by omega) hl h2 (List.replicate (m.toNat - v.f1.length) (zr x) ++ rest) (by simp) (by simp; omega) v.f1.length 0 [] (by simp) (by omega)
      refine ⟨K + 2, fun k hk => ?_⟩
      obtain ⟨k, rfl⟩ : ∃ j, k = j + 2 := ⟨k - 2, by omega⟩
      have e' := e k (by omega)
      have hr0 : rd ((v.f1.length : Int) :: (v.f1.map (fun x => x.f0) ++ List.replicate (m.toNat - v.f1.length) (zr x)) ++ rest) 0 = v.f1.length := by simp [rd]
      simp only [bP.f]
      rw [if_neg (by simp; omega), if_neg (by decide), if_pos trivial, if_pos (by simp; omega), hr0, if_neg (by omega), if_neg (by omega), if_pos (by simp; omega)]
      simp only [bP.j0]
      rw [hz]
      simpa using e'
theorem Tf {t : S27} (hv : Vt 10 t) (hl : (prt 10 t).length ≤ 24) (h4 : t.f0 ≠ 4) : Ev (at_ fF.f t) 0 ∧ Ev (at_ kY.f t) 0 := by
  obtain ⟨⟨K1, e1⟩, ⟨K2, e2⟩⟩ := Xz hv hl
  unfold at_ at e1 e2
  refine ⟨⟨K1, fun k hk => ?_⟩, ⟨K2, fun k hk => ?_⟩⟩
  · simp only [at_, fF.f]
    rw [e1 k hk, Option.bind_some, if_pos rfl, if_neg h4]
  · simp only [at_, kY.f]
    rw [e2 k hk, Option.bind_some, if_pos rfl, if_neg h4]
theorem Xi {t : S27} {v : S31} {m : Nat} (hv : Vt 10 t) (hl : (prt 10 t).length ≤ 24) (h4 : t.f0 ≠ 4) (hb : Bv m v) (hm : 10 ≤ m) : Ev (at2 iC.f t v) (chk 10 t v) ∧ Ev (at2 iF.f t v) (chk 10 t v) := by
  obtain ⟨⟨K1, e1⟩, ⟨K2, e2⟩⟩ := Tf hv hl h4
  obtain ⟨K3, e3⟩ := Xo 10 hv h4 hb hm
  obtain ⟨K4, e4⟩ := aap 10 hv h4 hb hm
  unfold at_ at e1 e2
  dsimp only [at2] at e3 e4
  refine ⟨⟨K1 + K3, fun k hk => ?_⟩, ⟨K2 + K4, fun k hk => ?_⟩⟩
  · simp only [at2, iC.f]
    rw [e1 k (by omega), Option.bind_some, if_pos rfl, e3 k (by omega), Option.bind_some]
  · simp only [at2, iF.f]
    rw [e2 k (by omega), Option.bind_some, if_pos rfl, e4 k (by omega), Option.bind_some]
theorem Z4 {t : S27} {v : S31} {m : Nat} (hv : Vt 10 t) (hl : (prt 10 t).length ≤ 24) (h4 : t.f0 ≠ 4) (hb : Bv m v) (hm : 10 ≤ m) (hc : chk 10 t v = 0) : Ev (at2 fQ.f t v) (cel 10 t v, 0) := by
  obtain ⟨⟨K1, e1⟩, _⟩ := Xi hv hl h4 hb hm
  obtain ⟨K2, e2⟩ := Te 10 (by omega) hv hb hm hc
  dsimp only [at2] at e1 e2
  refine ⟨K1 + K2, fun k hk => ?_⟩
  simp only [at2, fQ.f]
  rw [e1 k (by omega), Option.bind_some, if_pos hc, e2 k (by omega), Option.bind_some]
theorem Xj {t : S27} {v : S31} {m : Nat} (hv : Vt 10 t) (hl : (prt 10 t).length ≤ 24) (h4 : t.f0 ≠ 4) (hb : Bv m v) (hm : 10 ≤ m) (hc : chk 10 t v = 0) :
    Ev (fun k => dR.f k t.f0 t.f1 t.f2 t.f3 t.f4 (cel 10 t v)) (v.f0, v.f1, 0) := by
  obtain ⟨⟨K1, e1⟩, _⟩ := Tf hv hl h4
  have hcl := Wd 10 hv hc
  obtain ⟨K2, e2⟩ := read_ev 10 (by omega) hv hc [] (by simp; omega)
  obtain ⟨K3, e3⟩ := Xo 10 hv h4 hb hm
  obtain ⟨K4, e4⟩ := Te 10 (by omega) hv hb hm hc
  obtain ⟨K5, e5⟩ := equal_ev (cel 10 t v) (cel 10 t v) (by omega)
  unfold at_ at e1
  dsimp only [at2] at e2 e3 e4 e5
  simp only [List.append_nil, decide_true] at e2 e5
  refine ⟨K1 + K2 + K3 + K4 + K5, fun k hk => ?_⟩
  simp only [dR.f]
  rw [e1 k (by omega), Option.bind_some, if_pos rfl, e2 k (by omega), Option.bind_some, if_pos rfl]
  rw [if_pos (by simp), e3 k (by omega), Option.bind_some, if_pos hc, e4 k (by omega), Option.bind_some, e5 k (by omega), Option.bind_some, if_pos rfl]
end Go.Proofs.Ytggelekooacmnaa.Pure
