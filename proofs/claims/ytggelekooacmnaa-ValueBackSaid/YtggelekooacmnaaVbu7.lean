import Derived.Test.YtggelekooacmnaaVbu6
set_option linter.unusedVariables false
set_option linter.unusedSimpArgs false
namespace Go.Proofs.Ytggelekooacmnaa.Pure
open Go.RowKit Go.Proofs.Ytggelekooacmnaa.Q Go.Proofs.YtggelekooacmnaaW.bS Go.Proofs.YtggelekooacmnaaW.eQ
theorem Vv.bd1 {n m : Nat} {v : S31} (hb : Bv (m + 1) v) (i : Nat) (h : i < v.f1.length) : Bv m v.f1[i] := hb.2 _ (List.getElem_mem h)
theorem flat_l0 (n : Nat) (ts : List S27) (vs : List S31) (hl : ts.length = vs.length) (h4 : ts.length ≤ 4) (B : Nat) (hB : B ≤ 10000000) (ih : ∀ (i : Nat) (h : i < ts.length) (h' : i < vs.length), Ev (at2 aT.f ts[i] vs[i]) (cel n ts[i] vs[i]) ∧ (cel n ts[i] vs[i]).length ≤ B) :
    ∀ (d i : Nat) (o : List Int), o.length ≤ i * B → i + d = vs.length → Ev (fun k => aT.l0 k o vs vs.length i 5 0 0 0 ts) (o ++ zq (cel n) (ts.drop i) (vs.drop i)) := by
  intro d
  induction d with
  | zero =>
    intro i o ho hi
    refine ⟨1, fun k hk => ?_⟩
    obtain ⟨k, rfl⟩ : ∃ j, k = j + 1 := ⟨k - 1, by omega⟩
    simp only [aT.l0]
    rw [if_neg (by omega), List.drop_eq_nil_of_le (show vs.length ≤ i by omega), List.drop_eq_nil_of_le (show ts.length ≤ i by omega)]; simp [zq]
  | succ d IH =>
    intro i o ho hi
    have hlt : i < vs.length := by omega
    have hlt' : i < ts.length := by omega
    obtain ⟨⟨K1, e1⟩, hb⟩ := ih i hlt' hlt
    have hm : (o ++ cel n ts[i] vs[i]).length ≤ (i + 1) * B := by rw [List.length_append, Nat.add_mul]; omega
    have hm2 : (i + 1) * B ≤ 4 * B := Nat.mul_le_mul_right _ (by omega)
    obtain ⟨K2, e2⟩ := IH (i + 1) (o ++ cel n ts[i] vs[i]) hm (by omega)
    refine ⟨max K1 K2 + 1, fun k hk => ?_⟩
    obtain ⟨k, rfl⟩ : ∃ j, k = j + 1 := ⟨k - 1, by omega⟩
    have e1' := e1 k (by omega)
    have e2' := e2 k (by omega)
    dsimp only [at2] at e1' e2'
    rw [List.length_append] at hm
    simp only [aT.l0]
    rw [if_pos (by omega), if_pos (by omega), if_pos (by omega), if_pos (by omega), rdT hlt', rdV hlt, e1', Option.bind_some, if_pos (by omega), kT (by omega), e2', List.append_assoc, List.drop_eq_getElem_cons hlt, List.drop_eq_getElem_cons hlt']
    rfl
theorem E5 {t : S27} {v : S31} (h5 : t.f0 ≠ 5) (h6 : t.f0 ≠ 6) : Ev (at2 aT.f t v) [v.f0] := by
  refine ⟨1, fun k hk => ?_⟩
  obtain ⟨k, rfl⟩ : ∃ j, k = j + 1 := ⟨k - 1, by omega⟩
  simp only [at2, aT.f, if_neg h5, if_neg h6]
theorem flat_l2 (n : Nat) (x : S27) (m : Int) (hx : Vt n x) (hs : x.f0 = 1 ∨ x.f0 = 2) (N : Nat) (hN : N ≤ 4) :
    ∀ (d i : Nat) (o : List Int), o.length ≤ 100 + i → i + d = N → Ev (fun k => aT.l2 k o N i 6 0 0 m [x]) (o ++ List.replicate d (zr x)) := by
  intro d
  induction d with
  | zero =>
    intro i o ho hi
    refine ⟨1, fun k hk => ?_⟩
    obtain ⟨k, rfl⟩ : ∃ j, k = j + 1 := ⟨k - 1, by omega⟩
    simp only [aT.l2]
    rw [if_neg (by omega)]; simp
  | succ d IH =>
    intro i o ho hi
    obtain ⟨K1, e1⟩ := zero_ev n hx
    have hz : (zv n x).f0 = zr x := by
      cases hx with
      | bool => simp [zv, zr]
      | int _ lo hi h1 h2 h3 => simp [zv]
      | _ => simp at hs
    obtain ⟨K3, e3⟩ := E5 (t := x) (v := zv n x) (by omega) (by omega)
    obtain ⟨K2, e2⟩ := IH (i + 1) (o ++ [zr x]) (by rw [List.length_append, List.length_singleton]; omega) (by omega)
    refine ⟨max K1 (max K2 K3) + 1, fun k hk => ?_⟩
    obtain ⟨k, rfl⟩ : ∃ j, k = j + 1 := ⟨k - 1, by omega⟩
    have e1' := e1 k (by omega)
    have e2' := e2 k (by omega)
    have e3' := e3 k (by omega)
    unfold at_ at e1'
    dsimp only [at2] at e1' e2' e3'
    simp only [aT.l2]
    rw [if_pos (by omega), if_pos (by simp), rd1, e1', Option.bind_some, e3', Option.bind_some, if_pos (by rw [List.length_singleton]; omega), kT (by omega), hz, e2', List.append_assoc]
    rfl
theorem flat_l1 (n : Nat) (x : S27) (m v0 : Int) (vs ws : List S31) (hs : x.f0 = 1 ∨ x.f0 = 2) (h4 : vs.length ≤ 4) (r : List Int → List Int)
    (fin : ∀ o : List Int, o.length ≤ 100 → Ev (fun k => aT.l2 k o (wrap64 (m - (ws.length : Int))) 0 6 0 0 m [x]) (r o)) :
    ∀ (d i : Nat) (o : List Int), o.length ≤ 1 + i → i + d = vs.length → Ev (fun k => aT.l1 k o vs vs.length i 6 0 0 m [x] v0 ws) (r (o ++ (vs.drop i).map (fun y => y.f0))) := by
  intro d
  induction d with
  | zero =>
    intro i o ho hi
    obtain ⟨K, e⟩ := fin o (by omega)
    refine ⟨K + 1, fun k hk => ?_⟩
    obtain ⟨k, rfl⟩ : ∃ j, k = j + 1 := ⟨k - 1, by omega⟩
    have e' := e k (by omega)
    dsimp only at e'
    simp only [aT.l1]
    rw [if_neg (by omega), e', List.drop_eq_nil_of_le (by omega)]; simp
  | succ d IH =>
    intro i o ho hi
    have hlt : i < vs.length := by omega
    obtain ⟨K3, e3⟩ := E5 (t := x) (v := vs[i]) (by omega) (by omega)
    obtain ⟨K2, e2⟩ := IH (i + 1) (o ++ [vs[i].f0]) (by rw [List.length_append, List.length_singleton]; omega) (by omega)
    refine ⟨max K2 K3 + 1, fun k hk => ?_⟩
    obtain ⟨k, rfl⟩ : ∃ j, k = j + 1 := ⟨k - 1, by omega⟩
    have e2' := e2 k (by omega)
    have e3' := e3 k (by omega)
    dsimp only [at2] at e2' e3'
    simp only [aT.l1]
    rw [if_pos (by omega), if_pos (by omega), if_pos (by omega), if_pos (by simp), rd1, rdV hlt, e3', Option.bind_some, if_pos (by rw [List.length_singleton]; omega), kT (by omega), e2', List.append_assoc, List.drop_eq_getElem_cons hlt]
    rfl
theorem Te (n : Nat) : ∀ {t : S27} {v : S31} {m : Nat}, n ≤ 10 → Vt n t → Bv m v → n ≤ m → chk n t v = 0 → Ev (at2 aT.f t v) (cel n t v) := by
  induction n with
  | zero => intro t v m _ h; cases h
  | succ n ih =>
    intro t v m hn h hb hm hc
    obtain ⟨m, rfl⟩ : ∃ e, m = e + 1 := ⟨m - 1, by omega⟩
    cases h with
    | bool => simp only [cel]; exact E5 (by decide) (by decide)
    | int _ lo hi h1 h2 h3 => simp only [cel]; exact E5 (by simp) (by simp)
    | nat => simp only [cel]; exact E5 (by decide) (by decide)
    | real => simp only [cel]; exact E5 (by decide) (by decide)
    | tup _ l h1 h2 h3 h4 =>
      obtain ⟨_, hl, ha⟩ := Qw hc
      have hp := pow5 (show n ≤ 9 by omega)
      obtain ⟨K, e⟩ := flat_l0 n l v.f1 hl.symm h2 (5 ^ n) (by omega) (fun i hi hi' => ⟨ih (by omega) (h3 _ (List.getElem_mem hi)) (Vv.bd1 (n := n) hb i hi') (by omega) (ha i hi hi'), by
        rw [Wd n (h3 _ (List.getElem_mem hi)) (ha i hi hi')]; exact (J8 n (h3 _ (List.getElem_mem hi))).1⟩) v.f1.length 0 [] (by simp) (by omega)
      rw [show cel (n + 1) ⟨5, 0, 0, 0, l⟩ v = zq (cel n) l v.f1 from by simp [cel]]
      refine ⟨K + 1, fun k hk => ?_⟩
      obtain ⟨k, rfl⟩ : ∃ j, k = j + 1 := ⟨k - 1, by omega⟩
      have e' := e k (by omega)
      simp only [at2, aT.f]
      simpa using e'
    | lst _ mm x h1 h2 h3 h4 =>
      obtain ⟨_, hl, ha⟩ := Qx hc
      have hN : wrap64 (mm - (v.f1.length : Int)) = ((mm.toNat - v.f1.length : Nat) : Int) := by unfold wrap64; omega
      have fin : ∀ o : List Int, o.length ≤ 100 → Ev (fun k => aT.l2 k o (wrap64 (mm - (v.f1.length : Int))) 0 6 0 0 mm [x]) (o ++ List.replicate (mm.toNat - v.f1.length) (zr x)) := by
        intro o ho
        rw [hN]
        exact flat_l2 n x mm h3 h4 (mm.toNat - v.f1.length) (by omega) _ 0 o (by omega) (by omega)
      obtain ⟨K, e⟩ := flat_l1 n x mm v.f0 v.f1 v.f1 h4 (by omega) _ fin v.f1.length 0 [(v.f1.length : Int)] (by simp) (by omega)
      refine ⟨K + 1, fun k hk => ?_⟩
      obtain ⟨k, rfl⟩ : ∃ j, k = j + 1 := ⟨k - 1, by omega⟩
      have e' := e k (by omega)
      simp only [at2, aT.f, cel]
      simpa [rd1] using e'
theorem eq_l0 (l m : List Int) (hl : l.length = m.length) (hb : l.length ≤ 1000000000) : ∀ (d i : Nat), i + d = l.length → Ev (fun k => bR.l0 k l m l.length i) (decide (l.drop i = m.drop i)) := by
  intro d
  induction d with
  | zero =>
    intro i hi
    refine ⟨1, fun k hk => ?_⟩
    obtain ⟨k, rfl⟩ : ∃ j, k = j + 1 := ⟨k - 1, by omega⟩
    simp only [bR.l0]
    rw [if_neg (by omega), List.drop_eq_nil_of_le (show l.length ≤ i by omega), List.drop_eq_nil_of_le (show m.length ≤ i by omega)]; simp
  | succ d IH =>
    intro i hi
    have hlt : i < l.length := by omega
    have hlt' : i < m.length := by omega
    obtain ⟨K2, e2⟩ := IH (i + 1) (by omega)
    refine ⟨K2 + 1, fun k hk => ?_⟩
    obtain ⟨k, rfl⟩ : ∃ j, k = j + 1 := ⟨k - 1, by omega⟩
    have e2' := e2 k (by omega)
    dsimp only at e2'
    have r1 : rd l (i : Int) = l[i] := by simp [rd, List.getD, hlt]
    have r2 : rd m (i : Int) = m[i] := by simp [rd, List.getD, hlt']
    have hiff : (l.drop i = m.drop i) ↔ (l[i] = m[i] ∧ l.drop (i + 1) = m.drop (i + 1)) := by
      rw [List.drop_eq_getElem_cons hlt, List.drop_eq_getElem_cons hlt', List.cons.injEq]
    simp only [bR.l0]
    rw [if_pos (by omega), if_pos (by omega), if_pos (by omega), if_pos (by omega), r1, r2, kT (by omega), e2']
    by_cases c : l[i] = m[i]
    · rw [if_pos c]; congr 1; rw [decide_eq_decide, hiff]; simp [c]
    · rw [if_neg c, decide_eq_false (fun h => c (hiff.1 h).1)]
theorem equal_ev (l m : List Int) (hb : l.length ≤ 1000000000) : Ev (fun k => bR.f k l m) (decide (l = m)) := by
  unfold bR.f
  by_cases hl : l.length = m.length
  · simp only [if_pos (show (l.length : Int) = (m.length : Int) by omega)]
    simpa using eq_l0 l m hl hb l.length 0 (by omega)
  · simp only [if_neg (show ¬ (l.length : Int) = (m.length : Int) by omega)]
    rw [decide_eq_false (fun h => hl (by rw [h]))]
    exact Ev.now _
end Go.Proofs.Ytggelekooacmnaa.Pure
