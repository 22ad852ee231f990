/- Lemmas for: rf -/
import Derived.Lib.ItoaLen
import Derived.Lib.Join
import Derived.Lib.Strings
import Derived.Laws.BitsAllLaws
import Derived.Test.YtggelekooacmnaaDoorVr2
import Derived.Test.YtggelekooacmnaaDoorVr3
import Derived.Test.YtggelekooacmnaaDoorVr5
set_option linter.unusedVariables false
set_option linter.unusedSimpArgs false
namespace Go.Proofs.YtggelekooacmnaaDoor.Pure
open Go.RowKit Go.Proofs.YtggelekooacmnaaDoor.Q Go.Proofs.YtggelekooacmnaaDoorW.aQ Go.Proofs.YtggelekooacmnaaDoorW.bH Go.Proofs.YtggelekooacmnaaDoorW.bL
-- flatten, read, IP
theorem Vv.bd1 {n m : Nat} {v : S51} (hb : Bv (m + 1) v) (i : Nat) (h : i < v.f1.length) : Bv m v.f1[i] := hb.2 _ (List.getElem_mem h)
theorem flat_l0 (n : Nat) (ts : List S24) (vs : List S51) (hl : ts.length = vs.length) (h4 : ts.length ≤ 4) (B : Nat) (hB : B ≤ 10000000) (ih : ∀ (i : Nat) (h : i < ts.length) (h' : i < vs.length), Ev (at2 aV.f ts[i] vs[i]) (cel n ts[i] vs[i]) ∧ (cel n ts[i] vs[i]).length ≤ B) :
    ∀ (d i : Nat) (o : List Int), o.length ≤ i * B → i + d = vs.length → Ev (fun k => aV.l0 k o vs vs.length i 5 0 0 0 ts) (o ++ pU (cel n) (ts.drop i) (vs.drop i)) := by
  intro d
  induction d with
  | zero =>
    intro i o ho hi
    refine ⟨1, fun k hk => ?_⟩
    obtain ⟨k, rfl⟩ : ∃ j, k = j + 1 := ⟨k - 1, by omega⟩
    simp only [aV.l0]
    rw [if_neg (by omega), List.drop_eq_nil_of_le (show vs.length ≤ i by omega), List.drop_eq_nil_of_le (show ts.length ≤ i by omega)]; simp [pU]
  | succ d IH =>
    intro i o ho hi
    have hlt : i < vs.length := by omega
    have hlt' : i < ts.length := by omega
    obtain ⟨⟨K1, e1⟩, hb⟩ := ih i hlt' hlt
    have hm : (o ++ cel n ts[i] vs[i]).length ≤ (i + 1) * B := by rw [List.length_append, Nat.add_mul]; omega
    have hm2 : (i + 1) * B ≤ 4 * B := Nat.mul_le_mul_right _ (by omega)
    obtain ⟨K2, e2⟩ := IH (i + 1) (o ++ cel n ts[i] vs[i]) hm (by omega)
    refine ⟨max K1 K2 + 1, fun k hk => ?_⟩
    obtain ⟨k, rfl⟩ : ∃ j, k = j + 1 := ⟨k - 1, by omega⟩
    have e1' := e1 k (by omega)
    have e2' := e2 k (by omega)
    dsimp only [at2] at e1' e2'
    rw [List.length_append] at hm
    simp only [aV.l0]
    rw [if_pos (by omega), if_pos (by omega), if_pos (by omega), if_pos (by omega), rdT hlt', rdV hlt, e1', Option.bind_some, if_pos (by omega), iw (by omega), e2', List.append_assoc, List.drop_eq_getElem_cons hlt, List.drop_eq_getElem_cons hlt']
    rfl
theorem ym {t : S24} {v : S51} (h5 : t.f0 ≠ 5) (h6 : t.f0 ≠ 6) : Ev (at2 aV.f t v) [v.f0] := by
  refine ⟨1, fun k hk => ?_⟩
  obtain ⟨k, rfl⟩ : ∃ j, k = j + 1 := ⟨k - 1, by omega⟩
  simp only [at2, aV.f, if_neg h5, if_neg h6]
theorem flat_l2 (n : Nat) (x : S24) (m : Int) (hx : Vt n x) (hs : x.f0 = 1 ∨ x.f0 = 2) (N : Nat) (hN : N ≤ 4) :
    ∀ (d i : Nat) (o : List Int), o.length ≤ 100 + i → i + d = N → Ev (fun k => aV.l2 k o N i 6 0 0 m [x]) (o ++ List.replicate d (zr x)) := by
  intro d
  induction d with
  | zero =>
    intro i o ho hi
    refine ⟨1, fun k hk => ?_⟩
    obtain ⟨k, rfl⟩ : ∃ j, k = j + 1 := ⟨k - 1, by omega⟩
    simp only [aV.l2]
    rw [if_neg (by omega)]; simp
  | succ d IH =>
    intro i o ho hi
    obtain ⟨K1, e1⟩ := UO n hx
    have hz : (zv n x).f0 = zr x := by
      cases hx with
      | bool => simp [zv, zr]
      | int _ lo hi h1 h2 h3 => simp [zv]
      | _ => simp at hs
    obtain ⟨K3, e3⟩ := ym (t := x) (v := zv n x) (by omega) (by omega)
    obtain ⟨K2, e2⟩ := IH (i + 1) (o ++ [zr x]) (by rw [List.length_append, List.length_singleton]; omega) (by omega)
    refine ⟨max K1 (max K2 K3) + 1, fun k hk => ?_⟩
    obtain ⟨k, rfl⟩ : ∃ j, k = j + 1 := ⟨k - 1, by omega⟩
    have e1' := e1 k (by omega)
    have e2' := e2 k (by omega)
    have e3' := e3 k (by omega)
    unfold at_ at e1'
    dsimp only [at2] at e1' e2' e3'
    simp only [aV.l2]
    rw [if_pos (by omega), if_pos (by simp), rd1, e1', Option.bind_some, e3', Option.bind_some, if_pos (by rw [List.length_singleton]; omega), iw (by omega), hz, e2', List.append_assoc]
    rfl
theorem flat_l1 (n : Nat) (x : S24) (m v0 : Int) (vs ws : List S51) (hs : x.f0 = 1 ∨ x.f0 = 2) (h4 : vs.length ≤ 4) (r : List Int → List Int)
    (fin : ∀ o : List Int, o.length ≤ 100 → Ev (fun k => aV.l2 k o (wrap64 (m - (ws.length : Int))) 0 6 0 0 m [x]) (r o)) :
    ∀ (d i : Nat) (o : List Int), o.length ≤ 1 + i → i + d = vs.length → Ev (fun k => aV.l1 k o vs vs.length i 6 0 0 m [x] v0 ws) (r (o ++ (vs.drop i).map (fun y => y.f0))) := by
  intro d
  induction d with
  | zero =>
    intro i o ho hi
    obtain ⟨K, e⟩ := fin o (by omega)
    refine ⟨K + 1, fun k hk => ?_⟩
    obtain ⟨k, rfl⟩ : ∃ j, k = j + 1 := ⟨k - 1, by omega⟩
    have e' := e k (by omega)
    dsimp only at e'
    simp only [aV.l1]
    rw [if_neg (by omega), e', List.drop_eq_nil_of_le (by omega)]; simp
  | succ d IH =>
    intro i o ho hi
    have hlt : i < vs.length := by omega
    obtain ⟨K3, e3⟩ := ym (t := x) (v := vs[i]) (by omega) (by omega)
    obtain ⟨K2, e2⟩ := IH (i + 1) (o ++ [vs[i].f0]) (by rw [List.length_append, List.length_singleton]; omega) (by omega)
    refine ⟨max K2 K3 + 1, fun k hk => ?_⟩
    obtain ⟨k, rfl⟩ : ∃ j, k = j + 1 := ⟨k - 1, by omega⟩
    have e2' := e2 k (by omega)
    have e3' := e3 k (by omega)
    dsimp only [at2] at e2' e3'
    simp only [aV.l1]
    rw [if_pos (by omega), if_pos (by omega), if_pos (by omega), if_pos (by simp), rd1, rdV hlt, e3', Option.bind_some, if_pos (by rw [List.length_singleton]; omega), iw (by omega), e2', List.append_assoc, List.drop_eq_getElem_cons hlt]
    rfl
theorem H5 (n : Nat) : ∀ {t : S24} {v : S51} {m : Nat}, n ≤ 10 → Vt n t → Bv m v → n ≤ m → chk n t v = 0 → Ev (at2 aV.f t v) (cel n t v) := by
  induction n with
  | zero => intro t v m _ h; cases h
  | succ n ih =>
    intro t v m hn h hb hm hc
    obtain ⟨m, rfl⟩ : ∃ e, m = e + 1 := ⟨m - 1, by omega⟩
    cases h with
    | bool => simp only [cel]; exact ym (by decide) (by decide)
    | int _ lo hi h1 h2 h3 => simp only [cel]; exact ym (by simp) (by simp)
    | nat => simp only [cel]; exact ym (by decide) (by decide)
    | real => simp only [cel]; exact ym (by decide) (by decide)
    | tup _ l h1 h2 h3 h4 =>
      obtain ⟨_, hl, ha⟩ := wG hc
      have hp := pow5 (show n ≤ 9 by omega)
      obtain ⟨K, e⟩ := flat_l0 n l v.f1 hl.symm h2 (5 ^ n) (by omega) (fun i hi hi' => ⟨ih (by omega) (h3 _ (List.getElem_mem hi)) (Vv.bd1 (n := n) hb i hi') (by omega) (ha i hi hi'), by
        rw [uJ n (h3 _ (List.getElem_mem hi)) (ha i hi hi')]; exact (BZ n (h3 _ (List.getElem_mem hi))).1⟩) v.f1.length 0 [] (by simp) (by omega)
      rw [show cel (n + 1) ⟨5, 0, 0, 0, l⟩ v = pU (cel n) l v.f1 from by simp [cel]]
      refine ⟨K + 1, fun k hk => ?_⟩
      obtain ⟨k, rfl⟩ : ∃ j, k = j + 1 := ⟨k - 1, by omega⟩
      have e' := e k (by omega)
      simp only [at2, aV.f]
      simpa using e'
    | lst _ mm x h1 h2 h3 h4 =>
      obtain ⟨_, hl, ha⟩ := wH hc
      have hN : wrap64 (mm - (v.f1.length : Int)) = ((mm.toNat - v.f1.length : Nat) : Int) := by unfold wrap64; omega
      have fin : ∀ o : List Int, o.length ≤ 100 → Ev (fun k => aV.l2 k o (wrap64 (mm - (v.f1.length : Int))) 0 6 0 0 mm [x]) (o ++ List.replicate (mm.toNat - v.f1.length) (zr x)) := by
        intro o ho
        rw [hN]
        exact flat_l2 n x mm h3 h4 (mm.toNat - v.f1.length) (by omega) _ 0 o (by omega) (by omega)
      obtain ⟨K, e⟩ := flat_l1 n x mm v.f0 v.f1 v.f1 h4 (by omega) _ fin v.f1.length 0 [(v.f1.length : Int)] (by simp) (by omega)
      refine ⟨K + 1, fun k hk => ?_⟩
      obtain ⟨k, rfl⟩ : ∃ j, k = j + 1 := ⟨k - 1, by omega⟩
      have e' := e k (by omega)
      simp only [at2, aV.f, cel]
      simpa [rd1] using e'
theorem eq_l0 (l m : List Int) (hl : l.length = m.length) (hb : l.length ≤ 1000000000) : ∀ (d i : Nat), i + d = l.length → Ev (fun k => cK.l0 k l m l.length i) (decide (l.drop i = m.drop i)) := by
  intro d
  induction d with
  | zero =>
    intro i hi
    refine ⟨1, fun k hk => ?_⟩
    obtain ⟨k, rfl⟩ : ∃ j, k = j + 1 := ⟨k - 1, by omega⟩
    simp only [cK.l0]
    rw [if_neg (by omega), List.drop_eq_nil_of_le (show l.length ≤ i by omega), List.drop_eq_nil_of_le (show m.length ≤ i by omega)]; simp
  | succ d IH =>
    intro i hi
    have hlt : i < l.length := by omega
    have hlt' : i < m.length := by omega
    obtain ⟨K2, e2⟩ := IH (i + 1) (by omega)
    refine ⟨K2 + 1, fun k hk => ?_⟩
    obtain ⟨k, rfl⟩ : ∃ j, k = j + 1 := ⟨k - 1, by omega⟩
    have e2' := e2 k (by omega)
    dsimp only at e2'
    have r1 : rd l (i : Int) = l[i] := by simp [rd, List.getD, hlt]
    have r2 : rd m (i : Int) = m[i] := by simp [rd, List.getD, hlt']
    have hiff : (l.drop i = m.drop i) ↔ (l[i] = m[i] ∧ l.drop (i + 1) = m.drop (i + 1)) := by
      rw [List.drop_eq_getElem_cons hlt, List.drop_eq_getElem_cons hlt', List.cons.injEq]
    simp only [cK.l0]
    rw [if_pos (by omega), if_pos (by omega), if_pos (by omega), if_pos (by omega), r1, r2, iw (by omega), e2']
    by_cases c : l[i] = m[i]
    · rw [if_pos c]; congr 1; rw [decide_eq_decide, hiff]; simp [c]
    · rw [if_neg c, decide_eq_false (fun h => c (hiff.1 h).1)]
theorem QN (l m : List Int) (hb : l.length ≤ 1000000000) : Ev (fun k => cK.f k l m) (decide (l = m)) := by
  unfold cK.f
  by_cases hl : l.length = m.length
  · simp only [if_pos (show (l.length : Int) = (m.length : Int) by omega)]
    simpa using eq_l0 l m hl hb l.length 0 (by omega)
  · simp only [if_neg (show ¬ (l.length : Int) = (m.length : Int) by omega)]
    rw [decide_eq_false (fun h => hl (by rw [h]))]
    exact Ev.now _
theorem same_l0 (l m : List Int) (hl : l.length = m.length) (hb : l.length ≤ 1000000000) : ∀ (d i : Nat), i + d = l.length → Ev (fun k => bQ.l0 k l m i) (decide (l.drop i = m.drop i)) := by
  intro d
  induction d with
  | zero =>
    intro i hi
    refine ⟨1, fun k hk => ?_⟩
    obtain ⟨k, rfl⟩ : ∃ j, k = j + 1 := ⟨k - 1, by omega⟩
    simp only [bQ.l0]
    rw [if_neg (by omega), List.drop_eq_nil_of_le (show l.length ≤ i by omega), List.drop_eq_nil_of_le (show m.length ≤ i by omega)]; simp
  | succ d IH =>
    intro i hi
    have hlt : i < l.length := by omega
    have hlt' : i < m.length := by omega
    obtain ⟨K2, e2⟩ := IH (i + 1) (by omega)
    refine ⟨K2 + 1, fun k hk => ?_⟩
    obtain ⟨k, rfl⟩ : ∃ j, k = j + 1 := ⟨k - 1, by omega⟩
    have e2' := e2 k (by omega)
    dsimp only at e2'
    have r1 : rd l (i : Int) = l[i] := by simp [rd, List.getD, hlt]
    have r2 : rd m (i : Int) = m[i] := by simp [rd, List.getD, hlt']
    have hiff : (l.drop i = m.drop i) ↔ (l[i] = m[i] ∧ l.drop (i + 1) = m.drop (i + 1)) := by
      rw [List.drop_eq_getElem_cons hlt, List.drop_eq_getElem_cons hlt', List.cons.injEq]
    simp only [bQ.l0]
    rw [if_pos (by omega), if_pos (by omega), if_pos (by omega), r1, r2, iw (by omega), e2']
    by_cases c : l[i] = m[i]
    · rw [if_pos c]; congr 1; rw [decide_eq_decide, hiff]; simp [c]
    · rw [if_neg c, decide_eq_false (fun h => c (hiff.1 h).1)]
theorem D9 (l m : List Int) (hb : l.length ≤ 1000000000) : Ev (fun k => bQ.f k l m) (decide (l = m)) := by
  unfold bQ.f
  by_cases hl : l.length = m.length
  · simp only [if_pos (show (l.length : Int) = (m.length : Int) by omega)]
    simpa using same_l0 l m hl hb l.length 0 (by omega)
  · simp only [if_neg (show ¬ (l.length : Int) = (m.length : Int) by omega)]
    rw [decide_eq_false (fun h => hl (by rw [h]))]
    exact Ev.now _

end Go.Proofs.YtggelekooacmnaaDoor.Pure
set_option linter.unusedVariables false
set_option linter.unusedSimpArgs false
namespace Go.Proofs.YtggelekooacmnaaDoor.Pure
open Go.RowKit Go.Proofs.YtggelekooacmnaaDoor.Q Go.Proofs.YtggelekooacmnaaDoorW.aQ Go.Proofs.YtggelekooacmnaaDoorW.bH Go.Proofs.YtggelekooacmnaaDoorW.bL
-- read, IP on the cells of a value
theorem Pf {t : S24} (h5 : t.f0 ≠ 5) (h6 : t.f0 ≠ 6) (c : Int) (rest : List Int) : Ev (fun k => bM.f k t.f0 t.f1 t.f2 t.f3 t.f4 (c :: rest)) (c, [], rest, true) := by
  refine ⟨1, fun k hk => ?_⟩
  obtain ⟨k, rfl⟩ : ∃ j, k = j + 1 := ⟨k - 1, by omega⟩
  simp only [bM.f, if_neg h5, if_neg h6]
  rw [if_neg (by simp; omega), if_pos (by simp), if_pos (by simp; omega)]
  simp [rd]
theorem read_l0t (n : Nat) (ts : List S24) (vs : List S51) (hl : ts.length = vs.length) (h4 : ts.length ≤ 4) (rest : List Int)
    (ih : ∀ (i : Nat) (h : i < ts.length) (h' : i < vs.length) (r : List Int), (cel n ts[i] vs[i]).length + r.length ≤ 100000000 → Ev (fun k => bM.f k (ts[i]).f0 (ts[i]).f1 (ts[i]).f2 (ts[i]).f3 (ts[i]).f4 (cel n ts[i] vs[i] ++ r)) ((vs[i]).f0, (vs[i]).f1, r, true)) :
    ∀ (d i : Nat) (o : List S51), o.length ≤ i → i + d = vs.length → (pU (cel n) (ts.drop i) (vs.drop i)).length + rest.length ≤ 100000000 → Ev (fun k => bM.l0 k (pU (cel n) (ts.drop i) (vs.drop i) ++ rest) ts.length ts.length i 5 0 0 0 ts 0 o) (0, o ++ vs.drop i, rest, true) := by
  intro d
  induction d with
  | zero =>
    intro i o ho hi hq
    refine ⟨1, fun k hk => ?_⟩
    obtain ⟨k, rfl⟩ : ∃ j, k = j + 1 := ⟨k - 1, by omega⟩
    simp only [bM.l0]
    rw [if_neg (by omega), if_neg (by decide), List.drop_eq_nil_of_le (show vs.length ≤ i by omega), List.drop_eq_nil_of_le (show ts.length ≤ i by omega)]; simp [pU]
  | succ d IH =>
    intro i o ho hi hq
    have hlt : i < vs.length := by omega
    have hlt' : i < ts.length := by omega
    rw [List.drop_eq_getElem_cons hlt, List.drop_eq_getElem_cons hlt', pU, List.length_append] at hq
    obtain ⟨K1, e1⟩ := ih i hlt' hlt (pU (cel n) (ts.drop (i + 1)) (vs.drop (i + 1)) ++ rest) (by rw [List.length_append]; omega)
    obtain ⟨K2, e2⟩ := IH (i + 1) (o ++ [vs[i]]) (by rw [List.length_append, List.length_singleton]; omega) (by omega) (by omega)
    refine ⟨max K1 K2 + 1, fun k hk => ?_⟩
    obtain ⟨k, rfl⟩ : ∃ j, k = j + 1 := ⟨k - 1, by omega⟩
    have e1' := e1 k (by omega)
    have e2' := e2 k (by omega)
    dsimp only at e1' e2'
    have ec : pU (cel n) (ts.drop i) (vs.drop i) ++ rest = cel n ts[i] vs[i] ++ (pU (cel n) (ts.drop (i + 1)) (vs.drop (i + 1)) ++ rest) := by
      rw [List.drop_eq_getElem_cons hlt, List.drop_eq_getElem_cons hlt', pU, List.append_assoc]
    simp only [bM.l0]
    rw [if_pos (by omega), D7 hlt', Option.bind_some, ec, e1', Option.bind_some]
    dsimp only
    rw [if_pos rfl, if_pos (by omega), iw (by omega), etaV, e2', List.append_assoc, List.drop_eq_getElem_cons hlt]
    rfl
theorem read_l0l (n : Nat) (x : S24) (m : Int) (hs : x.f0 = 1 ∨ x.f0 = 2) (vs : List S51) (hv : ∀ v ∈ vs, v.f1 = []) (h4 : vs.length ≤ 4) (hm : (vs.length : Int) ≤ m) (hm2 : m ≤ 4) (tail : List Int) (ht : m.toNat - vs.length ≤ tail.length) (hb : tail.length ≤ 1000000000) :
    ∀ (d i : Nat) (o : List S51), o.length ≤ i → i + d = vs.length → Ev (fun k => bM.l0 k ((vs.drop i).map (fun y => y.f0) ++ tail) vs.length vs.length i 6 0 0 m [x] 0 o) (0, o ++ vs.drop i, tail.drop (m.toNat - vs.length), true) := by
  intro d
  induction d with
  | zero =>
    intro i o ho hi
    refine ⟨1, fun k hk => ?_⟩
    obtain ⟨k, rfl⟩ : ∃ j, k = j + 1 := ⟨k - 1, by omega⟩
    have hw : wrap64 (m - (vs.length : Int)) = ((m.toNat - vs.length : Nat) : Int) := by unfold wrap64; omega
    simp only [bM.l0]
    rw [if_neg (by omega), if_pos trivial, List.drop_eq_nil_of_le (show vs.length ≤ i by omega), hw]
    simp only [List.map_nil, List.nil_append, List.append_nil]
    rw [if_neg (by omega), if_pos (by omega), if_pos (by omega)]
    simp
  | succ d IH =>
    intro i o ho hi
    have hlt : i < vs.length := by omega
    obtain ⟨K1, e1⟩ := Pf (t := x) (by omega) (by omega) vs[i].f0 ((vs.drop (i + 1)).map (fun y => y.f0) ++ tail)
    obtain ⟨K2, e2⟩ := IH (i + 1) (o ++ [vs[i]]) (by rw [List.length_append, List.length_singleton]; omega) (by omega)
    refine ⟨max K1 K2 + 1, fun k hk => ?_⟩
    obtain ⟨k, rfl⟩ : ∃ j, k = j + 1 := ⟨k - 1, by omega⟩
    have e1' := e1 k (by omega)
    have e2' := e2 k (by omega)
    dsimp only at e1' e2'
    have ec : (vs.drop i).map (fun y => y.f0) ++ tail = vs[i].f0 :: ((vs.drop (i + 1)).map (fun y => y.f0) ++ tail) := by
      rw [List.drop_eq_getElem_cons hlt]; rfl
    have hv' : (⟨vs[i].f0, []⟩ : S51) = vs[i] := by
      have := hv vs[i] (List.getElem_mem hlt)
      rw [← this, etaV]
    simp only [bM.l0]
    rw [if_pos (by omega), D8, Option.bind_some, ec, e1', Option.bind_some]
    dsimp only
    rw [if_pos rfl, if_pos (by omega), iw (by omega), hv', e2', List.append_assoc, List.drop_eq_getElem_cons hlt]
    rfl
theorem read_ev (n : Nat) : ∀ {t : S24} {v : S51}, n ≤ 10 → Vt n t → chk n t v = 0 → ∀ rest : List Int, (cel n t v).length + rest.length ≤ 100000000 → Ev (fun k => bM.f k t.f0 t.f1 t.f2 t.f3 t.f4 (cel n t v ++ rest)) (v.f0, v.f1, rest, true) := by
  induction n with
  | zero => intro t v _ h; cases h
  | succ n ih =>
    intro t v hn h hc rest hrest
    have hlen := uJ (n + 1) h hc
    have hpos := (BZ (n + 1) h).2
    have leaf : t.f0 ≠ 5 → t.f0 ≠ 6 → Ev (fun k => bM.f k t.f0 t.f1 t.f2 t.f3 t.f4 (cel (n + 1) t v ++ rest)) (v.f0, v.f1, rest, true) := by
      intro h5 h6
      rw [show cel (n + 1) t v = [v.f0] from by simp [cel, h5, h6], (uk h5 h6 hc).1]
      exact Pf h5 h6 v.f0 rest
    cases h with
    | bool => exact leaf (by decide) (by decide)
    | int _ lo hi h1 h2 h3 => exact leaf (by simp) (by simp)
    | nat => exact leaf (by decide) (by decide)
    | real => exact leaf (by decide) (by decide)
    | tup _ l h1 h2 h3 h4 =>
      obtain ⟨hz, hl, ha⟩ := wG hc
      have ec : cel (n + 1) ⟨5, 0, 0, 0, l⟩ v = pU (cel n) l v.f1 := by simp [cel]
      rw [ec] at hlen hrest ⊢
      have hb : ∀ (i : Nat) (h : i < l.length) (h' : i < v.f1.length) (r : List Int), (cel n l[i] v.f1[i]).length + r.length ≤ 100000000 → Ev (fun k => bM.f k (l[i]).f0 (l[i]).f1 (l[i]).f2 (l[i]).f3 (l[i]).f4 (cel n l[i] v.f1[i] ++ r)) ((v.f1[i]).f0, (v.f1[i]).f1, r, true) := fun i h h' r hr => ih (by omega) (h3 _ (List.getElem_mem h)) (ha i h h') r hr
      obtain ⟨K, e⟩ := read_l0t n l v.f1 hl.symm h2 rest hb v.f1.length 0 [] (by simp) (by omega) (by simpa using hrest)
      refine ⟨K + 2, fun k hk => ?_⟩
      obtain ⟨k, rfl⟩ : ∃ j, k = j + 2 := ⟨k - 2, by omega⟩
      have e' := e k (by omega)
      simp only [bM.f]
      rw [if_neg (by rw [List.length_append]; omega), if_pos trivial]
      simp only [bM.j0]
      rw [hz]
      simpa using e'
    | lst _ m x h1 h2 h3 h4 =>
      obtain ⟨hz, hl, ha⟩ := wH hc
      have ec : cel (n + 1) ⟨6, 0, 0, m, [x]⟩ v = (v.f1.length : Int) :: (v.f1.map (fun x => x.f0) ++ List.replicate (m.toNat - v.f1.length) (zr x)) := by simp [cel, rd1]
      rw [ec] at hlen hrest ⊢
      have hv : ∀ y ∈ v.f1, y.f1 = [] := by
        intro y hy
        have hq := ha y hy
        cases n with
        | zero => cases h3
        | succ n => exact (uk (by omega) (by omega) hq).1
      simp only [List.length_cons, List.length_append, List.length_map, List.length_replicate] at hrest
      obtain ⟨K, e⟩ := read_l0l n x m h4 v.f1 hv (by omega) hl h2 (List.replicate (m.toNat - v.f1.length) (zr x) ++ rest) (by simp) (by simp; omega) v.f1.length 0 [] (by simp) (by omega)
      refine ⟨K + 2, fun k hk => ?_⟩
      obtain ⟨k, rfl⟩ : ∃ j, k = j + 2 := ⟨k - 2, by omega⟩
      have e' := e k (by omega)
      have hr0 : rd ((v.f1.length : Int) :: (v.f1.map (fun x => x.f0) ++ List.replicate (m.toNat - v.f1.length) (zr x)) ++ rest) 0 = v.f1.length := by simp [rd]
      simp only [bM.f]
      rw [if_neg (by simp; omega), if_neg (by decide), if_pos trivial, if_pos (by simp; omega), hr0, if_neg (by omega), if_neg (by omega), if_pos (by simp; omega)]
      simp only [bM.j0]
      rw [hz]
      simpa using e'
theorem BM {t : S24} (hv : Vt 10 t) (hl : (prt 10 t).length ≤ 24) (h4 : t.f0 ≠ 4) : Ev (at_ eU.f t) 0 ∧ Ev (at_ ek.f t) 0 := by
  obtain ⟨⟨K1, e1⟩, ⟨K2, e2⟩⟩ := Q6 hv hl
  unfold at_ at e1 e2
  refine ⟨⟨K1, fun k hk => ?_⟩, ⟨K2, fun k hk => ?_⟩⟩
  · simp only [at_, eU.f]
    rw [e1 k hk, Option.bind_some, if_pos rfl, if_neg h4]
  · simp only [at_, ek.f]
    rw [e2 k hk, Option.bind_some, if_pos rfl, if_neg h4]
theorem KW {t : S24} {v : S51} {m : Nat} (hv : Vt 10 t) (hl : (prt 10 t).length ≤ 24) (h4 : t.f0 ≠ 4) (hb : Bv m v) (hm : 10 ≤ m) : Ev (at2 ik.f t v) (chk 10 t v) ∧ Ev (at2 dN.f t v) (chk 10 t v) := by
  obtain ⟨⟨K1, e1⟩, ⟨K2, e2⟩⟩ := BM hv hl h4
  obtain ⟨K3, e3⟩ := KV 10 hv h4 hb hm
  obtain ⟨K4, e4⟩ := IM 10 hv h4 hb hm
  unfold at_ at e1 e2
  dsimp only [at2] at e3 e4
  refine ⟨⟨K1 + K3, fun k hk => ?_⟩, ⟨K2 + K4, fun k hk => ?_⟩⟩
  · simp only [at2, ik.f]
    rw [e1 k (by omega), Option.bind_some, if_pos rfl, e3 k (by omega), Option.bind_some]
  · simp only [at2, dN.f]
    rw [e2 k (by omega), Option.bind_some, if_pos rfl, e4 k (by omega), Option.bind_some]
theorem H6 {t : S24} {v : S51} {m : Nat} (hv : Vt 10 t) (hl : (prt 10 t).length ≤ 24) (h4 : t.f0 ≠ 4) (hb : Bv m v) (hm : 10 ≤ m) (hc : chk 10 t v = 0) : Ev (at2 eO.f t v) (cel 10 t v, 0) := by
  obtain ⟨⟨K1, e1⟩, _⟩ := KW hv hl h4 hb hm
  obtain ⟨K2, e2⟩ := H5 10 (by omega) hv hb hm hc
  dsimp only [at2] at e1 e2
  refine ⟨K1 + K2, fun k hk => ?_⟩
  simp only [at2, eO.f]
  rw [e1 k (by omega), Option.bind_some, if_pos hc, e2 k (by omega), Option.bind_some]
theorem QO {t : S24} {v : S51} {m : Nat} (hv : Vt 10 t) (hl : (prt 10 t).length ≤ 24) (h4 : t.f0 ≠ 4) (hb : Bv m v) (hm : 10 ≤ m) (hc : chk 10 t v = 0) :
    Ev (fun k => fq.f k t.f0 t.f1 t.f2 t.f3 t.f4 (cel 10 t v)) (v.f0, v.f1, 0) := by
  obtain ⟨⟨K1, e1⟩, _⟩ := BM hv hl h4
  have hcl := uJ 10 hv hc
  obtain ⟨K2, e2⟩ := read_ev 10 (by omega) hv hc [] (by simp; omega)
  obtain ⟨K3, e3⟩ := KV 10 hv h4 hb hm
  obtain ⟨K4, e4⟩ := H5 10 (by omega) hv hb hm hc
  obtain ⟨K5, e5⟩ := QN (cel 10 t v) (cel 10 t v) (by omega)
  unfold at_ at e1
  dsimp only [at2] at e2 e3 e4 e5
  simp only [List.append_nil, decide_true] at e2 e5
  refine ⟨K1 + K2 + K3 + K4 + K5, fun k hk => ?_⟩
  simp only [fq.f]
  rw [e1 k (by omega), Option.bind_some, if_pos rfl, e2 k (by omega), Option.bind_some, if_pos rfl]
  rw [if_pos (by simp), e3 k (by omega), Option.bind_some, if_pos hc, e4 k (by omega), Option.bind_some, e5 k (by omega), Option.bind_some, if_pos rfl]

end Go.Proofs.YtggelekooacmnaaDoor.Pure
set_option linter.unusedVariables false
set_option linter.unusedSimpArgs false
namespace Go.Proofs.YtggelekooacmnaaDoor.Pure
open Go.RowKit Go.Proofs.YtggelekooacmnaaDoor.Q Go.Proofs.YtggelekooacmnaaDoorW.aQ Go.Proofs.YtggelekooacmnaaDoorW.bH Go.Proofs.YtggelekooacmnaaDoorW.bL
-- texts of types: one text, one type
/-- texts with ', ' between them -/
def oH : List (List UInt8) → List UInt8
  | [] => []
  | [x] => x
  | x :: y :: l => x ++ 44 :: 32 :: oH (y :: l)
end Go.Proofs.YtggelekooacmnaaDoor.Pure
namespace Go.Proofs.YtggelekooacmnaaDoor.Q
open Go.RowKit Go.Proofs.YtggelekooacmnaaDoorW.aQ Go.Proofs.YtggelekooacmnaaDoorW.bH Go.Proofs.YtggelekooacmnaaDoorW.bL
attribute [local go_sem] dD dE dS dU di dm dF dG   -- for this text's walks alone
set_option linter.unusedVariables false
set_option linter.unusedSimpArgs false

/-! ### types_format: function 44 -/

/-! ### types_Format: function 21 -/
end Go.Proofs.YtggelekooacmnaaDoor.Q
set_option linter.unusedVariables false
set_option linter.unusedSimpArgs false
namespace Go.Proofs.YtggelekooacmnaaDoor.Pure
open Go.RowKit Go.Proofs.YtggelekooacmnaaDoor.Q Go.Proofs.YtggelekooacmnaaDoorW.aQ Go.Proofs.YtggelekooacmnaaDoorW.bH Go.Proofs.YtggelekooacmnaaDoorW.bL
-- what types.Format says of a valid type: its text
theorem Pg : ∀ xs : List (List UInt8), Lib.join xs [44, 32] = oH xs
  | [] => rfl
  | [x] => by rw [Lib.join_one]; rfl
  | x :: y :: l => by
    have ih := Pg (y :: l)
    rw [Lib.join_cons] at ih ⊢
    simp only [oH, Lib.joinTail, List.map_cons, List.flatten_cons] at ih ⊢
    rw [← ih]; simp
theorem ba_eq {a : ByteArray} {l : List UInt8} (h : a.data.toList = l) : a = ⟨l.toArray⟩ := by cases a; subst h; simp
theorem qg (l : List UInt8) : (⟨l.toArray⟩ : ByteArray).size = l.length := by show l.toArray.size = l.length; simp
theorem U5 {a : Int} (h0 : -1000 ≤ a) (h1 : a ≤ 1000) : (Go.Lib.itoa a).length ≤ 21 := Lib.itoa_length_le a (by omega) (by omega)
theorem H7 {c : Nat} : ∀ xs : List (List UInt8), (∀ x ∈ xs, x.length ≤ c) → (oH xs).length ≤ xs.length * (c + 2)
  | [], _ => by simp [oH]
  | [x], h => by have := h x List.mem_cons_self; simp only [oH, List.length_cons, List.length_nil]; omega
  | x :: y :: l, h => by
    have h1 := h x List.mem_cons_self
    have ih := H7 (y :: l) (fun z hz => h z (List.mem_cons_of_mem _ hz))
    simp only [oH, List.length_append, List.length_cons] at ih ⊢
    rw [Nat.add_mul]
    omega
theorem itoa_f {a : Int} (h0 : -1000 ≤ a) (h1 : a ≤ 1000) : lh.f a = some ⟨(Go.Lib.itoa a).toArray⟩ := by
  unfold lh.f; rw [if_pos (by omega)]
theorem join_f (xs : List ByteArray) (h : xs.length ≤ 1000) (hb : (oH (xs.map (·.data.toList))).length ≤ 100000000000) : strings_Join.f xs (⟨#[44, 32]⟩ : ByteArray) = some ⟨(oH (xs.map (·.data.toList))).toArray⟩ := by
  unfold strings_Join.f
  have e : (⟨#[44, 32]⟩ : ByteArray).data.toList = [44, 32] := rfl
  rw [e, Pg, if_pos (by omega)]
end Go.Proofs.YtggelekooacmnaaDoor.Pure
set_option linter.unusedVariables false
set_option linter.unusedSimpArgs false
namespace Go.Proofs.YtggelekooacmnaaDoor.Pure
open Go.RowKit Go.Proofs.YtggelekooacmnaaDoor.Q Go.Proofs.YtggelekooacmnaaDoorW.aQ Go.Proofs.YtggelekooacmnaaDoorW.bH Go.Proofs.YtggelekooacmnaaDoorW.bL
-- values: one text, one value; one list of cells, one value
/-- a value's text -/
def txV : Nat → S24 → S51 → List UInt8
  | 0, _, _ => []
  | n + 1, t, v => if t.f0 = 5 then 40 :: (oH (List.zipWith (txV n) t.f4 v.f1) ++ [41]) else if t.f0 = 6 then 91 :: (oH (v.f1.map (txV n (ag t.f4 0))) ++ [93])
    else if t.f0 = 1 then (if v.f0 = 1 then [116, 114, 117, 101] else [102, 97, 108, 115, 101]) else Go.Lib.itoa v.f0
theorem veq {v w : S51} (h0 : v.f0 = w.f0) (h1 : v.f1 = w.f1) : v = w := by cases v; cases w; simp only at h0 h1; rw [h0, h1]
-- the lexicographic order of lists of numbers
def cmpL : List Int → List Int → Int
  | [], [] => 0
  | [], _ :: _ => -1
  | _ :: _, [] => 1
  | a :: l, b :: m => if a < b then -1 else if b < a then 1 else cmpL l m
end Go.Proofs.YtggelekooacmnaaDoor.Pure
set_option linter.unusedVariables false
set_option linter.unusedSimpArgs false
namespace Go.Proofs.YtggelekooacmnaaDoor.Pure
open Go.RowKit Go.Proofs.YtggelekooacmnaaDoor.Q Go.Proofs.YtggelekooacmnaaDoorW.aQ Go.Proofs.YtggelekooacmnaaDoorW.bH Go.Proofs.YtggelekooacmnaaDoorW.bL
-- Same and Compare of values
theorem vsame_l0 (v0 w0 : Int) (vs ws : List S51) (hl : vs.length = ws.length) (hb : vs.length ≤ 1000) (f : Nat → Bool) (ih : ∀ (i : Nat) (h : i < vs.length) (h' : i < ws.length), Ev (fun k => bJ.f k vs[i].f0 vs[i].f1 ws[i].f0 ws[i].f1) (f i)) :
    ∀ (d i : Nat), i + d = vs.length → ∃ b, Ev (fun k => bJ.l0 k i v0 vs w0 ws) b ∧ (b = true ↔ ∀ j, i ≤ j → j < vs.length → f j = true) := by
  intro d
  induction d with
  | zero =>
    intro i hi
    refine ⟨true, ⟨1, fun k hk => ?_⟩, ⟨fun _ j h1 h2 => by omega, fun _ => rfl⟩⟩
    obtain ⟨k, rfl⟩ : ∃ j, k = j + 1 := ⟨k - 1, by omega⟩
    simp only [bJ.l0]
    rw [if_neg (by omega)]
  | succ d IH =>
    intro i hi
    have hlt : i < vs.length := by omega
    have hlt' : i < ws.length := by omega
    obtain ⟨K1, e1⟩ := ih i hlt hlt'
    obtain ⟨b, ⟨K2, e2⟩, hbb⟩ := IH (i + 1) (by omega)
    cases hf : f i with
    | true =>
      refine ⟨b, ⟨max K1 K2 + 1, fun k hk => ?_⟩, ⟨fun h j h1 h2 => ?_, fun h => hbb.2 fun j h1 h2 => h j (by omega) h2⟩⟩
      · obtain ⟨k, rfl⟩ : ∃ j, k = j + 1 := ⟨k - 1, by omega⟩
        have e1' := e1 k (by omega)
        have e2' := e2 k (by omega)
        dsimp only at e1' e2'
        simp only [bJ.l0]
        rw [if_pos (by omega), if_pos (by omega), if_pos (by omega), rdV hlt, rdV hlt', e1', Option.bind_some, hf, if_pos rfl, iw (by omega), e2']
      · by_cases e : j = i
        · rw [e]; exact hf
        · exact hbb.1 h j (by omega) h2
    | false =>
      refine ⟨false, ⟨K1 + 1, fun k hk => ?_⟩, ⟨fun h => (by cases h), fun h => (by rw [h i (Nat.le_refl _) hlt] at hf; cases hf)⟩⟩
      obtain ⟨k, rfl⟩ : ∃ j, k = j + 1 := ⟨k - 1, by omega⟩
      have e1' := e1 k (by omega)
      dsimp only at e1'
      simp only [bJ.l0]
      rw [if_pos (by omega), if_pos (by omega), if_pos (by omega), rdV hlt, rdV hlt', e1', Option.bind_some, hf, if_neg (by decide)]
theorem same_ev (m : Nat) : ∀ {v w : S51}, Bv m v → ∃ b, Ev (fun k => bJ.f k v.f0 v.f1 w.f0 w.f1) b ∧ (b = true ↔ v = w) := by
  induction m with
  | zero => intro v w h; exact h.elim
  | succ m ih =>
    intro v w h
    obtain ⟨v0, vs⟩ := v
    obtain ⟨w0, ws⟩ := w
    have hb : vs.length ≤ 1000 := h.1
    have off : (v0 ≠ w0 ∨ vs.length ≠ ws.length) → ∃ b, Ev (fun k => bJ.f k v0 vs w0 ws) b ∧ (b = true ↔ (⟨v0, vs⟩ : S51) = ⟨w0, ws⟩) := by
      intro hne
      refine ⟨false, ⟨2, fun k hk => ?_⟩, ⟨fun h => (by cases h), fun h => (by injection h with h1 h2; subst h1; subst h2; simp at hne)⟩⟩
      obtain ⟨k, rfl⟩ : ∃ j, k = j + 2 := ⟨k - 2, by omega⟩
      simp only [bJ.f]
      by_cases h0 : v0 = w0
      · rw [if_pos h0, show ((vs.length : Int) != (ws.length : Int)) = true from by simp; omega]
        simp only [bJ.j0, if_true]
      · rw [if_neg h0]
        simp only [bJ.j0, if_true]
    by_cases h0 : v0 = w0
    · by_cases h1 : vs.length = ws.length
      · subst h0
        have hf : ∃ f : Nat → Bool, ∀ (i : Nat) (h : i < vs.length) (h' : i < ws.length), Ev (fun k => bJ.f k vs[i].f0 vs[i].f1 ws[i].f0 ws[i].f1) (f i) ∧ (f i = true ↔ vs[i] = ws[i]) := by
          have hx : ∀ i : Nat, ∃ b : Bool, ∀ (h : i < vs.length) (h' : i < ws.length), Ev (fun k => bJ.f k vs[i].f0 vs[i].f1 ws[i].f0 ws[i].f1) b ∧ (b = true ↔ vs[i] = ws[i]) := by
            intro i
            by_cases hi : i < vs.length
            · obtain ⟨b, e1, e2⟩ := ih (v := vs[i]) (w := ws[i]'(by omega)) (h.2 _ (List.getElem_mem hi))
              exact ⟨b, fun _ _ => ⟨e1, e2⟩⟩
            · exact ⟨true, fun h => absurd h hi⟩
          exact ⟨fun i => (hx i).choose, fun i h h' => (hx i).choose_spec h h'⟩
        obtain ⟨f, hf⟩ := hf
        obtain ⟨b, ⟨K, e⟩, hbb⟩ := vsame_l0 v0 v0 vs ws h1 hb f (fun i h h' => (hf i h h').1) vs.length 0 (by omega)
        refine ⟨b, ⟨K + 2, fun k hk => ?_⟩, ⟨fun hq => ?_, fun hq => ?_⟩⟩
        · obtain ⟨k, rfl⟩ : ∃ j, k = j + 2 := ⟨k - 2, by omega⟩
          simp only [bJ.f]
          rw [if_pos trivial, show ((vs.length : Int) != (ws.length : Int)) = false from by simp; omega]
          simp only [bJ.j0]
          rw [if_neg (by decide)]
          exact e k (by omega)
        · have : vs = ws := List.ext_getElem h1 fun i h2 h3 => (hf i h2 h3).2.1 (hbb.1 hq i (Nat.zero_le _) h2)
          rw [this]
        · injection hq with _ hq
          subst hq
          exact hbb.2 fun j _ h2 => (hf j h2 h2).2.2 rfl
      · exact off (.inr h1)
    · exact off (.inl h0)
theorem cmp_f (a b : Int) : cmp_Compare_int.f a b = some (if a < b then -1 else if b < a then 1 else 0) := by
  unfold cmp_Compare_int.f cmp_isNaN_int.f
  simp only [bne_self_eq_false, Option.bind_some]
  rw [if_neg (by decide), if_neg (by decide)]
  split
  · rfl
  · split
    · rfl
    · rfl
theorem U6 (l m : List Int) (hb : l.length ≤ 1000) : ∀ (d i : Nat), i + d = l.length → i ≤ m.length → Ev (fun k => eQ.l0 k l m l l.length i) (cmpL (l.drop i) (m.drop i)) := by
  intro d
  induction d with
  | zero =>
    intro i hi hm
    refine ⟨1, fun k hk => ?_⟩
    obtain ⟨k, rfl⟩ : ∃ j, k = j + 1 := ⟨k - 1, by omega⟩
    simp only [eQ.l0]
    rw [if_neg (by omega), List.drop_eq_nil_of_le (show l.length ≤ i by omega)]
    by_cases h : i < m.length
    · rw [if_pos (by omega), List.drop_eq_getElem_cons h]; rfl
    · rw [if_neg (by omega), List.drop_eq_nil_of_le (by omega)]; rfl
  | succ d IH =>
    intro i hi hm
    have hlt : i < l.length := by omega
    by_cases h : i < m.length
    · obtain ⟨K2, e2⟩ := IH (i + 1) (by omega) (by omega)
      refine ⟨K2 + 1, fun k hk => ?_⟩
      obtain ⟨k, rfl⟩ : ∃ j, k = j + 1 := ⟨k - 1, by omega⟩
      have e2' := e2 k (by omega)
      dsimp only at e2'
      have r1 : rd l (i : Int) = l[i] := by simp [rd, List.getD, hlt]
      have r2 : rd m (i : Int) = m[i] := by simp [rd, List.getD, h]
      simp only [eQ.l0]
      rw [if_pos (by omega), if_pos (by omega), if_pos (by omega), if_neg (by omega), if_pos (by omega), r1, r2, cmp_f, Option.bind_some, iw (by omega), e2', List.drop_eq_getElem_cons hlt, List.drop_eq_getElem_cons h]
      simp only [cmpL]
      split
      · rw [if_neg (by decide)]
      · split
        · rw [if_neg (by decide)]
        · rw [if_pos rfl]
    · refine ⟨1, fun k hk => ?_⟩
      obtain ⟨k, rfl⟩ : ∃ j, k = j + 1 := ⟨k - 1, by omega⟩
      simp only [eQ.l0]
      rw [if_pos (by omega), if_pos (by omega), if_pos (by omega), if_pos (by omega), List.drop_eq_getElem_cons hlt, List.drop_eq_nil_of_le (show m.length ≤ i by omega)]; rfl
theorem U7 {t : S24} {a b : S51} {m : Nat} (hv : Vt 10 t) (hl : (prt 10 t).length ≤ 24) (h4 : t.f0 ≠ 4) (ha : Bv m a) (hb : Bv m b) (hm : 10 ≤ m) (ca : chk 10 t a = 0) (cb : chk 10 t b = 0) :
    Ev (fun k => kF.f k t.f0 t.f1 t.f2 t.f3 t.f4 a.f0 a.f1 b.f0 b.f1) (cmpL (cel 10 t a) (cel 10 t b), 0) := by
  obtain ⟨K1, e1⟩ := H6 hv hl h4 ha hm ca
  obtain ⟨K2, e2⟩ := H6 hv hl h4 hb hm cb
  obtain ⟨K3, e3⟩ := U6 (cel 10 t a) (cel 10 t b) (by rw [uJ 10 hv ca]; omega) (cel 10 t a).length 0 (by omega) (by omega)
  dsimp only [at2] at e1 e2
  refine ⟨K1 + K2 + K3, fun k hk => ?_⟩
  have e3' := e3 k (by omega)
  simp only [List.drop_zero] at e3'
  simp only [kF.f]
  rw [e1 k (by omega), Option.bind_some, if_pos rfl, e2 k (by omega), Option.bind_some, if_pos rfl]
  simp only [eQ.f]
  rw [show ((0 : Nat) : Int) = 0 from rfl] at e3'
  rw [e3', Option.bind_some]

end Go.Proofs.YtggelekooacmnaaDoor.Pure
set_option linter.unusedVariables false
set_option linter.unusedSimpArgs false
namespace Go.Proofs.YtggelekooacmnaaDoor.Pure
open Go.RowKit Go.Proofs.YtggelekooacmnaaDoor.Q Go.Proofs.YtggelekooacmnaaDoorW.aQ Go.Proofs.YtggelekooacmnaaDoorW.bH Go.Proofs.YtggelekooacmnaaDoorW.bL
-- what value.Format says of a value of a valid type: its text
def vB (n : Nat) (t : S24) (v : S51) : ByteArray := ⟨(txV n t v).toArray⟩
theorem txV_len (n : Nat) : ∀ {t : S24} {v : S51}, Vt n t → t.f0 ≠ 3 → t.f0 ≠ 4 → chk n t v = 0 → (txV n t v).length ≤ 100 * 5 ^ n := by
  induction n with
  | zero => intro t v h; cases h
  | succ n ih =>
    intro t v h h3' h4' hc
    have hp : 1 ≤ 5 ^ n := Nat.pos_of_ne_zero (by simp)
    have h5 : 5 ^ (n + 1) = 5 ^ n * 5 := Nat.pow_succ ..
    cases h with
    | bool => simp only [txV]; rw [if_neg (by omega), if_neg (by omega), if_pos trivial]; split <;> (simp only [List.length_cons, List.length_nil]; omega)
    | nat => exact absurd rfl h3'
    | real => exact absurd rfl h4'
    | int _ lo hi h1 h2 h3 =>
      obtain ⟨_, _, _, hr⟩ := uk (by simp) (by simp) hc
      have := hr (by simp) (by simp)
      dsimp only at this
      have a1 := U5 (a := v.f0) (by omega) (by omega)
      simp only [txV]; rw [if_neg (by omega), if_neg (by omega), if_neg (by omega)]
      omega
    | lst _ m x h1 h2 h3 h4 =>
      obtain ⟨_, hl, ha⟩ := wH hc
      have a1 := H7 (c := 100 * 5 ^ n) (v.f1.map (txV n x)) (by intro y hy; obtain ⟨z, hz, rfl⟩ := List.mem_map.1 hy; exact ih h3 (by omega) (by omega) (ha z hz))
      rw [List.length_map] at a1
      have a2 : v.f1.length * (100 * 5 ^ n + 2) ≤ 4 * (100 * 5 ^ n + 2) := Nat.mul_le_mul_right _ (by omega)
      simp only [txV]; rw [if_neg (by omega), if_pos trivial, rd1]
      simp only [List.length_cons, List.length_append, List.length_nil]; omega
    | tup _ l h1 h2 h3 h4 =>
      obtain ⟨_, hl, ha⟩ := wG hc
      have a1 := H7 (c := 100 * 5 ^ n) (List.zipWith (txV n) l v.f1) (by
        intro y hy
        obtain ⟨i, hi, e⟩ := List.getElem_of_mem hy
        rw [List.length_zipWith] at hi
        rw [List.getElem_zipWith] at e
        rw [← e]
        exact ih (h3 _ (List.getElem_mem (by omega))) (h4 _ (List.getElem_mem (by omega))).1 (h4 _ (List.getElem_mem (by omega))).2 (ha i (by omega) (by omega)))
      rw [List.length_zipWith] at a1
      have a2 : (min l.length v.f1.length) * (100 * 5 ^ n + 2) ≤ 4 * (100 * 5 ^ n + 2) := Nat.mul_le_mul_right _ (by omega)
      simp only [txV]; rw [if_pos trivial]
      simp only [List.length_cons, List.length_append, List.length_nil]; omega
theorem DY {n : Nat} (hn : n ≤ 10) {t : S24} {v : S51} (h : Vt n t) (h3 : t.f0 ≠ 3) (h4 : t.f0 ≠ 4) (hc : chk n t v = 0) : (txV n t v).length ≤ 1000000000 :=
  Nat.le_trans (txV_len n h h3 h4 hc) (Nat.le_trans (Nat.mul_le_mul_left 100 (Nat.pow_le_pow_right (by omega) hn)) (by decide))
/-- the loop: texts laid one by one -/
theorem QP (n : Nat) (q : Int) (hq : q = 5 ∨ q = 6) (a1 a2 a3 : Int) (ts : List S24) (vs : List S51) (hl : vs.length ≤ 4) (g : Nat → List UInt8) (hg : ∀ i, i < vs.length → (g i).length ≤ 1000000000)
    (ih : ∀ (i : Nat) (h : i < vs.length), ∃ x : S24, jv.f q a1 a2 a3 ts (i : Int) = some (x.f0, x.f1, x.f2, x.f3, x.f4) ∧ Ev (at2 dw.f x vs[i]) (⟨(g i).toArray⟩ : ByteArray)) :
    ∀ (d i : Nat), i + d = vs.length → Ev (fun k => dw.l0 k ((List.range vs.length).map fun j => if j < i then (⟨(g j).toArray⟩ : ByteArray) else ⟨#[]⟩) vs vs.length i q a1 a2 a3 ts) ⟨((if q = 5 then 40 else 91) :: (oH ((List.range vs.length).map g) ++ [if q = 5 then 41 else 93])).toArray⟩ := by
  intro d
  induction d with
  | zero =>
    intro i hi
    refine ⟨1, fun k hk => ?_⟩
    obtain ⟨k, rfl⟩ : ∃ j, k = j + 1 := ⟨k - 1, by omega⟩
    have e0 : ((List.range vs.length).map fun j => if j < i then (⟨(g j).toArray⟩ : ByteArray) else ⟨#[]⟩) = (List.range vs.length).map fun j => (⟨(g j).toArray⟩ : ByteArray) :=
      List.map_congr_left fun j hj => by rw [if_pos (by have := List.mem_range.1 hj; omega)]
    have em : (((List.range vs.length).map fun j => (⟨(g j).toArray⟩ : ByteArray)).map (·.data.toList)) = (List.range vs.length).map g := by
      rw [List.map_map]; exact List.map_congr_left fun j _ => by simp
    have hs : (oH ((List.range vs.length).map g)).length ≤ 10000000000 := by
      have a1 := H7 (c := 1000000000) ((List.range vs.length).map g) (by intro x hx; obtain ⟨y, hy, rfl⟩ := List.mem_map.1 hx; exact hg y (List.mem_range.1 hy))
      rw [List.length_map, List.length_range] at a1
      have a2 : vs.length * (1000000000 + 2) ≤ 4 * (1000000000 + 2) := Nat.mul_le_mul_right _ hl
      omega
    have hj := join_f ((List.range vs.length).map fun j => (⟨(g j).toArray⟩ : ByteArray)) (by rw [List.length_map, List.length_range]; omega) (by rw [em]; omega)
    rw [em] at hj
    have e2 : ∀ c : UInt8, ((⟨#[c]⟩ : ByteArray) ++ ⟨(oH ((List.range vs.length).map g)).toArray⟩).size = 1 + (oH ((List.range vs.length).map g)).length := by intro c; rw [ByteArray.size_append, qg]; rfl
    simp only [dw.l0]
    rw [if_neg (by omega), e0]
    rcases hq with rfl | rfl
    · rw [if_pos rfl, hj, Option.bind_some, qg, if_pos (by omega), if_pos (by rw [e2]; omega)]
      first | rfl | (refine congrArg some (ba_eq ?_); simp)
    · rw [if_neg (by decide), hj, Option.bind_some, qg, if_pos (by omega), if_pos (by rw [e2]; omega)]
      first | rfl | (refine congrArg some (ba_eq ?_); simp)
  | succ d IH =>
    intro i hi
    have hlt : i < vs.length := by omega
    obtain ⟨x, e0, K1, e1⟩ := ih i hlt
    obtain ⟨K2, e2⟩ := IH (i + 1) (by omega)
    refine ⟨max K1 K2 + 1, fun k hk => ?_⟩
    obtain ⟨k, rfl⟩ : ∃ j, k = j + 1 := ⟨k - 1, by omega⟩
    have e1' := e1 k (by omega)
    have e2' := e2 k (by omega)
    dsimp only [at2] at e1' e2'
    have hset : (((List.range vs.length).map fun j => if j < i then (⟨(g j).toArray⟩ : ByteArray) else ⟨#[]⟩).set i ⟨(g i).toArray⟩) = (List.range vs.length).map fun j => if j < i + 1 then (⟨(g j).toArray⟩ : ByteArray) else ⟨#[]⟩ := by
      apply List.ext_getElem (by simp)
      intro j h1 h2
      rw [List.getElem_set]
      simp only [List.getElem_map, List.getElem_range]
      by_cases e : i = j
      · subst e; rw [if_pos rfl, if_pos (by omega)]
      · rw [if_neg e]
        by_cases h3 : j < i
        · rw [if_pos h3, if_pos (by omega)]
        · rw [if_neg h3, if_neg (by omega)]
    simp only [dw.l0]
    rw [if_pos (by omega), if_pos (by omega), if_pos (by omega), e0, Option.bind_some]
    dsimp only
    rw [rdV hlt, e1', Option.bind_some, if_pos (by rw [List.length_map, List.length_range]; omega), Int.toNat_natCast, hset, iw (by omega), e2']
theorem Vn (f : S24 → S51 → List UInt8) (ts : List S24) (vs : List S51) (h : vs.length = ts.length) (g : Nat → List UInt8) (hg : ∀ (i : Nat) (h : i < ts.length) (h' : i < vs.length), g i = f ts[i] vs[i]) : (List.range vs.length).map g = List.zipWith f ts vs := by
  apply List.ext_getElem (by simp; omega)
  intro i h1 h2
  simp only [List.getElem_map, List.getElem_range, List.getElem_zipWith]
  exact hg i (by simp at h1; omega) (by simpa using h1)
theorem Vo (f : S51 → List UInt8) (vs : List S51) (g : Nat → List UInt8) (hg : ∀ (i : Nat) (h : i < vs.length), g i = f vs[i]) : (List.range vs.length).map g = vs.map f := by
  apply List.ext_getElem (by simp)
  intro i h1 h2
  simp only [List.getElem_map, List.getElem_range]
  exact hg i (by simpa using h1)
theorem QQ {q a1 a2 a3 : Int} (hq : q = 5 ∨ q = 6) {ts : List S24} {v0 : Int} {vs : List S51} (hl : vs.length ≤ 4) {r : ByteArray} (h : Ev (fun k => dw.l0 k ((List.range vs.length).map fun j => if j < 0 then (⟨#[]⟩ : ByteArray) else ⟨#[]⟩) vs vs.length 0 q a1 a2 a3 ts) r) :
    Ev (fun k => dw.f k q a1 a2 a3 ts v0 vs) r := by
  obtain ⟨K, e⟩ := h
  refine ⟨K + 2, fun k hk => ?_⟩
  obtain ⟨k, rfl⟩ : ∃ j, k = j + 2 := ⟨k - 2, by omega⟩
  have e' := e k (by omega)
  have er : (List.replicate vs.length (⟨#[]⟩ : ByteArray)) = (List.range vs.length).map fun j => if j < 0 then (⟨#[]⟩ : ByteArray) else ⟨#[]⟩ := by
    apply List.ext_getElem (by simp)
    intro i h1 h2
    simp
  have hj : dw.j0 (k + 1) true q a1 a2 a3 ts v0 vs = some r := by
    simp only [dw.j0, if_true]
    rw [if_pos (by omega), Int.toNat_natCast, if_pos (by omega), er]
    exact e'
  simp only [dw.f]
  rcases hq with rfl | rfl
  · rw [if_pos rfl]; exact hj
  · rw [if_neg (by decide)]; exact hj
theorem vform_ev (n : Nat) : ∀ {t : S24} {v : S51}, n ≤ 10 → Vt n t → t.f0 ≠ 3 → t.f0 ≠ 4 → chk n t v = 0 → Ev (at2 dw.f t v) (vB n t v) := by
  induction n with
  | zero => intro t v _ h; cases h
  | succ n ih =>
    intro t v hn h h3' h4' hc
    obtain ⟨v0, vs⟩ := v
    cases h with
    | bool =>
      refine ⟨2, fun k hk => ?_⟩
      obtain ⟨k, rfl⟩ : ∃ j, k = j + 2 := ⟨k - 2, by omega⟩
      simp only [at2, dw.f, dw.j0, lD.f, kG.f, vB, txV]
      by_cases h1 : v0 = 1
      · subst h1; simp
      · simp [h1]
    | nat => exact absurd rfl h3'
    | real => exact absurd rfl h4'
    | int _ lo hi h1 h2 h3 =>
      obtain ⟨_, _, _, hr⟩ := uk (by simp) (by simp) hc
      have := hr (by simp) (by simp)
      dsimp only at this
      refine ⟨2, fun k hk => ?_⟩
      obtain ⟨k, rfl⟩ : ∃ j, k = j + 2 := ⟨k - 2, by omega⟩
      simp only [at2, dw.f, dw.j0, vB, txV]
      simp [itoa_f (a := v0) (by omega) (by omega)]
    | lst _ m x h1 h2 h3 h4 =>
      obtain ⟨_, hl, ha⟩ := wH hc
      dsimp only at hl ha
      have hm : ∀ (i : Nat) (h : i < vs.length), chk n x vs[i] = 0 := fun i h => ha _ (List.getElem_mem h)
      have hr := QP n 6 (.inr rfl) 0 0 m [x] vs (by omega) (fun i => txV n x (vs.getD i ⟨0, []⟩)) (fun i hi => by
          simp only [List.getD_eq_getElem?_getD, List.getElem?_eq_getElem hi, Option.getD_some]
          exact DY (by omega) h3 (by omega) (by omega) (hm i hi)) (fun i hi => ⟨x, D8, by
          simp only [List.getD_eq_getElem?_getD, List.getElem?_eq_getElem hi, Option.getD_some]
          exact ih (by omega) h3 (by omega) (by omega) (hm i hi)⟩) vs.length 0 (by omega)
      have er : (List.range vs.length).map (fun i => txV n x (vs.getD i ⟨0, []⟩)) = vs.map (txV n x) := Vo _ _ _ fun i hi => by simp only [List.getD_eq_getElem?_getD, List.getElem?_eq_getElem hi, Option.getD_some]
      rw [er] at hr
      have e2 : (vB (n + 1) ⟨6, 0, 0, m, [x]⟩ ⟨v0, vs⟩) = ⟨((if (6 : Int) = 5 then 40 else 91) :: (oH (vs.map (txV n x)) ++ [if (6 : Int) = 5 then 41 else 93])).toArray⟩ := by
        simp [vB, txV, rd1]
      rw [e2]
      refine QQ (vs := vs) (.inr rfl) (show vs.length ≤ 4 by omega) ?_
      simpa using hr
    | tup _ l h1 h2 h3 h4 =>
      obtain ⟨_, hl, ha⟩ := wG hc
      dsimp only at hl ha
      have hr := QP n 5 (.inl rfl) 0 0 0 l vs (by omega) (fun i : Nat => txV n (ag l (i : Int)) (vs.getD i ⟨0, []⟩)) (fun i hi => by
          simp only [List.getD_eq_getElem?_getD, List.getElem?_eq_getElem hi, Option.getD_some]
          rw [rdT (by omega)]
          exact DY (by omega) (h3 _ (List.getElem_mem _)) (h4 _ (List.getElem_mem _)).1 (h4 _ (List.getElem_mem _)).2 (ha i (by omega) hi)) (fun i hi => ⟨l[i]'(by omega), D7 (by omega), by
          simp only [List.getD_eq_getElem?_getD, List.getElem?_eq_getElem hi, Option.getD_some]
          rw [rdT (by omega)]
          exact ih (by omega) (h3 _ (List.getElem_mem _)) (h4 _ (List.getElem_mem _)).1 (h4 _ (List.getElem_mem _)).2 (ha i (by omega) hi)⟩) vs.length 0 (by omega)
      have er : (List.range vs.length).map (fun i : Nat => txV n (ag l (i : Int)) (vs.getD i ⟨0, []⟩)) = List.zipWith (txV n) l vs := Vn _ _ _ hl _ fun i hi hi' => by
        simp only [List.getD_eq_getElem?_getD, List.getElem?_eq_getElem hi', Option.getD_some]; rw [rdT hi]
      rw [er] at hr
      have e2 : (vB (n + 1) ⟨5, 0, 0, 0, l⟩ ⟨v0, vs⟩) = ⟨((if (5 : Int) = 5 then 40 else 91) :: (oH (List.zipWith (txV n) l vs) ++ [if (5 : Int) = 5 then 41 else 93])).toArray⟩ := by
        simp [vB, txV]
      rw [e2]
      refine QQ (vs := vs) (.inl rfl) (show vs.length ≤ 4 by omega) ?_
      simpa using hr
end Go.Proofs.YtggelekooacmnaaDoor.Pure
set_option linter.unusedVariables false
set_option linter.unusedSimpArgs false
namespace Go.Proofs.YtggelekooacmnaaDoor.Pure
open Go.RowKit Go.Proofs.YtggelekooacmnaaDoor.Q Go.Proofs.YtggelekooacmnaaDoorW.aQ Go.Proofs.YtggelekooacmnaaDoorW.bH Go.Proofs.YtggelekooacmnaaDoorW.bL
def d4 (u : Nat) : List UInt8 :=
  if u < 10 then [UInt8.ofNat (48 + u)] else if u < 100 then [UInt8.ofNat (48 + u / 10), UInt8.ofNat (48 + u % 10)]
  else if u < 1000 then [UInt8.ofNat (48 + u / 100), UInt8.ofNat (48 + u / 10 % 10), UInt8.ofNat (48 + u % 10)]
  else [UInt8.ofNat (48 + u / 1000), UInt8.ofNat (48 + u / 100 % 10), UInt8.ofNat (48 + u / 10 % 10), UInt8.ofNat (48 + u % 10)]
def i4 (a : Int) : List UInt8 := if a < 0 then 45 :: d4 a.natAbs else d4 a.toNat
theorem d4_eq {u : Nat} (h : u < 10000) : Go.Lib.decDigits u = d4 u := by
  have a (v : Nat) (hv : v < 10) : Go.Lib.decDigits v = [UInt8.ofNat (48 + v)] := by rw [Go.Lib.decDigits, dif_pos hv]
  have b (v : Nat) (hv : ¬ v < 10) : Go.Lib.decDigits v = Go.Lib.decDigits (v / 10) ++ [UInt8.ofNat (48 + v % 10)] := by rw [Go.Lib.decDigits, dif_neg hv]
  unfold d4
  by_cases h1 : u < 10
  · rw [if_pos h1, a u h1]
  · rw [if_neg h1, b u h1]
    by_cases h2 : u < 100
    · rw [if_pos h2, a _ (by omega)]; rfl
    · rw [if_neg h2, b (u / 10) (by omega)]
      by_cases h3 : u < 1000
      · rw [if_pos h3, a _ (by omega), show u / 10 / 10 = u / 100 by omega]; rfl
      · rw [if_neg h3, b (u / 10 / 10) (by omega), a _ (by omega), show u / 10 / 10 / 10 = u / 1000 by omega, show u / 10 / 10 = u / 100 by omega]; rfl
theorem i4_eq {a : Int} (h0 : -1000 ≤ a) (h1 : a ≤ 1000) : Go.Lib.itoa a = i4 a := by
  unfold Go.Lib.itoa i4
  split <;> rw [d4_eq (by omega)]
def pV (i : Int) : Bool := decide (((fK.f 20 i).map (·.data.toList)) = some (i4 i))
def o8 (g : Int → Bool) (a : Int) : Nat → Bool
  | 0 => true
  | n + 1 => g (a + n) && o8 g a n
theorem UQ {g : Int → Bool} {a : Int} : ∀ {n : Nat}, o8 g a n = true → ∀ i : Nat, i < n → g (a + i) = true
  | 0, _, i, hi => absurd hi (by omega)
  | n + 1, h, i, hi => by
    simp only [o8, Bool.and_eq_true] at h
    by_cases e : i = n
    · subst e; exact h.1
    · exact UQ h.2 i (by omega)
set_option maxRecDepth 100000 in
theorem dec_0 : o8 pV (-1000) 100 = true := by kernel_rfl
set_option maxRecDepth 100000 in
theorem dec_1 : o8 pV (-900) 100 = true := by kernel_rfl
set_option maxRecDepth 100000 in
theorem dec_2 : o8 pV (-800) 100 = true := by kernel_rfl
set_option maxRecDepth 100000 in
theorem dec_3 : o8 pV (-700) 100 = true := by kernel_rfl
set_option maxRecDepth 100000 in
theorem dec_4 : o8 pV (-600) 100 = true := by kernel_rfl
set_option maxRecDepth 100000 in
theorem dec_5 : o8 pV (-500) 100 = true := by kernel_rfl
set_option maxRecDepth 100000 in
theorem dec_6 : o8 pV (-400) 100 = true := by kernel_rfl
set_option maxRecDepth 100000 in
theorem dec_7 : o8 pV (-300) 100 = true := by kernel_rfl
set_option maxRecDepth 100000 in
theorem dec_8 : o8 pV (-200) 100 = true := by kernel_rfl
set_option maxRecDepth 100000 in
theorem dec_9 : o8 pV (-100) 100 = true := by kernel_rfl
set_option maxRecDepth 100000 in
theorem dec_10 : o8 pV (0) 100 = true := by kernel_rfl
set_option maxRecDepth 100000 in
theorem dec_11 : o8 pV (100) 100 = true := by kernel_rfl
set_option maxRecDepth 100000 in
theorem dec_12 : o8 pV (200) 100 = true := by kernel_rfl
set_option maxRecDepth 100000 in
theorem dec_13 : o8 pV (300) 100 = true := by kernel_rfl
set_option maxRecDepth 100000 in
theorem dec_14 : o8 pV (400) 100 = true := by kernel_rfl
set_option maxRecDepth 100000 in
theorem dec_15 : o8 pV (500) 100 = true := by kernel_rfl
set_option maxRecDepth 100000 in
theorem dec_16 : o8 pV (600) 100 = true := by kernel_rfl
set_option maxRecDepth 100000 in
theorem dec_17 : o8 pV (700) 100 = true := by kernel_rfl
set_option maxRecDepth 100000 in
theorem dec_18 : o8 pV (800) 100 = true := by kernel_rfl
set_option maxRecDepth 100000 in
theorem dec_19 : o8 pV (900) 100 = true := by kernel_rfl
set_option maxRecDepth 100000 in
theorem dec_20 : o8 pV (1000) 1 = true := by kernel_rfl
theorem mo {c : Int} {n : Nat} (h : o8 pV c n = true) (a : Int) (h0 : c ≤ a) (h1 : a < c + n) : pV a = true := by
  have h := UQ h (a - c).toNat (by omega)
  rwa [show c + ((a - c).toNat : Int) = a by omega] at h
theorem dec_all {a : Int} (h0 : -1000 ≤ a) (h1 : a ≤ 1000) : pV a = true := by
  by_cases c0 : a < -900
  · exact mo dec_0 a (by omega) (by simp; omega)
  by_cases c1 : a < -800
  · exact mo dec_1 a (by omega) (by simp; omega)
  by_cases c2 : a < -700
  · exact mo dec_2 a (by omega) (by simp; omega)
  by_cases c3 : a < -600
  · exact mo dec_3 a (by omega) (by simp; omega)
  by_cases c4 : a < -500
  · exact mo dec_4 a (by omega) (by simp; omega)
  by_cases c5 : a < -400
  · exact mo dec_5 a (by omega) (by simp; omega)
  by_cases c6 : a < -300
  · exact mo dec_6 a (by omega) (by simp; omega)
  by_cases c7 : a < -200
  · exact mo dec_7 a (by omega) (by simp; omega)
  by_cases c8 : a < -100
  · exact mo dec_8 a (by omega) (by simp; omega)
  by_cases c9 : a < 0
  · exact mo dec_9 a (by omega) (by simp; omega)
  by_cases c10 : a < 100
  · exact mo dec_10 a (by omega) (by simp; omega)
  by_cases c11 : a < 200
  · exact mo dec_11 a (by omega) (by simp; omega)
  by_cases c12 : a < 300
  · exact mo dec_12 a (by omega) (by simp; omega)
  by_cases c13 : a < 400
  · exact mo dec_13 a (by omega) (by simp; omega)
  by_cases c14 : a < 500
  · exact mo dec_14 a (by omega) (by simp; omega)
  by_cases c15 : a < 600
  · exact mo dec_15 a (by omega) (by simp; omega)
  by_cases c16 : a < 700
  · exact mo dec_16 a (by omega) (by simp; omega)
  by_cases c17 : a < 800
  · exact mo dec_17 a (by omega) (by simp; omega)
  by_cases c18 : a < 900
  · exact mo dec_18 a (by omega) (by simp; omega)
  by_cases c19 : a < 1000
  · exact mo dec_19 a (by omega) (by simp; omega)
  exact mo dec_20 a (by omega) (by simp; omega)
theorem U8 {a : Int} (h0 : -1000 ≤ a) (h1 : a ≤ 1000) : Ev (fun k => fK.f k a) ⟨(Go.Lib.itoa a).toArray⟩ := by
  have h2 := of_decide_eq_true (dec_all h0 h1)
  cases e : fK.f 20 a with
  | none => rw [e] at h2; cases h2
  | some r =>
    rw [e] at h2
    have h3 : r.data.toList = i4 a := by injection h2
    rw [i4_eq h0 h1, ← h3]
    refine Ev.of (fun k => fK.mono _ _) (k := 20) ?_
    rw [e]
end Go.Proofs.YtggelekooacmnaaDoor.Pure
set_option linter.unusedVariables false
set_option linter.unusedSimpArgs false
namespace Go.Proofs.YtggelekooacmnaaDoor.Pure
open Go.RowKit Go.Proofs.YtggelekooacmnaaDoor.Q Go.Proofs.YtggelekooacmnaaDoorW.aQ Go.Proofs.YtggelekooacmnaaDoorW.bH Go.Proofs.YtggelekooacmnaaDoorW.bL
theorem or_join (r lo : Nat) (hr : r < 4294967296) (hl : lo < 4294967296) : Go.bits .or .u64 (IntKind.u64.wrap ((r : Int) * 4294967296)) (IntKind.u64.wrap (lo : Int)) = ((r * 4294967296 + lo : Nat) : Int) := by
  have e1 : IntKind.u64.wrap ((r : Int) * 4294967296) = ((r * 4294967296 : Nat) : Int) := by rw [IntKind.wrap_u64]; omega
  have e2 : IntKind.u64.wrap (lo : Int) = (lo : Int) := by rw [IntKind.wrap_u64]; omega
  rw [e1, e2, u64_or_nat _ _ (by omega) (by omega), nat_join 32 (r * 4294967296) lo (by omega) (by omega)]
theorem lo_half (n : Nat) (h : n < 9223372036854775808) : (Go.bits .and .i64 (n : Int) 4294967295) % 4294967296 = ((n % 4294967296 : Nat) : Int) := by
  have h1 := bits_mask .i64 63 (by decide) (fun m h0 h1 => by rw [IntKind.wrap_i64]; omega) 32 (by decide) (n : Int) (by omega) (by omega)
  rw [show ((2 : Int) ^ 32 - 1) = 4294967295 by decide, show ((2 : Int) ^ 32) = 4294967296 by decide] at h1
  rw [h1]; omega
def lb (n : Nat) : List Int := if n = 0 then [] else if n < 4294967296 then [(n : Int)] else [((n % 4294967296 : Nat) : Int), ((n / 4294967296 : Nat) : Int)]
theorem trim0 (k : Nat) : aG.f (k + 1) [] = some [] := by simp [aG.f, aG.l0]
theorem trim1 (k : Nat) (a : Int) : aG.f (k + 2) [a] = some (if a = 0 then [] else [a]) := by
  by_cases h : a = 0
  · subst h; simp [aG.f, aG.l0, wrap64, rd]
  · simp [aG.f, aG.l0, wrap64, rd, h]
theorem trim2 (k : Nat) (a b : Int) : aG.f (k + 3) [a, b] = some (if b = 0 then (if a = 0 then [] else [a]) else [a, b]) := by
  by_cases hb : b = 0
  · subst hb
    by_cases h : a = 0
    · subst h; simp [aG.f, aG.l0, wrap64, rd]
    · simp [aG.f, aG.l0, wrap64, rd, h]
  · simp [aG.f, aG.l0, wrap64, rd, hb]
theorem uK (k n : Nat) (h : n < 18446744073709551616) : aG.f (k + 3) (lb n) = some (lb n) := by
  unfold lb
  by_cases h0 : n = 0
  · rw [if_pos h0]; exact trim0 _
  · rw [if_neg h0]
    by_cases h1 : n < 4294967296
    · rw [if_pos h1, trim1, if_neg (by omega)]
    · rw [if_neg h1, trim2, if_neg (by omega)]
theorem Ph (k n : Nat) (h : n < 18446744073709551616) : aG.f (k + 3) [((n % 4294967296 : Nat) : Int), ((n / 4294967296 : Nat) : Int)] = some (lb n) := by
  rw [trim2]
  unfold lb
  by_cases h0 : n = 0
  · subst h0; simp
  · rw [if_neg h0]
    by_cases h1 : n < 4294967296
    · rw [if_pos h1, if_pos (by omega), if_neg (by omega), Nat.mod_eq_of_lt h1]
    · rw [if_neg h1, if_neg (by omega)]
theorem tdivn (a b : Nat) : Int.tdiv (a : Int) (b : Int) = ((a / b : Nat) : Int) := rfl
theorem tmodn (a b : Nat) : Int.tmod (a : Int) (b : Int) = ((a % b : Nat) : Int) := rfl
theorem KX (k : Nat) (x0 : List Int) (d : Nat) (hd : 1 ≤ d) (hd2 : d < 4294967296) (o : List Int) (r i : Nat) (hi : i < x0.length) (hio : i < o.length) (hi2 : i ≤ 1000) (lo : Nat) (hlo : rd x0 (i : Int) = lo) (hl : lo < 4294967296) (hr : r < 4294967296) :
    bU.l0 (k + 1) x0 d o r i = bU.l0 k x0 d (o.set i (((r * 4294967296 + lo) / d % 4294967296 : Nat) : Int)) (((r * 4294967296 + lo) % d : Nat) : Int) ((i : Int) - 1) := by
  have e1 : IntKind.u64.wrap (d : Int) = (d : Int) := by rw [IntKind.wrap_u64]; omega
  have e2 : wrap64 ((i : Int) - 1) = (i : Int) - 1 := by unfold wrap64; omega
  have e3 : ∀ q : Nat, IntKind.u64.wrap (q : Int) % 4294967296 = ((q % 4294967296 : Nat) : Int) := by intro q; rw [IntKind.wrap_u64]; omega
  simp only [bU.l0]
  rw [if_pos (by omega), if_pos (by omega), if_pos (by omega), e1, if_neg (by omega), if_pos (by omega), hlo, or_join r lo hr hl, tdivn, tmodn, e2, e3, Int.toNat_natCast]
theorem IQ (k : Nat) (x0 : List Int) (d : Int) (o : List Int) (r : Nat) (hr : r < 4294967296) (q : List Int) (hq : aG.f k o = some q) : bU.l0 (k + 1) x0 d o r (-1) = some (q, (r : Int)) := by
  simp only [bU.l0]
  rw [if_neg (by omega), hq, Option.bind_some, show (r : Int) % 4294967296 = r from by omega]
theorem QR (k n d : Nat) (h : n < 18446744073709551616) (hd : 1 ≤ d) (hd2 : d < 4294967296) : bU.f (k + 6) (lb n) d = some (lb (n / d), ((n % d : Nat) : Int)) := by
  have hnd : n / d ≤ n := Nat.div_le_self n d
  have hmd : n % d < d := Nat.mod_lt _ hd
  simp only [bU.f]
  by_cases h0 : n = 0
  · subst h0
    rw [show lb 0 = [] from rfl, show wrap64 ((([] : List Int).length : Int) - 1) = -1 from by simp [wrap64], if_pos (by simp), if_pos (by simp)]
    rw [show k + 6 = (k + 5) + 1 from rfl, show (0 : Int) = ((0 : Nat) : Int) from rfl, IQ _ _ _ _ 0 (by omega) [] (by exact trim0 _)]
    simp [lb]
  · by_cases h1 : n < 4294967296
    · have e : lb n = [(n : Int)] := by unfold lb; rw [if_neg h0, if_pos h1]
      have e2 : wrap64 (([(n : Int)].length : Int) - 1) = ((0 : Nat) : Int) := by simp [wrap64]
      rw [e, e2, if_pos (by simp), if_pos (by simp), show k + 6 = (k + 5) + 1 from rfl, show (0 : Int) = ((0 : Nat) : Int) from rfl]
      rw [KX (k + 5) [(n : Int)] d hd hd2 _ 0 0 (by simp) (by simp) (by omega) n (by simp [rd]) h1 (by omega)]
      have hq : aG.f (k + 4) [((n / d : Nat) : Int)] = some (lb (n / d)) := by
        rw [trim1]; unfold lb
        by_cases hz : n / d = 0
        · rw [if_pos hz, if_pos (by omega)]
        · rw [if_neg hz, if_neg (by omega), if_pos (by omega)]
      have es : (List.replicate (([(n : Int)].length : Int)).toNat (((0 : Nat) : Int))).set 0 (((0 * 4294967296 + n) / d % 4294967296 : Nat) : Int) = [((n / d : Nat) : Int)] := by
        rw [Nat.zero_mul, Nat.zero_add, Nat.mod_eq_of_lt (show n / d < 4294967296 by omega)]; rfl
      rw [es, show (((0 : Nat) : Int) - 1) = -1 from rfl, show k + 5 = (k + 4) + 1 from rfl, IQ _ _ _ _ _ (by rw [Nat.zero_mul, Nat.zero_add]; omega) _ hq, Nat.zero_mul, Nat.zero_add]
    · obtain ⟨hi, hhi⟩ : ∃ hi, hi = n / 4294967296 := ⟨_, rfl⟩
      obtain ⟨lo, hlo⟩ : ∃ lo, lo = n % 4294967296 := ⟨_, rfl⟩
      have e : lb n = [(lo : Int), (hi : Int)] := by unfold lb; rw [if_neg h0, if_neg h1, hhi, hlo]
      have hn : n = hi * 4294967296 + lo := by omega
      have b1 : hi < 4294967296 := by omega
      have b2 : lo < 4294967296 := by omega
      have hr : hi % d < d := Nat.mod_lt _ hd
      have hdm : d * (hi / d) + hi % d = hi := Nat.div_add_mod hi d
      have hq1 : hi / d ≤ hi := Nat.div_le_self hi d
      have hx : (hi % d * 4294967296 + lo) / d < 4294967296 := by
        refine (Nat.div_lt_iff_lt_mul hd).2 ?_
        have : (hi % d + 1) * 4294967296 ≤ d * 4294967296 := Nat.mul_le_mul_right _ hr
        rw [Nat.add_mul] at this
        rw [Nat.mul_comm]; omega
      have hsplit : n = d * (hi / d * 4294967296) + (hi % d * 4294967296 + lo) := by
        have h3 : d * (hi / d * 4294967296) = (d * (hi / d)) * 4294967296 := by rw [Nat.mul_assoc]
        rw [h3]
        generalize d * (hi / d) = A at hdm ⊢
        generalize hi % d = B at hdm ⊢
        rw [hn, ← hdm, Nat.add_mul, Nat.add_assoc]
      have hdiv : n / d = hi / d * 4294967296 + (hi % d * 4294967296 + lo) / d := by
        conv => lhs; rw [hsplit]
        rw [Nat.mul_add_div (by omega)]
      have hmod : n % d = (hi % d * 4294967296 + lo) % d := by
        conv => lhs; rw [hsplit]
        rw [Nat.mul_add_mod]
      have e2 : wrap64 (([(lo : Int), (hi : Int)].length : Int) - 1) = ((1 : Nat) : Int) := by simp [wrap64]
      rw [e, e2, if_pos (by simp), if_pos (by simp), show k + 6 = (k + 5) + 1 from rfl, show (0 : Int) = ((0 : Nat) : Int) from rfl]
      rw [KX (k + 5) [(lo : Int), (hi : Int)] d hd hd2 _ 0 1 (by simp) (by simp) (by omega) hi (by simp [rd]) b1 (by omega)]
      rw [Nat.zero_mul, Nat.zero_add, show (((1 : Nat) : Int) - 1) = ((0 : Nat) : Int) from rfl, show k + 5 = (k + 4) + 1 from rfl]
      rw [KX (k + 4) [(lo : Int), (hi : Int)] d hd hd2 _ (hi % d) 0 (by simp) (by simp) (by omega) lo (by simp [rd]) b2 (by omega)]
      have es : ((List.replicate (([(lo : Int), (hi : Int)].length : Int)).toNat (((0 : Nat) : Int))).set 1 ((hi / d % 4294967296 : Nat) : Int)).set 0 (((hi % d * 4294967296 + lo) / d % 4294967296 : Nat) : Int) = [((n / d % 4294967296 : Nat) : Int), ((n / d / 4294967296 : Nat) : Int)] := by
        have e5 : ∀ Q X : Nat, X < 4294967296 → (Q * 4294967296 + X) % 4294967296 = X ∧ (Q * 4294967296 + X) / 4294967296 = Q := by intro Q X h; omega
        have e3 : n / d % 4294967296 = (hi % d * 4294967296 + lo) / d := by rw [hdiv]; exact (e5 _ _ hx).1
        have e4 : n / d / 4294967296 = hi / d := by rw [hdiv]; exact (e5 _ _ hx).2
        rw [e3, e4, Nat.mod_eq_of_lt hx, Nat.mod_eq_of_lt (show hi / d < 4294967296 by omega)]; rfl
      have hq := Ph k (n / d) (by omega)
      rw [es, show (((0 : Nat) : Int) - 1) = -1 from rfl, show k + 4 = (k + 3) + 1 from rfl, IQ _ _ _ _ _ (by rw [← hmod]; omega) _ hq, hmod]
theorem lb1 : lb 1 = [1] := rfl
theorem cmp_lb (k n : Nat) (h : n < 18446744073709551616) (h0 : n ≠ 0) : ∃ c, 0 ≤ c ∧ dC.f (k + 4) (lb n) [1] = some c := by
  have e1 := uK (k + 1) n h
  have e2 := uK (k + 1) 1 (by omega)
  rw [lb1] at e2
  simp only [dC.f]
  rw [show k + 4 = k + 1 + 3 from rfl, e1, Option.bind_some, e2, Option.bind_some]
  unfold lb
  rw [if_neg h0]
  by_cases h1 : n < 4294967296
  · rw [if_pos h1]
    have e3 : wrap64 (([(n : Int)].length : Int) - 1) = 0 := by simp [wrap64]
    rw [if_pos (by simp), e3, show k + 1 + 3 = (k + 3) + 1 from rfl]
    have e5 : wrap64 ((0 : Int) - 1) = -1 := by unfold wrap64; omega
    simp only [dC.l0]
    rw [if_pos (by omega), if_pos (by omega), if_pos (by simp), if_pos (by simp)]
    simp only [rd, Int.toNat_zero, List.getD_cons_zero]
    rw [if_neg (by omega)]
    by_cases c : (n : Int) > 1
    · exact ⟨1, by omega, by rw [if_pos c]⟩
    · exact ⟨0, by omega, by rw [if_neg c, e5, if_neg (by omega)]⟩
  · rw [if_neg h1]
    exact ⟨1, by omega, by rw [if_neg (by simp), if_neg (by simp)]⟩
theorem cmp_lb0 (k : Nat) : dC.f (k + 4) [] [1] = some (-1) := by
  have e2 := uK (k + 1) 1 (by omega)
  rw [lb1] at e2
  simp only [dC.f]
  rw [show k + 4 = k + 1 + 3 from rfl, show aG.f (k + 1 + 3) [] = some [] from trim0 _, Option.bind_some, e2, Option.bind_some, if_neg (by simp), if_pos (by simp)]
theorem IU (k n : Nat) (h : n < 18446744073709551616) : bB.f (k + 6) (lb n) [1] = some (lb n, [], 0) := by
  have e1 := uK (k + 3) n h
  have e2 := uK (k + 3) 1 (by omega)
  rw [lb1] at e2
  simp only [bB.f]
  rw [show k + 6 = k + 3 + 3 from rfl, e1, Option.bind_some, e2, Option.bind_some, if_neg (by simp)]
  by_cases h0 : n = 0
  · subst h0
    rw [show lb 0 = [] from rfl, show k + 3 + 3 = (k + 2) + 4 from rfl, cmp_lb0, Option.bind_some, if_pos (by omega)]
  · obtain ⟨c, hc, ec⟩ := cmp_lb (k + 2) n h h0
    have es := QR k n 1 h (by omega) (by omega)
    rw [Nat.div_one, Nat.mod_one] at es
    rw [show k + 3 + 3 = (k + 2) + 4 from rfl, ec, Option.bind_some, if_neg (by omega), if_pos (by simp), if_pos (by simp)]
    rw [show rd [(1 : Int)] 0 = ((1 : Nat) : Int) from rfl, show k + 2 + 4 = k + 6 from rfl, es, Option.bind_some]
    dsimp only
    rw [show k + 6 = (k + 4) + 2 from rfl, trim1, Option.bind_some]
    simp
theorem gcd_lb (k n : Nat) (h : n < 18446744073709551616) : dJ.f (k + 8) (lb n) [1] = some [1] := by
  have e1 := uK (k + 5) n h
  have e2 := uK (k + 5) 1 (by omega)
  rw [lb1] at e2
  simp only [dJ.f]
  rw [show k + 8 = k + 5 + 3 from rfl, e1, Option.bind_some, e2, Option.bind_some, show k + 5 + 3 = (k + 1 + 6) + 1 from rfl]
  simp only [dJ.l0]
  rw [if_pos (by simp), IU _ n h, Option.bind_some]
  simp [dJ.l0]
theorem norm_lb (k n : Nat) (h : n < 18446744073709551616) : gB.f (k + 8) false (lb n) [1] = some (false, lb n, [1]) := by
  have e2 := uK (k + 5) 1 (by omega)
  have e3 := IU (k + 2) n h
  have e4 := IU (k + 2) 1 (by omega)
  rw [lb1] at e2 e4
  simp only [gB.f, il.f]
  rw [show k + 8 = k + 5 + 3 from rfl, e2, Option.bind_some, if_neg (by simp), show k + 5 + 3 = k + 8 from rfl, gcd_lb k n h, Option.bind_some, show k + 8 = k + 2 + 6 from rfl, e3, Option.bind_some, e4, Option.bind_some]
  simp
def yU (n : Nat) : List Int := if h : n = 0 then [] else ((48 + n % 10 : Nat) : Int) :: yU (n / 10)
  termination_by n
  decreasing_by omega
theorem rdig_len (d : Nat) : ∀ n : Nat, n < 10 ^ d → (yU n).length ≤ d := by
  induction d with
  | zero => intro n h; rw [show n = 0 by simpa using h]; unfold yU; simp
  | succ d ih =>
    intro n h
    unfold yU
    split
    · simp
    · have h2 : n / 10 < 10 ^ d := by rw [Nat.pow_succ] at h; omega
      simp only [List.length_cons]
      have := ih _ h2; omega
theorem rdig_rev (n : Nat) : n ≠ 0 → ((yU n).reverse.map fun x : Int => UInt8.ofNat x.toNat) = Go.Lib.decDigits n := by
  induction n using Nat.strongRecOn with
  | _ n ih =>
    intro h0
    rw [yU, dif_neg h0]
    rw [List.reverse_cons, List.map_append, List.map_cons, List.map_nil, Int.toNat_natCast]
    by_cases h : n < 10
    · rw [Go.Lib.decDigits, dif_pos h]
      rw [show n / 10 = 0 by omega, show n % 10 = n by omega]
      unfold yU; simp
    · rw [Go.Lib.decDigits, dif_neg h, ih (n / 10) (by omega) (by omega)]
def rvs (xs : List Int) (i : Nat) : List Int := (List.range xs.length).map fun j => if j < i ∨ xs.length - i ≤ j then xs.getD (xs.length - 1 - j) 0 else xs.getD j 0
theorem J6 (xs : List Int) (i : Nat) : (rvs xs i).length = xs.length := by simp [rvs]
theorem rvs_zero (xs : List Int) : rvs xs 0 = xs := by
  apply List.ext_getElem (by simp [rvs])
  intro j h1 h2
  simp only [rvs, List.getElem_map, List.getElem_range]
  rw [if_neg (by omega)]
  simp [List.getD, h2]
theorem UR (xs : List Int) (i : Nat) (h : xs.length ≤ 2 * i + 1) : rvs xs i = xs.reverse := by
  apply List.ext_getElem (by simp [rvs])
  intro j h1 h2
  have hj : j < xs.length := by simpa using h2
  simp only [rvs, List.getElem_map, List.getElem_range, List.getElem_reverse]
  by_cases c : j < i ∨ xs.length - i ≤ j
  · rw [if_pos c]; simp [List.getD, show xs.length - 1 - j < xs.length by omega]
  · rw [if_neg c]
    have : j = xs.length - 1 - j := by omega
    simp only [List.getD, List.getElem?_eq_getElem hj, Option.getD_some]
    congr 1
theorem rvs_rd (xs : List Int) (i j : Nat) (hj : j < xs.length) (h : ¬ (j < i ∨ xs.length - i ≤ j)) : rd (rvs xs i) (j : Int) = xs.getD j 0 := by
  have : j < (rvs xs i).length := by rw [J6]; exact hj
  rw [rd, List.getD, Int.toNat_natCast, List.getElem?_eq_getElem this]
  simp only [rvs, List.getElem_map, List.getElem_range, Option.getD_some]
  rw [if_neg h]
theorem rvs_set (xs : List Int) (i : Nat) (h : 2 * i + 1 < xs.length) : ((rvs xs i).set i (xs.getD (xs.length - 1 - i) 0)).set (xs.length - 1 - i) (xs.getD i 0) = rvs xs (i + 1) := by
  apply List.ext_getElem (by simp [rvs])
  intro j h1 h2
  have hj : j < xs.length := by rw [J6] at h2; exact h2
  rw [List.getElem_set, List.getElem_set]
  simp only [rvs, List.getElem_map, List.getElem_range]
  by_cases a : xs.length - 1 - i = j
  · rw [if_pos a, if_pos (by omega)]
    congr 1; omega
  · rw [if_neg a]
    by_cases b : i = j
    · rw [if_pos b, if_pos (by omega), b]
    · rw [if_neg b]
      by_cases c : j < i ∨ xs.length - i ≤ j
      · rw [if_pos c, if_pos (by omega)]
      · rw [if_neg c, if_neg (by omega)]
theorem lbf_l1 (xs : List Int) (hb : xs.length ≤ 1000) : ∀ (d i : Nat), xs.length ≤ 2 * i + 1 + 2 * d → i ≤ xs.length → Ev (fun k => aW.l1 k (rvs xs i) i ((xs.length : Int) - 1 - i)) (strOfNums xs.reverse) := by
  intro d
  induction d with
  | zero =>
    intro i hi h2
    refine ⟨1, fun k hk => ?_⟩
    obtain ⟨k, rfl⟩ : ∃ j, k = j + 1 := ⟨k - 1, by omega⟩
    simp only [aW.l1]
    rw [if_neg (by omega), UR xs i (by omega)]
  | succ d IH =>
    intro i hi h2
    by_cases c : (i : Int) < (xs.length : Int) - 1 - i
    · obtain ⟨K, e⟩ := IH (i + 1) (by omega) (by omega)
      refine ⟨K + 1, fun k hk => ?_⟩
      obtain ⟨k, rfl⟩ : ∃ j, k = j + 1 := ⟨k - 1, by omega⟩
      have e' := e k (by omega)
      dsimp only at e'
      have hq : (xs.length : Int) - 1 - i = ((xs.length - 1 - i : Nat) : Int) := by omega
      have hw : wrap64 ((xs.length : Int) - 1 - i - 1) = (xs.length : Int) - 1 - ((i + 1 : Nat) : Int) := by unfold wrap64; omega
      simp only [aW.l1]
      rw [if_pos c, if_pos (by omega), if_pos (by rw [J6]; omega), if_pos (by omega), if_pos (by rw [J6]; omega), hw, iw (by omega), hq, rvs_rd xs i (xs.length - 1 - i) (by omega) (by omega), rvs_rd xs i i (by omega) (by omega), Int.toNat_natCast, Int.toNat_natCast, rvs_set xs i (by omega)]
      exact e'
    · refine ⟨1, fun k hk => ?_⟩
      obtain ⟨k, rfl⟩ : ∃ j, k = j + 1 := ⟨k - 1, by omega⟩
      simp only [aW.l1]
      rw [if_neg c, UR xs i (by omega)]
theorem lbf_l0 (n : Nat) : ∀ (ds : List Int), n < 18446744073709551616 → ds.length + (yU n).length ≤ 1000 → Ev (fun k => aW.l0 k (lb n) ds) (strOfNums (ds ++ yU n).reverse) := by
  induction n using Nat.strongRecOn with
  | _ n ih =>
    intro ds hn hl
    by_cases h0 : n = 0
    · subst h0
      obtain ⟨K, e⟩ := lbf_l1 ds (by omega) ds.length 0 (by omega) (by omega)
      refine ⟨K + 1, fun k hk => ?_⟩
      obtain ⟨k, rfl⟩ : ∃ j, k = j + 1 := ⟨k - 1, by omega⟩
      have e' := e k (by omega)
      dsimp only at e'
      have hw : wrap64 ((ds.length : Int) - 1) = (ds.length : Int) - 1 - ((0 : Nat) : Int) := by unfold wrap64; omega
      simp only [aW.l0]
      rw [show lb 0 = [] from rfl, if_neg (by simp), hw]
      rw [rvs_zero] at e'
      rw [show yU 0 = [] by unfold yU; simp, List.append_nil]
      exact e'
    · have hr : yU n = ((48 + n % 10 : Nat) : Int) :: yU (n / 10) := by rw [yU, dif_neg h0]
      rw [hr, List.length_cons] at hl
      obtain ⟨K, e⟩ := ih (n / 10) (by omega) (ds ++ [((48 + n % 10 : Nat) : Int)]) (by omega) (by rw [List.length_append, List.length_singleton]; omega)
      refine ⟨K + 7, fun k hk => ?_⟩
      obtain ⟨k, rfl⟩ : ∃ j, k = j + 7 := ⟨k - 7, by omega⟩
      have e' := e (k + 6) (by omega)
      have es := QR k n 10 hn (by omega) (by omega)
      dsimp only at e'
      have hp : (lb n).length > 0 := by
        unfold lb; rw [if_neg h0]; split <;> simp
      rw [show k + 7 = (k + 6) + 1 from rfl]
      generalize k + 6 = m at e' es ⊢
      simp only [aW.l0]
      rw [if_pos (by omega), show (10 : Int) = ((10 : Nat) : Int) from rfl, es, Option.bind_some]
      dsimp only
      rw [if_pos (by omega), show ((48 + ((n % 10 : Nat) : Int)) % 4294967296) % 256 = ((48 + n % 10 : Nat) : Int) by omega, e', hr, List.append_assoc]
      rfl
theorem Pj (n : Nat) (h : n < 18446744073709551616) : Ev (fun k => aW.f k (lb n)) ⟨(Go.Lib.decDigits n).toArray⟩ := by
  by_cases h0 : n = 0
  · subst h0
    refine ⟨3, fun k hk => ?_⟩
    obtain ⟨k, rfl⟩ : ∃ j, k = j + 3 := ⟨k - 3, by omega⟩
    simp only [aW.f]
    rw [uK k 0 h, Option.bind_some, if_pos (by rfl), show Go.Lib.decDigits 0 = [48] from by rw [Go.Lib.decDigits]; rfl]
  · have hl := rdig_len 20 n (by omega)
    obtain ⟨K, e⟩ := lbf_l0 n [] h (by simp only [List.length_nil]; omega)
    refine ⟨K + 3, fun k hk => ?_⟩
    obtain ⟨k, rfl⟩ : ∃ j, k = j + 3 := ⟨k - 3, by omega⟩
    have e' := e (k + 3) (by omega)
    dsimp only at e'
    have hp : (lb n).length > 0 := by
      unfold lb; rw [if_neg h0]; split <;> simp
    simp only [aW.f]
    rw [uK k n h, Option.bind_some, if_neg (by omega), e', List.nil_append]
    refine congrArg some (ba_eq ?_)
    rw [strOfNums_data, rdig_rev n h0]
theorem Rh {a : Int} (h0 : 0 ≤ a) (h1 : a ≤ 9223372036854775807) : Ev (fun k => fK.f k a) ⟨(Go.Lib.itoa a).toArray⟩ := by
  obtain ⟨n, rfl⟩ : ∃ n : Nat, a = n := ⟨a.toNat, by omega⟩
  obtain ⟨K1, e1⟩ := Pj n (by omega)
  obtain ⟨K2, e2⟩ := Pj 1 (by omega)
  dsimp only at e1 e2
  rw [lb1] at e2
  refine ⟨K1 + K2 + 8, fun k hk => ?_⟩
  obtain ⟨k, rfl⟩ : ∃ j, k = j + 8 := ⟨k - 8, by omega⟩
  have e1' := e1 (k + 8) (by omega)
  have e2' := e2 (k + 8) (by omega)
  have e3 : (Go.Lib.decDigits 1) = [49] := by rw [Go.Lib.decDigits]; rfl
  have e4 : (n : Int) / 4294967296 % 4294967296 = ((n / 4294967296 : Nat) : Int) := by omega
  simp only [fK.f, iJ.f, gy.f]
  rw [if_pos (by omega), if_neg (by omega), lo_half n (by omega), e4, show k + 8 = k + 5 + 3 from rfl, Ph (k + 5) n (by omega)]
  simp only [Option.bind_some, gH.f]
  rw [show k + 5 + 3 = k + 8 from rfl, norm_lb k n (by omega), Option.bind_some]
  dsimp only
  rw [e1', Option.bind_some, if_neg (by decide), e2', Option.bind_some, e3, if_pos (by rw [Lib.toList_data]), Option.bind_some]
  rw [show Go.Lib.itoa (n : Int) = Go.Lib.decDigits n from by unfold Go.Lib.itoa; rw [if_neg (by omega), Int.toNat_natCast]]
end Go.Proofs.YtggelekooacmnaaDoor.Pure
set_option linter.unusedVariables false
set_option linter.unusedSimpArgs false
namespace Go.Proofs.YtggelekooacmnaaDoor.Pure
open Go.RowKit Go.Proofs.YtggelekooacmnaaDoor.Q Go.Proofs.YtggelekooacmnaaDoorW.aQ Go.Proofs.YtggelekooacmnaaDoorW.bH Go.Proofs.YtggelekooacmnaaDoorW.bL
theorem rcmp_l0 (l m : List Int) (hb : l.length ≤ 1000) : ∀ (d i : Nat), i + d = l.length → i ≤ m.length → Ev (fun k => bX.l0 k l m i) (cmpL (l.drop i) (m.drop i)) := by
  have fin : ∀ (i : Nat), (i = l.length ∨ i = m.length) → i ≤ l.length → i ≤ m.length → ∀ k, bX.j1 (k + 1) l m i false = some (cmpL (l.drop i) (m.drop i)) := by
    intro i hi h1 h2 k
    simp only [bX.j1]
    rw [if_neg (by decide)]
    by_cases c1 : i = l.length
    · by_cases c2 : i = m.length
      · rw [if_neg (by omega), if_neg (by omega), List.drop_eq_nil_of_le (by omega), List.drop_eq_nil_of_le (by omega)]; rfl
      · rw [if_pos (by omega), List.drop_eq_nil_of_le (show l.length ≤ i by omega), List.drop_eq_getElem_cons (show i < m.length by omega)]; rfl
    · rw [if_neg (by omega), if_pos (by omega), List.drop_eq_nil_of_le (show m.length ≤ i by omega), List.drop_eq_getElem_cons (show i < l.length by omega)]; rfl
  intro d
  induction d with
  | zero =>
    intro i hi hm
    refine ⟨2, fun k hk => ?_⟩
    obtain ⟨k, rfl⟩ : ∃ j, k = j + 2 := ⟨k - 2, by omega⟩
    simp only [bX.l0]
    rw [if_neg (by omega), fin i (by omega) (by omega) hm]
  | succ d IH =>
    intro i hi hm
    have hlt : i < l.length := by omega
    by_cases h : i < m.length
    · obtain ⟨K2, e2⟩ := IH (i + 1) (by omega) (by omega)
      refine ⟨K2 + 2, fun k hk => ?_⟩
      obtain ⟨k, rfl⟩ : ∃ j, k = j + 2 := ⟨k - 2, by omega⟩
      have e2' := e2 k (by omega)
      dsimp only at e2'
      have r1 : rd l (i : Int) = l[i] := by simp [rd, List.getD, hlt]
      have r2 : rd m (i : Int) = m[i] := by simp [rd, List.getD, h]
      simp only [bX.l0]
      rw [if_pos (by omega), decide_eq_true (show (i : Int) < (m.length : Int) by omega)]
      simp only [bX.j1]
      rw [if_pos trivial, if_pos (by omega), if_pos (by omega), if_pos (by omega), r1, r2, iw (by omega), e2', List.drop_eq_getElem_cons hlt, List.drop_eq_getElem_cons h]
      simp only [cmpL]
      split
      · rfl
      · split <;> rfl
    · refine ⟨2, fun k hk => ?_⟩
      obtain ⟨k, rfl⟩ : ∃ j, k = j + 2 := ⟨k - 2, by omega⟩
      simp only [bX.l0]
      rw [if_pos (by omega), decide_eq_false (show ¬ (i : Int) < (m.length : Int) by omega), fin i (by omega) (by omega) hm]
def tlV (G : List (List UInt8)) : List UInt8 := (G.map (fun x => 44 :: 32 :: x)).flatten
theorem tlV_cons (x : List UInt8) (G : List (List UInt8)) : tlV (x :: G) = 44 :: 32 :: (x ++ tlV G) := by simp [tlV]
theorem QS : ∀ (x : List UInt8) (G : List (List UInt8)), oH (x :: G) = x ++ tlV G
  | x, [] => by simp [oH, tlV]
  | x, y :: G => by
    have ih := QS y G
    simp only [oH] at ih ⊢
    rw [ih]
    simp [tlV]
theorem rtext_l0 (q : Int) (hq : q = 5 ∨ q = 6) (a1 a2 a3 : Int) (ts : List S24) (vs : List S51) (v0 : Int) (hts : 0 < ts.length) (hl5 : q = 5 → vs.length = ts.length) (h4 : vs.length ≤ 4) (G : List (List UInt8)) (hG : G.length = vs.length) (hb : ∀ x ∈ G, x.length ≤ 1000000000)
    (ih : ∀ (i : Nat) (h : i < vs.length) (h' : i < G.length), Ev (at2 bg.f (if q = 5 then ag ts (i : Int) else ag ts 0) vs[i]) ⟨G[i].toArray⟩) :
    ∀ (d i : Nat) (p : List UInt8), 1 ≤ i → p.length ≤ i * 2000000000 → i + d = vs.length → Ev (fun k => bg.l0 k ⟨p.toArray⟩ i q a1 a2 a3 ts v0 vs) ⟨((if q = 5 then 40 else 91) :: (p ++ tlV (G.drop i) ++ [if q = 5 then 41 else 93])).toArray⟩ := by
  intro d
  induction d with
  | zero =>
    intro i p h1 hp hi
    refine ⟨1, fun k hk => ?_⟩
    obtain ⟨k, rfl⟩ : ∃ j, k = j + 1 := ⟨k - 1, by omega⟩
    simp only [bg.l0]
    rw [if_neg (by omega), List.drop_eq_nil_of_le (by omega)]
    have e : ∀ c : UInt8, ((⟨#[c]⟩ : ByteArray) ++ ⟨p.toArray⟩).size = 1 + p.length := by intro c; rw [ByteArray.size_append, qg]; rfl
    rcases hq with rfl | rfl
    · rw [if_pos rfl, qg, if_pos (by omega), e, if_pos (by omega)]
      refine congrArg some (ba_eq ?_)
      simp [tlV]
    · rw [if_neg (by decide), qg, if_pos (by omega), e, if_pos (by omega)]
      refine congrArg some (ba_eq ?_)
      simp [tlV]
  | succ d IH =>
    intro i p h1 hp hi
    have hlt : i < vs.length := by omega
    have hltG : i < G.length := by omega
    obtain ⟨K1, e1⟩ := ih i hlt hltG
    have hx := hb _ (List.getElem_mem hltG)
    obtain ⟨K2, e2⟩ := IH (i + 1) (p ++ 44 :: 32 :: G[i]) (by omega) (by simp only [List.length_append, List.length_cons]; rw [Nat.add_mul]; omega) (by omega)
    refine ⟨max K1 K2 + 1, fun k hk => ?_⟩
    obtain ⟨k, rfl⟩ : ∃ j, k = j + 1 := ⟨k - 1, by omega⟩
    have e1' := e1 k (by omega)
    have e2' := e2 k (by omega)
    dsimp only [at2] at e1' e2'
    have hp2 : ((⟨p.toArray⟩ : ByteArray) ++ (⟨#[44, 32]⟩ : ByteArray)) ++ (⟨G[i].toArray⟩ : ByteArray) = ⟨(p ++ 44 :: 32 :: G[i]).toArray⟩ := ba_eq (by simp)
    have hs2 : ((⟨p.toArray⟩ : ByteArray) ++ (⟨#[44, 32]⟩ : ByteArray)).size = p.length + 2 := by rw [ByteArray.size_append, qg]; rfl
    have ht : tlV (G.drop i) = 44 :: 32 :: (G[i] ++ tlV (G.drop (i + 1))) := by
      rw [List.drop_eq_getElem_cons hltG, tlV_cons]
    rw [ht]
    simp only [bg.l0]
    rcases hq with rfl | rfl
    · have hl5 := hl5 rfl
      rw [if_pos rfl] at e1'
      rw [if_pos (by omega), if_pos (by omega), if_pos rfl, if_pos (by omega), if_pos (by omega), if_pos (by omega), qg, if_pos (by omega), rdV hlt, e1', Option.bind_some, hs2, qg, if_pos (by omega), hp2, iw (by omega), e2']
      simp only [List.append_assoc, List.cons_append]
    · rw [if_neg (by decide)] at e1'
      rw [if_pos (by omega), if_pos (by omega), if_neg (by decide), if_pos (by omega), qg, if_pos (by omega), if_pos (by omega), rdV hlt, e1', Option.bind_some, hs2, qg, if_pos (by omega), hp2, iw (by omega), e2']
      simp only [List.append_assoc, List.cons_append]
theorem QT (q : Int) (hq : q = 5 ∨ q = 6) (a1 a2 a3 : Int) (ts : List S24) (vs : List S51) (v0 : Int) (hts : 0 < ts.length) (hl5 : q = 5 → vs.length = ts.length) (h4 : vs.length ≤ 4) (G : List (List UInt8)) (hG : G.length = vs.length) (hb : ∀ x ∈ G, x.length ≤ 1000000000)
    (ih : ∀ (i : Nat) (h : i < vs.length) (h' : i < G.length), Ev (at2 bg.f (if q = 5 then ag ts (i : Int) else ag ts 0) vs[i]) ⟨G[i].toArray⟩) :
    Ev (fun k => bg.f k q a1 a2 a3 ts v0 vs) ⟨((if q = 5 then 40 else 91) :: (oH G ++ [if q = 5 then 41 else 93])).toArray⟩ := by
  have main : Ev (fun k => bg.l0 k ⟨#[]⟩ 0 q a1 a2 a3 ts v0 vs) ⟨((if q = 5 then 40 else 91) :: (oH G ++ [if q = 5 then 41 else 93])).toArray⟩ := by
    by_cases h0 : vs.length = 0
    · have hg : G = [] := List.eq_nil_of_length_eq_zero (by omega)
      refine ⟨1, fun k hk => ?_⟩
      obtain ⟨k, rfl⟩ : ∃ j, k = j + 1 := ⟨k - 1, by omega⟩
      simp only [bg.l0]
      have e0 : ((⟨#[]⟩ : ByteArray)).size = 0 := rfl
      have e : ∀ c : UInt8, ((⟨#[c]⟩ : ByteArray) ++ ⟨#[]⟩).size = 1 := by intro c; rfl
      rw [if_neg (by omega), hg]
      rcases hq with rfl | rfl
      · rw [if_pos rfl, e0, if_pos (by omega), e, if_pos (by omega)]
        refine congrArg some (ba_eq ?_)
        simp [oH]
      · rw [if_neg (by decide), e0, if_pos (by omega), e, if_pos (by omega)]
        refine congrArg some (ba_eq ?_)
        simp [oH]
    · have hlt : 0 < vs.length := by omega
      have hltG : 0 < G.length := by omega
      obtain ⟨K1, e1⟩ := ih 0 hlt hltG
      have hx := hb _ (List.getElem_mem hltG)
      obtain ⟨K2, e2⟩ := rtext_l0 q hq a1 a2 a3 ts vs v0 hts hl5 h4 G hG hb ih (vs.length - 1) 1 G[0] (by omega) (by omega) (by omega)
      refine ⟨max K1 K2 + 1, fun k hk => ?_⟩
      obtain ⟨k, rfl⟩ : ∃ j, k = j + 1 := ⟨k - 1, by omega⟩
      have e1' := e1 k (by omega)
      have e2' := e2 k (by omega)
      dsimp only [at2] at e1' e2'
      have hg : oH G = G[0] ++ tlV (G.drop 1) := by
        have : G = G[0] :: G.drop 1 := by
          have h := List.drop_eq_getElem_cons hltG
          rwa [List.drop_zero] at h
        conv => lhs; rw [this]
        exact QS _ _
      have hp2 : (⟨#[]⟩ : ByteArray) ++ (⟨G[0].toArray⟩ : ByteArray) = ⟨G[0].toArray⟩ := ba_eq (by simp)
      have e0 : ((⟨#[]⟩ : ByteArray)).size = 0 := rfl
      have hw : wrap64 (0 + 1) = ((1 : Nat) : Int) := by unfold wrap64; omega
      have hr : aX vs 0 = vs[0] := rdV0 hlt
      simp only [bg.l0]
      rw [hg]
      rcases hq with rfl | rfl
      · have hl5 := hl5 rfl
        rw [if_pos rfl] at e1'
        rw [show (((0 : Nat) : Int)) = 0 from rfl] at e1'
        rw [if_pos (by omega), if_pos (by omega), if_pos rfl, if_pos (by omega), if_pos (by omega), if_neg (by omega), hr, e1', Option.bind_some, e0, qg, if_pos (by omega), hp2, hw, e2']
      · rw [if_neg (by decide)] at e1'
        rw [if_pos (by omega), if_pos (by omega), if_neg (by decide), if_neg (by omega), if_pos (by omega), hr, e1', Option.bind_some, e0, qg, if_pos (by omega), hp2, hw, e2']
  obtain ⟨K, e⟩ := main
  refine ⟨K + 2, fun k hk => ?_⟩
  obtain ⟨k, rfl⟩ : ∃ j, k = j + 2 := ⟨k - 2, by omega⟩
  have e' := e k (by omega)
  dsimp only at e'
  have hj : bg.j0 (k + 1) true q a1 a2 a3 ts v0 vs = _ := (by simp only [bg.j0, if_true]; exact e')
  simp only [bg.f]
  rcases hq with rfl | rfl
  · rw [if_neg (by decide), if_pos rfl]; exact hj
  · rw [if_neg (by decide), if_neg (by decide)]; exact hj
theorem rtext_ev (n : Nat) : ∀ {t : S24} {v : S51}, n ≤ 10 → Vt n t → t.f0 ≠ 3 → t.f0 ≠ 4 → chk n t v = 0 → Ev (at2 bg.f t v) (vB n t v) := by
  induction n with
  | zero => intro t v _ h; cases h
  | succ n ih =>
    intro t v hn h h3' h4' hc
    obtain ⟨v0, vs⟩ := v
    cases h with
    | bool =>
      refine ⟨1, fun k hk => ?_⟩
      obtain ⟨k, rfl⟩ : ∃ j, k = j + 1 := ⟨k - 1, by omega⟩
      simp only [at2, bg.f, vB, txV]
      by_cases h1 : v0 = 1
      · subst h1; simp
      · simp [h1]
    | nat => exact absurd rfl h3'
    | real => exact absurd rfl h4'
    | int _ lo hi h1 h2 h3 =>
      obtain ⟨_, _, _, hr⟩ := uk (by simp) (by simp) hc
      have := hr (by simp) (by simp)
      dsimp only at this
      obtain ⟨K, e⟩ := U8 (a := v0) (by omega) (by omega)
      dsimp only at e
      refine ⟨K + 2, fun k hk => ?_⟩
      obtain ⟨k, rfl⟩ : ∃ j, k = j + 2 := ⟨k - 2, by omega⟩
      have e' := e k (by omega)
      simp only [at2, bg.f, bg.j0, vB, txV]
      simp [e']
    | lst _ m x h1 h2 h3 h4 =>
      obtain ⟨_, hl, ha⟩ := wH hc
      dsimp only at hl ha
      have hr := QT 6 (.inr rfl) 0 0 m [x] vs v0 (by simp) (by omega) (by omega) (vs.map (txV n x)) (by simp) (fun y hy => by
          obtain ⟨z, hz, rfl⟩ := List.mem_map.1 hy
          exact DY (by omega) h3 (by omega) (by omega) (ha z hz)) (fun i hi hi' => by
          rw [if_neg (by decide), rd1, List.getElem_map]
          exact ih (by omega) h3 (by omega) (by omega) (ha _ (List.getElem_mem hi)))
      have e2 : (vB (n + 1) ⟨6, 0, 0, m, [x]⟩ ⟨v0, vs⟩) = ⟨((if (6 : Int) = 5 then 40 else 91) :: (oH (vs.map (txV n x)) ++ [if (6 : Int) = 5 then 41 else 93])).toArray⟩ := by
        simp [vB, txV, rd1]
      rw [e2]
      exact hr
    | tup _ l h1 h2 h3 h4 =>
      obtain ⟨_, hl, ha⟩ := wG hc
      dsimp only at hl ha
      have hr := QT 5 (.inl rfl) 0 0 0 l vs v0 (by omega) (fun _ => hl) (by omega) (List.zipWith (txV n) l vs) (by simp; omega) (fun y hy => by
          obtain ⟨i, hi, e⟩ := List.getElem_of_mem hy
          rw [List.length_zipWith] at hi
          rw [List.getElem_zipWith] at e
          rw [← e]
          exact DY (by omega) (h3 _ (List.getElem_mem (by omega))) (h4 _ (List.getElem_mem (by omega))).1 (h4 _ (List.getElem_mem (by omega))).2 (ha i (by omega) (by omega))) (fun i hi hi' => by
          rw [if_pos rfl, rdT (by omega), List.getElem_zipWith]
          exact ih (by omega) (h3 _ (List.getElem_mem _)) (h4 _ (List.getElem_mem _)).1 (h4 _ (List.getElem_mem _)).2 (ha i (by omega) hi))
      have e2 : (vB (n + 1) ⟨5, 0, 0, 0, l⟩ ⟨v0, vs⟩) = ⟨((if (5 : Int) = 5 then 40 else 91) :: (oH (List.zipWith (txV n) l vs) ++ [if (5 : Int) = 5 then 41 else 93])).toArray⟩ := by
        simp [vB, txV]
      rw [e2]
      exact hr
theorem Vp {t : S24} {v : S51} (hv : Vt 10 t) (h4 : t.f0 ≠ 4) (hc : chk 10 t v = 0) (hw : v.f0 ≤ 9223372036854775807) : ∃ s : ByteArray, Ev (at2 bg.f t v) s ∧ Ev (at2 dw.f t v) s := by
  by_cases h3 : t.f0 = 3
  · obtain ⟨v0, vs⟩ := v
    have h5 : ¬ t.f0 = 5 := by omega
    have h6 : (t.f0 == 6) = false := by simp; omega
    have h5' : (t.f0 == 5) = false := by simp; omega
    have h1 : ¬ t.f0 = 1 := by omega
    obtain ⟨_, _, hn, _⟩ := uk h5 (by omega) hc
    have hn := hn h3
    dsimp only at hn hw
    obtain ⟨K, e⟩ := Rh hn hw
    dsimp only at e
    refine ⟨⟨(Go.Lib.itoa v0).toArray⟩, ⟨K + 2, fun k hk => ?_⟩, ⟨2, fun k hk => ?_⟩⟩ <;> obtain ⟨k, rfl⟩ : ∃ j, k = j + 2 := ⟨k - 2, by omega⟩
    · have e' := e k (by omega)
      simp only [at2, bg.f, bg.j0]
      rw [if_neg h1, if_neg h5, h6, if_neg (by decide), e', Option.bind_some]
    · simp only [at2, dw.f, dw.j0]
      rw [if_neg h5, h6, if_neg (by decide), if_neg h1]
      unfold lh.f
      rw [if_pos (by omega), Option.bind_some]
  · exact ⟨vB 10 t v, rtext_ev 10 (by omega) hv h3 h4 hc, vform_ev 10 (by omega) hv h3 h4 hc⟩
end Go.Proofs.YtggelekooacmnaaDoor.Pure
