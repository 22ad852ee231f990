import Derived.Test.YtggelekooacmnaaVbu10
import Derived.Test.YtggelekooacmnaaVb19
set_option linter.unusedVariables false
set_option linter.unusedSimpArgs false
namespace Go.Proofs.Ytggelekooacmnaa.Pure
open Go.RowKit Go.Proofs.Ytggelekooacmnaa.Q Go.Proofs.YtggelekooacmnaaW.bS Go.Proofs.YtggelekooacmnaaW.eQ
theorem sameV_l0 (v0 w0 : Int) (vs : List S31) (hl : vs.length ≤ 1000) (ih : ∀ v ∈ vs, Ev (fun k => bI.f k v.f0 v.f1 v.f0 v.f1) true) : ∀ (d i : Nat), i + d = vs.length → Ev (fun k => bI.l0 k i v0 vs w0 vs) true := by
  intro d
  induction d with
  | zero =>
    intro i hi
    refine ⟨1, fun k hk => ?_⟩
    obtain ⟨k, rfl⟩ : ∃ j, k = j + 1 := ⟨k - 1, by omega⟩
    simp only [bI.l0]
    rw [if_neg (by omega)]
  | succ d IH =>
    intro i hi
    have hlt : i < vs.length := by omega
    obtain ⟨K1, e1⟩ := ih vs[i] (List.getElem_mem hlt)
    obtain ⟨K2, e2⟩ := IH (i + 1) (by omega)
    refine ⟨max K1 K2 + 1, fun k hk => ?_⟩
    obtain ⟨k, rfl⟩ : ∃ j, k = j + 1 := ⟨k - 1, by omega⟩
    have e1' := e1 k (by omega)
    have e2' := e2 k (by omega)
    dsimp only at e1' e2'
    simp only [bI.l0]
    rw [if_pos (by omega), if_pos (by omega), if_pos (by omega), rdV hlt, e1', Option.bind_some, if_pos rfl, kT (by omega), e2']
theorem sameV (m : Nat) : ∀ {v : S31}, Bv m v → Ev (fun k => bI.f k v.f0 v.f1 v.f0 v.f1) true := by
  induction m with
  | zero => intro v h; exact h.elim
  | succ m ih =>
    intro v h
    obtain ⟨K, e⟩ := sameV_l0 v.f0 v.f0 v.f1 h.1 (fun x hx => ih (h.2 x hx)) v.f1.length 0 (by omega)
    refine ⟨K + 2, fun k hk => ?_⟩
    obtain ⟨k, rfl⟩ : ∃ j, k = j + 2 := ⟨k - 2, by omega⟩
    simp only [bI.f]
    rw [if_pos trivial, show ((v.f1.length : Int) != (v.f1.length : Int)) = false from by simp]
    simp only [bI.j0]
    rw [if_neg (by decide)]
    exact e k (by omega)
def inr : List Int → List S44 → Prop
  | x :: xs, c :: cs => c.f1 ≤ x ∧ x ≤ c.f2 ∧ inr xs cs
  | [], [] => True
  | _, _ => False
theorem Np : ∀ {xs ys : List Int} {cs ds : List S44}, inr xs cs → inr ys ds → inr (xs ++ ys) (cs ++ ds)
  | [], _, [], _, _, h => h
  | _ :: _, _, _ :: _, _, h, h' => ⟨h.1, h.2.1, Np h.2.2 h'⟩
  | [], _, _ :: _, _, h, _ => h.elim
  | _ :: _, _, [], _, h, _ => h.elim
theorem V9 : ∀ {xs : List Int} {cs : List S44}, inr xs cs → xs.length = cs.length
  | [], [], _ => rfl
  | _ :: _, _ :: _, h => by simp [V9 h.2.2]
  | [], _ :: _, h => h.elim
  | _ :: _, [], h => h.elim
theorem inr_at : ∀ {xs : List Int} {cs : List S44}, inr xs cs → ∀ (i : Nat) (h : i < xs.length) (h' : i < cs.length), (cs[i]).f1 ≤ xs[i] ∧ xs[i] ≤ (cs[i]).f2
  | _ :: _, _ :: _, h, 0, _, _ => ⟨h.1, h.2.1⟩
  | _ :: _, _ :: _, h, i + 1, h1, h2 => inr_at h.2.2 i (Nat.lt_of_succ_lt_succ h1) (Nat.lt_of_succ_lt_succ h2)
  | [], _, _, i, h1, _ => absurd h1 (Nat.not_lt_zero i)
  | _ :: _, [], _, i, _, h2 => absurd h2 (Nat.not_lt_zero i)
theorem Xg {n : Nat} : ∀ {ts : List S27} {vs : List S31}, ts.length = vs.length → (∀ (i : Nat) (h : i < ts.length) (h' : i < vs.length), inr (cel n ts[i] vs[i]) (prt n ts[i])) → inr (zq (cel n) ts vs) (ts.map (prt n)).flatten
  | [], [], _, _ => trivial
  | t :: ts, v :: vs, hl, h => Np (h 0 (by simp) (by simp)) (Xg (by simpa using hl) (fun i h1 h2 => h (i + 1) (Nat.succ_lt_succ h1) (Nat.succ_lt_succ h2)))
  | [], _ :: _, hl, _ => by simp at hl
  | _ :: _, [], hl, _ => by simp at hl
theorem ZP {x : Int} {cs : List S44} {c : S44} (hc : cs = [c]) (h : c.f1 ≤ x ∧ x ≤ c.f2) : ∀ d, inr (List.replicate d x) (List.replicate d cs).flatten
  | 0 => trivial
  | d + 1 => by
    simp only [List.replicate_succ, List.flatten_cons]
    rw [hc]
    exact ⟨h.1, h.2, by rw [← hc]; exact ZP hc h d⟩
theorem ZQ {cs : List S44} {c : S44} (hc : cs = [c]) : ∀ (vs : List S31), (∀ v ∈ vs, c.f1 ≤ v.f0 ∧ v.f0 ≤ c.f2) → inr (vs.map (fun y => y.f0)) (List.replicate vs.length cs).flatten
  | [], _ => trivial
  | v :: vs, h => by
    simp only [List.map_cons, List.length_cons, List.replicate_succ, List.flatten_cons]
    rw [hc]
    have h1 := h v List.mem_cons_self
    exact ⟨h1.1, h1.2, by rw [← hc]; exact ZQ hc vs (fun y hy => h y (List.mem_cons_of_mem v hy))⟩
theorem inr_cel (n : Nat) : ∀ {t : S27} {v : S31}, Vt n t → t.f0 ≠ 3 → t.f0 ≠ 4 → chk n t v = 0 → inr (cel n t v) (prt n t) := by
  induction n with
  | zero => intro t v h; cases h
  | succ n ih =>
    intro t v h k3 k4 hc
    cases h with
    | bool =>
      have := (G9 (by decide) (by decide) hc).2.1 rfl
      simp [cel, prt, inr]; omega
    | int _ lo hi h1 h2 h3 =>
      have := (G9 (by simp) (by simp) hc).2.2.2 (by simp) (by simp)
      simp only at this
      simp [cel, prt, inr]; omega
    | nat => exact absurd rfl k3
    | real => exact absurd rfl k4
    | tup _ l h1 h2 h3 h4 =>
      obtain ⟨_, hl, ha⟩ := Qw hc
      rw [prt5, show cel (n + 1) ⟨5, 0, 0, 0, l⟩ v = zq (cel n) l v.f1 from by simp [cel]]
      exact Xg hl.symm (fun i h1 h2 => ih (h3 _ (List.getElem_mem h1)) (h4 _ (List.getElem_mem h1)).1 (h4 _ (List.getElem_mem h1)).2 (ha i h1 h2))
    | lst _ m x h1 h2 h3 h4 =>
      obtain ⟨_, hl, ha⟩ := Qx hc
      have hx : ∃ c, prt n x = [c] ∧ (c.f1 ≤ zr x ∧ zr x ≤ c.f2) ∧ ∀ y ∈ v.f1, c.f1 ≤ y.f0 ∧ y.f0 ≤ c.f2 := by
        cases n with
        | zero => cases h3
        | succ n =>
          cases h3 with
          | bool => exact ⟨_, by simp [prt]; rfl, by simp [zr], fun y hy => by have := (G9 (by decide) (by decide) (ha y hy)).2.1 rfl; simpa using this⟩
          | int _ lo hi h1 h2 h3 => exact ⟨_, by simp [prt]; rfl, by simp [zr]; omega, fun y hy => by have := (G9 (by simp) (by simp) (ha y hy)).2.2.2 (by simp) (by simp); simpa using this⟩
          | _ => simp at h4
      obtain ⟨c, hp, hz, hy⟩ := hx
      rw [prt6, show cel (n + 1) ⟨6, 0, 0, m, [x]⟩ v = (v.f1.length : Int) :: (v.f1.map (fun x => x.f0) ++ List.replicate (m.toNat - v.f1.length) (zr x)) from by simp [cel, rd1]]
      refine ⟨by simp, by simpa using hl, ?_⟩
      have e : m.toNat = v.f1.length + (m.toNat - v.f1.length) := by omega
      have e2 : (List.replicate m.toNat (prt n x)).flatten = (List.replicate v.f1.length (prt n x)).flatten ++ (List.replicate (m.toNat - v.f1.length) (prt n x)).flatten := by
        conv => lhs; rw [e]
        rw [← List.replicate_append_replicate, List.flatten_append]
      rw [e2]
      exact Np (ZQ hp _ hy) (ZP hp hz _)
theorem Xh : Ev eP.f true := Ev.of (k := 30) eP.mono (by decide +kernel)
theorem back_l0 (xs : List Int) (cs : List S44) (h : inr xs cs) (hb : xs.length ≤ 1000) : ∀ (d i : Nat), i + d = xs.length → Ev (fun k => aU.l0 k xs cs i) true := by
  intro d
  induction d with
  | zero =>
    intro i hi
    obtain ⟨K, e⟩ := Xh
    refine ⟨K + 1, fun k hk => ?_⟩
    obtain ⟨k, rfl⟩ : ∃ j, k = j + 1 := ⟨k - 1, by omega⟩
    simp only [aU.l0]
    rw [if_neg (by omega), e k (by omega), Option.bind_some]
  | succ d IH =>
    intro i hi
    have hlt : i < xs.length := by omega
    have hlt' : i < cs.length := by rw [← V9 h]; exact hlt
    have hin := inr_at h i hlt hlt'
    obtain ⟨K2, e2⟩ := IH (i + 1) (by omega)
    refine ⟨K2 + 1, fun k hk => ?_⟩
    obtain ⟨k, rfl⟩ : ∃ j, k = j + 1 := ⟨k - 1, by omega⟩
    have e2' := e2 k (by omega)
    dsimp only at e2'
    have r1 : rd xs (i : Int) = xs[i] := by simp [rd, List.getD, hlt]
    have r2 : xE cs (i : Int) = cs[i] := by unfold xE; simp [List.getD, hlt']
    simp only [aU.l0]
    rw [if_pos (by omega), if_pos (by omega), if_pos (by omega), r1, r2, if_neg (by omega), if_neg (by omega), kT (by omega), e2']
theorem ValueBack : aU.Pure := by
  intro l hl hl8 hw
  obtain ⟨e0, hr⟩ := New_ok l
  obtain ⟨t, p1, ⟨K1, e1⟩, g, hr1⟩ := Type_ev 3 (s := 0) (by omega) (by omega) hr
  obtain ⟨v, p2, ⟨K2, e2⟩, hbv, hr2⟩ := some_ev 3 (s := 0) g.vt hr1
  have hv : Vt 10 t := Vt.mono (by omega) g.vt
  have hlen : (prt 10 t).length ≤ 24 := Nat.le_trans (g.J8 (by omega)) (by decide)
  have hb : Bv 10 v := Bv.mono (by omega) hbv
  obtain ⟨⟨K3, e3⟩, ⟨K4, e4⟩⟩ := Xi hv hlen g.kind.2.1 hb (by omega)
  obtain ⟨K9, e9⟩ := Xh
  dsimp only [smf, at2] at e1 e2 e3 e4
  change ∀ k, K1 ≤ k → aG.f k (l.take 1000) 0 0 3 = _ at e1
  by_cases hc : chk 10 t v = 0
  · obtain ⟨K5, e5⟩ := Z4 hv hlen g.kind.2.1 hb (by omega) hc
    obtain ⟨K6, e6⟩ := Xj hv hlen g.kind.2.1 hb (by omega) hc
    obtain ⟨K7, e7⟩ := Xk 10 (by omega) hv
    obtain ⟨K8, e8⟩ := sameV 10 hb
    have hin := inr_cel 10 hv g.kind.1 g.kind.2.1 hc
    have hcl := V9 hin
    obtain ⟨K10, e10⟩ := back_l0 _ _ hin (by omega) (cel 10 t v).length 0 (by omega)
    dsimp only [at2, at_] at e5 e6 e7 e8 e10
    refine ⟨K1 + K2 + K3 + K4 + K5 + K6 + K7 + K8 + K9 + K10 + 1, ?_⟩
    simp only [aU.f]
    rw [e0, Option.bind_some]
    dsimp only
    rw [e1 _ (by omega), Option.bind_some]
    dsimp only
    rw [e2 _ (by omega), Option.bind_some]
    dsimp only
    rw [e4 _ (by omega), Option.bind_some, if_pos hc, e5 _ (by omega), Option.bind_some]
    dsimp only
    rw [e6 _ (by omega), Option.bind_some, e7 _ (by omega), Option.bind_some]
    dsimp only
    rw [if_pos rfl, if_pos rfl, e8 _ (by omega), Option.bind_some, if_pos rfl, show (((cel 10 t v).length : Int) != ((prt 10 t).length : Int)) = false from by simp [hcl]]
    simp only [aU.j0]
    rw [if_neg (by decide)]
    exact e10 _ (by omega)
  · refine ⟨K1 + K2 + K3 + K4 + K9 + 1, ?_⟩
    simp only [aU.f]
    rw [e0, Option.bind_some]
    dsimp only
    rw [e1 _ (by omega), Option.bind_some]
    dsimp only
    rw [e2 _ (by omega), Option.bind_some]
    dsimp only
    rw [e4 _ (by omega), Option.bind_some, if_neg hc, e3 _ (by omega), Option.bind_some, if_neg hc, e9 _ (by omega), Option.bind_some]
end Go.Proofs.Ytggelekooacmnaa.Pure
