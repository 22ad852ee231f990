import Derived.Test.YtggelekooacmnaaVbu9
set_option linter.unusedVariables false
set_option linter.unusedSimpArgs false
namespace Go.Proofs.Ytggelekooacmnaa.Pure
open Go.RowKit Go.Proofs.Ytggelekooacmnaa.Q Go.Proofs.YtggelekooacmnaaW.bS Go.Proofs.YtggelekooacmnaaW.eQ
theorem Bv.up {m : Nat} : ∀ {v : S31}, Bv m v → Bv (m + 1) v := by
  induction m with
  | zero => intro v h; exact h.elim
  | succ m ih => intro v h; exact ⟨h.1, fun x hx => ih (h.2 x hx)⟩
theorem Bv.mono {m k : Nat} (h : m ≤ k) {v : S31} (hv : Bv m v) : Bv k v := by
  induction h with
  | refl => exact hv
  | step _ ih => exact ih.up
theorem J7 {l : List Int} {p s x : Int} (vs : List S31) (n : Nat) (hr : Rs l p) (hl : vs.length ≤ 100) (hv : ∀ v ∈ vs, Bv (n + 1) v) :
    ∃ (r : S31) (p' : Int), Ev (fun k => aM.j2 k l p s x vs) (r.f0, r.f1, p', s) ∧ Bv (n + 2) r ∧ r.f1.length ≤ vs.length + 1 ∧ Rs l p' := by
  obtain ⟨c, p1, e1, hr1, b1, b2, _⟩ := G8 (s := s) (a := 24) hr (by omega)
  by_cases c0 : c = 0
  · obtain ⟨y, p2, e2, hr2, _⟩ := Pick_ok (s := s) (ys := [-1, 1, 1000]) hr1 (by simp) (by simp)
    refine ⟨⟨wrap64 (x + y), vs⟩, p2, ⟨1, fun k hk => ?_⟩, ⟨by show vs.length ≤ 1000; omega, hv⟩, by simp, hr2⟩
    obtain ⟨k, rfl⟩ : ∃ j, k = j + 1 := ⟨k - 1, by omega⟩
    simp only [aM.j2]
    rw [e1, Option.bind_some]
    dsimp only
    rw [if_pos c0, e2, Option.bind_some]
  · by_cases c1 : c = 1
    · refine ⟨⟨x, vs ++ [⟨0, []⟩]⟩, p1, ⟨1, fun k hk => ?_⟩, ⟨by simp; omega, fun v hv' => ?_⟩, by simp, hr1⟩
      · obtain ⟨k, rfl⟩ : ∃ j, k = j + 1 := ⟨k - 1, by omega⟩
        simp only [aM.j2]
        rw [e1, Option.bind_some]
        dsimp only
        rw [if_neg c0, if_pos c1, if_pos (by simp; omega), Option.bind_some, if_pos (by simp; omega)]
        simp
      · simp at hv'
        rcases hv' with hv' | rfl
        · exact hv v hv'
        · exact ⟨by simp, by simp⟩
    · refine ⟨⟨x, vs⟩, p1, ⟨1, fun k hk => ?_⟩, ⟨by show vs.length ≤ 1000; omega, hv⟩, by simp, hr1⟩
      obtain ⟨k, rfl⟩ : ∃ j, k = j + 1 := ⟨k - 1, by omega⟩
      simp only [aM.j2]
      rw [e1, Option.bind_some]
      dsimp only
      rw [if_neg c0, if_neg c1]
abbrev smf (l : List Int) (p s : Int) (t : S27) : Nat → Option (Int × List S31 × Int × Int) := fun k => aM.f k l p s t.f0 t.f1 t.f2 t.f3 t.f4
theorem some_l0 (n : Nat) (ts : List S27) (h4 : ts.length ≤ 4) (l : List Int) (s a0 a1 a2 a3 : Int)
    (ih : ∀ t ∈ ts, ∀ p, Rs l p → ∃ (r : S31) (p' : Int), Ev (smf l p s t) (r.f0, r.f1, p', s) ∧ Bv (n + 1) r ∧ Rs l p') :
    ∀ (d i : Nat) (p : Int) (o : List S31), i + d = ts.length → o.length ≤ i → Rs l p → (∀ v ∈ o, Bv (n + 1) v) →
    ∃ (r : S31) (p' : Int), Ev (fun k => aM.l0 k i l p s a0 a1 a2 a3 ts 0 o) (r.f0, r.f1, p', s) ∧ Bv (n + 2) r ∧ Rs l p' := by
  intro d
  induction d with
  | zero =>
    intro i p o hi ho hr hv
    obtain ⟨r, p', ⟨K, e⟩, hb, _, hr'⟩ := J7 (s := s) (x := 0) o n hr (by omega) hv
    refine ⟨r, p', ⟨K + 1, fun k hk => ?_⟩, hb, hr'⟩
    obtain ⟨k, rfl⟩ : ∃ j, k = j + 1 := ⟨k - 1, by omega⟩
    simp only [aM.l0]
    rw [if_neg (by omega)]
    exact e k (by omega)
  | succ d IH =>
    intro i p o hi ho hr hv
    have hlt : i < ts.length := by omega
    obtain ⟨v, p1, ⟨K1, e1⟩, hb1, hr1⟩ := ih ts[i] (List.getElem_mem hlt) p hr
    obtain ⟨r, p', ⟨K2, e2⟩, hb, hr'⟩ := IH (i + 1) p1 (o ++ [v]) (by omega) (by rw [List.length_append, List.length_singleton]; omega) hr1 (by
      intro y hy
      rcases List.mem_append.1 hy with hy | hy
      · exact hv y hy
      · rw [List.mem_singleton] at hy; rw [hy]; exact hb1)
    refine ⟨r, p', ⟨max K1 K2 + 1, fun k hk => ?_⟩, hb, hr'⟩
    obtain ⟨k, rfl⟩ : ∃ j, k = j + 1 := ⟨k - 1, by omega⟩
    have e1' := e1 k (by omega)
    have e2' := e2 k (by omega)
    dsimp only [smf] at e1' e2'
    simp only [aM.l0]
    rw [if_pos (by omega), if_pos (by omega), rdT hlt, e1', Option.bind_some]
    dsimp only
    rw [if_pos (by omega), kT (by omega), etaV, e2']
theorem some_l1 (n : Nat) (x : S27) (l : List Int) (s a0 a1 a2 a3 : Int)
    (ih : ∀ p, Rs l p → ∃ (r : S31) (p' : Int), Ev (smf l p s x) (r.f0, r.f1, p', s) ∧ Bv (n + 1) r ∧ Rs l p') :
    ∀ (c : Nat) (p : Int) (o : List S31), o.length + c ≤ 10 → Rs l p → (∀ v ∈ o, Bv (n + 1) v) →
    ∃ (r : S31) (p' : Int), Ev (fun k => aM.l1 k c l p s a0 a1 a2 a3 [x] 0 o) (r.f0, r.f1, p', s) ∧ Bv (n + 2) r ∧ Rs l p' := by
  intro c
  induction c with
  | zero =>
    intro p o ho hr hv
    obtain ⟨r, p', ⟨K, e⟩, hb, _, hr'⟩ := J7 (s := s) (x := 0) o n hr (by omega) hv
    refine ⟨r, p', ⟨K + 1, fun k hk => ?_⟩, hb, hr'⟩
    obtain ⟨k, rfl⟩ : ∃ j, k = j + 1 := ⟨k - 1, by omega⟩
    simp only [aM.l1]
    rw [if_neg (by omega)]
    exact e k (by omega)
  | succ c IH =>
    intro p o ho hr hv
    obtain ⟨v, p1, ⟨K1, e1⟩, hb1, hr1⟩ := ih p hr
    obtain ⟨r, p', ⟨K2, e2⟩, hb, hr'⟩ := IH p1 (o ++ [v]) (by rw [List.length_append, List.length_singleton]; omega) hr1 (by
      intro y hy
      rcases List.mem_append.1 hy with hy | hy
      · exact hv y hy
      · rw [List.mem_singleton] at hy; rw [hy]; exact hb1)
    refine ⟨r, p', ⟨max K1 K2 + 1, fun k hk => ?_⟩, hb, hr'⟩
    obtain ⟨k, rfl⟩ : ∃ j, k = j + 1 := ⟨k - 1, by omega⟩
    have e1' := e1 k (by omega)
    have e2' := e2 k (by omega)
    dsimp only [smf] at e1' e2'
    have ec : wrap64 (((c + 1 : Nat) : Int) - 1) = (c : Int) := by unfold wrap64; omega
    simp only [aM.l1]
    rw [if_pos (by omega), if_pos (by simp), if_pos (by simp), rd1, e1', Option.bind_some]
    dsimp only
    rw [if_pos (by omega), ec, etaV, e2']
theorem some_ev (n : Nat) : ∀ {t : S27} {l : List Int} {p s : Int}, Vt n t → Rs l p → ∃ (r : S31) (p' : Int), Ev (smf l p s t) (r.f0, r.f1, p', s) ∧ Bv (n + 1) r ∧ Rs l p' := by
  induction n with
  | zero => intro t l p s h; cases h
  | succ n ih =>
    intro t l p s h hr
    cases h with
    | bool =>
      obtain ⟨x, p1, e1, hr1, _⟩ := G8 (s := s) (a := 2) hr (by omega)
      obtain ⟨r, p', ⟨K, e⟩, hb, _, hr'⟩ := J7 (s := s) (x := x) [] n hr1 (by simp) (by simp)
      refine ⟨r, p', ⟨K + 1, fun k hk => ?_⟩, hb, hr'⟩
      obtain ⟨k, rfl⟩ : ∃ j, k = j + 1 := ⟨k - 1, by omega⟩
      simp only [smf, aM.f]
      rw [if_neg (by decide), if_neg (by decide), if_pos trivial, e1, Option.bind_some]
      exact e k (by omega)
    | int _ lo hi h1 h2 h3 =>
      have em : mn hi (wrap64 (lo + 5)) = min hi (lo + 5) := by rw [mn_eq]; unfold wrap64; omega
      obtain ⟨x, p1, e1, hr1, _⟩ := KR (s := s) (lo := lo) (hi := min hi (lo + 5)) hr (by omega) (by omega) (by omega)
      obtain ⟨r, p', ⟨K, e⟩, hb, _, hr'⟩ := J7 (s := s) (x := x) [] n hr1 (by simp) (by simp)
      refine ⟨r, p', ⟨K + 1, fun k hk => ?_⟩, hb, hr'⟩
      obtain ⟨k, rfl⟩ : ∃ j, k = j + 1 := ⟨k - 1, by omega⟩
      simp only [smf, aM.f]
      rw [if_neg (by decide), if_neg (by decide), if_neg (by decide), if_pos trivial, em, e1, Option.bind_some]
      exact e k (by omega)
    | nat =>
      obtain ⟨x, p1, e1, hr1, _⟩ := G8 (s := s) (a := 4) hr (by omega)
      obtain ⟨r, p', ⟨K, e⟩, hb, _, hr'⟩ := J7 (s := s) (x := x) [] n hr1 (by simp) (by simp)
      refine ⟨r, p', ⟨K + 1, fun k hk => ?_⟩, hb, hr'⟩
      obtain ⟨k, rfl⟩ : ∃ j, k = j + 1 := ⟨k - 1, by omega⟩
      simp only [smf, aM.f]
      rw [if_neg (by decide), if_neg (by decide), if_neg (by decide), if_neg (by decide), e1, Option.bind_some]
      exact e k (by omega)
    | real =>
      obtain ⟨x, p1, e1, hr1, _⟩ := G8 (s := s) (a := 4) hr (by omega)
      obtain ⟨r, p', ⟨K, e⟩, hb, _, hr'⟩ := J7 (s := s) (x := x) [] n hr1 (by simp) (by simp)
      refine ⟨r, p', ⟨K + 1, fun k hk => ?_⟩, hb, hr'⟩
      obtain ⟨k, rfl⟩ : ∃ j, k = j + 1 := ⟨k - 1, by omega⟩
      simp only [smf, aM.f]
      rw [if_neg (by decide), if_neg (by decide), if_neg (by decide), if_neg (by decide), e1, Option.bind_some]
      exact e k (by omega)
    | tup _ ts h1 h2 h3 h4 =>
      obtain ⟨r, p', ⟨K, e⟩, hb, hr'⟩ := some_l0 n ts h2 l s 5 0 0 0 (fun t ht p hp => ih (h3 t ht) hp) ts.length 0 p [] (by omega) (by simp) hr (by simp)
      refine ⟨r, p', ⟨K + 1, fun k hk => ?_⟩, hb, hr'⟩
      obtain ⟨k, rfl⟩ : ∃ j, k = j + 1 := ⟨k - 1, by omega⟩
      simp only [smf, aM.f]
      rw [if_pos trivial]
      exact e k (by omega)
    | lst _ m x h1 h2 h3 h4 =>
      have em : wrap64 (m + 1) = m + 1 := by unfold wrap64; omega
      obtain ⟨c, p1, e1, hr1, b1, b2, _⟩ := G8 (s := s) (a := m + 1) hr (by omega)
      have b2 := b2 (by omega)
      obtain ⟨r, p', ⟨K, e⟩, hb, hr'⟩ := some_l1 n x l s 6 0 0 m (fun p hp => ih h3 hp) c.toNat p1 [] (by simp; omega) hr1 (by simp)
      refine ⟨r, p', ⟨K + 1, fun k hk => ?_⟩, hb, hr'⟩
      obtain ⟨k, rfl⟩ : ∃ j, k = j + 1 := ⟨k - 1, by omega⟩
      have e' := e k (by omega)
      dsimp only at e'
      simp only [smf, aM.f]
      rw [if_neg (by decide), if_pos trivial, em, e1, Option.bind_some]
      dsimp only
      rw [show c = (c.toNat : Int) from by omega]
      exact e'
end Go.Proofs.Ytggelekooacmnaa.Pure
