/- Lemmas for: l9 -/
import Derived.Deep.Cut
import Derived.SizedLaws
import Derived.ChangeSlices
import Derived.Test.YtggelekooacmnaaDoorVt2
import Derived.Test.YtggelekooacmnaaDoorVt4
import Derived.Test.YtggelekooacmnaaDoorVt6
import Derived.Test.YtggelekooacmnaaDoorVt7
import Derived.Test.YtggelekooacmnaaDoorVt8
set_option linter.unusedVariables false
set_option linter.unusedSimpArgs false
namespace Go.Proofs.YtggelekooacmnaaDoor.Pure
open Go.RowKit Go.Proofs.YtggelekooacmnaaDoor.Q Go.Proofs.YtggelekooacmnaaDoorW.aJ Go.Proofs.YtggelekooacmnaaDoorW.bu Go.Proofs.YtggelekooacmnaaDoorW.bB
-- a value that is drawn of any bounded type
theorem YM {l : List Int} {p s lo hi : Int} (h : Rs l p) (h1 : -100000 ≤ lo) (h2 : lo ≤ 100000) (h3 : -100000 ≤ hi) (h4 : hi ≤ 100000) : ∃ x p', dC.f l p s lo hi = some (x, p', s) ∧ Rs l p' := by
  unfold dC.f
  have e : wrap64 (wrap64 (hi - lo) + 1) = hi - lo + 1 := by unfold wrap64; omega
  obtain ⟨x, p', e1, h', hx0, hx1, _⟩ := uO (s := s) (a := hi - lo + 1) h (by omega)
  rw [e, e1, Option.bind_some]
  exact ⟨_, _, rfl, h'⟩
theorem Bv.up {m : Nat} : ∀ {v : S51}, Bv m v → Bv (m + 1) v := by
  induction m with
  | zero => intro v h; exact h.elim
  | succ m ih => intro v h; exact ⟨h.1, fun x hx => ih (h.2 x hx)⟩
theorem Bv.mono {m k : Nat} (h : m ≤ k) {v : S51} (hv : Bv m v) : Bv k v := by
  induction h with
  | refl => exact hv
  | step _ ih => exact ih.up
theorem Cz {l : List Int} {p s x : Int} (vs : List S51) (n : Nat) (hr : Rs l p) (hx : x ≤ 9223372036854775807) (hl : vs.length ≤ 100) (hv : ∀ v ∈ vs, Bv (n + 1) v) :
    ∃ (r : S51) (p' : Int), Ev (fun k => aK.j2 k l p s x vs) (r.f0, r.f1, p', s) ∧ Bv (n + 2) r ∧ r.f0 ≤ 9223372036854775807 ∧ Rs l p' := by
  obtain ⟨c, p1, e1, hr1, b1, b2, _⟩ := uO (s := s) (a := 24) hr (by omega)
  by_cases c0 : c = 0
  · obtain ⟨y, p2, e2, hr2, _⟩ := Gm (s := s) (ys := [-1, 1, 1000]) hr1 (by simp) (by simp)
    refine ⟨⟨wrap64 (x + y), vs⟩, p2, ⟨1, fun k hk => ?_⟩, ⟨by show vs.length ≤ 1000; omega, hv⟩, by dsimp only; unfold wrap64; omega, hr2⟩
    obtain ⟨k, rfl⟩ : ∃ j, k = j + 1 := ⟨k - 1, by omega⟩
    simp only [aK.j2]
    rw [e1, Option.bind_some]
    dsimp only
    rw [if_pos c0, e2, Option.bind_some]
  · by_cases c1 : c = 1
    · refine ⟨⟨x, vs ++ [⟨0, []⟩]⟩, p1, ⟨1, fun k hk => ?_⟩, ⟨by simp; omega, fun v hv' => ?_⟩, hx, hr1⟩
      · obtain ⟨k, rfl⟩ : ∃ j, k = j + 1 := ⟨k - 1, by omega⟩
        simp only [aK.j2]
        rw [e1, Option.bind_some]
        dsimp only
        rw [if_neg c0, if_pos c1, if_pos (by simp; omega), Option.bind_some, if_pos (by simp; omega)]
        simp
      · simp at hv'
        rcases hv' with hv' | rfl
        · exact hv v hv'
        · exact ⟨by simp, by simp⟩
    · refine ⟨⟨x, vs⟩, p1, ⟨1, fun k hk => ?_⟩, ⟨by show vs.length ≤ 1000; omega, hv⟩, hx, hr1⟩
      obtain ⟨k, rfl⟩ : ∃ j, k = j + 1 := ⟨k - 1, by omega⟩
      simp only [aK.j2]
      rw [e1, Option.bind_some]
      dsimp only
      rw [if_neg c0, if_neg c1]
abbrev smf (l : List Int) (p s : Int) (t : S24) : Nat → Option (Int × List S51 × Int × Int) := fun k => aK.f k l p s t.f0 t.f1 t.f2 t.f3 t.f4
theorem some_l0 (n : Nat) (ts : List S24) (h4 : ts.length ≤ 10) (l : List Int) (s a0 a1 a2 a3 : Int)
    (ih : ∀ t ∈ ts, ∀ p, Rs l p → ∃ (r : S51) (p' : Int), Ev (smf l p s t) (r.f0, r.f1, p', s) ∧ Bv (n + 1) r ∧ r.f0 ≤ 9223372036854775807 ∧ Rs l p') :
    ∀ (d i : Nat) (p : Int) (o : List S51), i + d = ts.length → o.length ≤ i → Rs l p → (∀ v ∈ o, Bv (n + 1) v) →
    ∃ (r : S51) (p' : Int), Ev (fun k => aK.l0 k i l p s a0 a1 a2 a3 ts 0 o) (r.f0, r.f1, p', s) ∧ Bv (n + 2) r ∧ r.f0 ≤ 9223372036854775807 ∧ Rs l p' := by
  intro d
  induction d with
  | zero =>
    intro i p o hi ho hr hv
    obtain ⟨r, p', ⟨K, e⟩, hb, hw, hr'⟩ := Cz (s := s) (x := 0) o n hr (by omega) (by omega) hv
    refine ⟨r, p', ⟨K + 1, fun k hk => ?_⟩, hb, hw, hr'⟩
    obtain ⟨k, rfl⟩ : ∃ j, k = j + 1 := ⟨k - 1, by omega⟩
    simp only [aK.l0]
    rw [if_neg (by omega)]
    exact e k (by omega)
  | succ d IH =>
    intro i p o hi ho hr hv
    have hlt : i < ts.length := by omega
    obtain ⟨v, p1, ⟨K1, e1⟩, hb1, _, hr1⟩ := ih ts[i] (List.getElem_mem hlt) p hr
    obtain ⟨r, p', ⟨K2, e2⟩, hb, hw, hr'⟩ := IH (i + 1) p1 (o ++ [v]) (by omega) (by rw [List.length_append, List.length_singleton]; omega) hr1 (by
      intro y hy
      rcases List.mem_append.1 hy with hy | hy
      · exact hv y hy
      · rw [List.mem_singleton] at hy; rw [hy]; exact hb1)
    refine ⟨r, p', ⟨max K1 K2 + 1, fun k hk => ?_⟩, hb, hw, hr'⟩
    obtain ⟨k, rfl⟩ : ∃ j, k = j + 1 := ⟨k - 1, by omega⟩
    have e1' := e1 k (by omega)
    have e2' := e2 k (by omega)
    dsimp only [smf] at e1' e2'
    simp only [aK.l0]
    rw [if_pos (by omega), if_pos (by omega), rdT hlt, e1', Option.bind_some]
    dsimp only
    rw [if_pos (by omega), iJ (by omega), etaV, e2']
theorem some_l1 (n : Nat) (ts : List S24) (l : List Int) (s a0 a1 a2 a3 : Int)
    (ih : 0 < ts.length → ∀ p, Rs l p → ∃ (r : S51) (p' : Int), Ev (smf l p s (ag ts 0)) (r.f0, r.f1, p', s) ∧ Bv (n + 1) r ∧ r.f0 ≤ 9223372036854775807 ∧ Rs l p') :
    ∀ (c : Nat) (p : Int) (o : List S51), o.length + c ≤ 20 → Rs l p → (∀ v ∈ o, Bv (n + 1) v) →
    ∃ (r : S51) (p' : Int), Ev (fun k => aK.l1 k c l p s a0 a1 a2 a3 ts 0 o) (r.f0, r.f1, p', s) ∧ Bv (n + 2) r ∧ r.f0 ≤ 9223372036854775807 ∧ Rs l p' := by
  intro c
  induction c with
  | zero =>
    intro p o ho hr hv
    obtain ⟨r, p', ⟨K, e⟩, hb, hw, hr'⟩ := Cz (s := s) (x := 0) o n hr (by omega) (by omega) hv
    refine ⟨r, p', ⟨K + 1, fun k hk => ?_⟩, hb, hw, hr'⟩
    obtain ⟨k, rfl⟩ : ∃ j, k = j + 1 := ⟨k - 1, by omega⟩
    simp only [aK.l1]
    rw [if_neg (by omega)]
    exact e k (by omega)
  | succ c IH =>
    intro p o ho hr hv
    by_cases hts : 0 < ts.length
    · obtain ⟨v, p1, ⟨K1, e1⟩, hb1, _, hr1⟩ := ih hts p hr
      obtain ⟨r, p', ⟨K2, e2⟩, hb, hw, hr'⟩ := IH p1 (o ++ [v]) (by rw [List.length_append, List.length_singleton]; omega) hr1 (by
        intro y hy
        rcases List.mem_append.1 hy with hy | hy
        · exact hv y hy
        · rw [List.mem_singleton] at hy; rw [hy]; exact hb1)
      refine ⟨r, p', ⟨max K1 K2 + 1, fun k hk => ?_⟩, hb, hw, hr'⟩
      obtain ⟨k, rfl⟩ : ∃ j, k = j + 1 := ⟨k - 1, by omega⟩
      have e1' := e1 k (by omega)
      have e2' := e2 k (by omega)
      dsimp only [smf] at e1' e2'
      have ec : wrap64 (((c + 1 : Nat) : Int) - 1) = (c : Int) := by unfold wrap64; omega
      simp only [aK.l1]
      rw [if_pos (by omega), if_pos (by omega), if_pos (by omega), e1', Option.bind_some]
      dsimp only
      rw [if_pos (by omega), ec, etaV, e2']
    · obtain ⟨r, p', ⟨K, e⟩, hb, hw, hr'⟩ := Cz (s := s) (x := 0) o n hr (by omega) (by omega) hv
      refine ⟨r, p', ⟨K + 1, fun k hk => ?_⟩, hb, hw, hr'⟩
      obtain ⟨k, rfl⟩ : ∃ j, k = j + 1 := ⟨k - 1, by omega⟩
      simp only [aK.l1]
      rw [if_pos (by omega), if_neg (by omega)]
      exact e k (by omega)
theorem Tt (n : Nat) : ∀ {t : S24} {l : List Int} {p s : Int}, Bw n t → Rs l p → ∃ (r : S51) (p' : Int), Ev (smf l p s t) (r.f0, r.f1, p', s) ∧ Bv (n + 1) r ∧ r.f0 ≤ 9223372036854775807 ∧ Rs l p' := by
  induction n with
  | zero => intro t l p s h; exact h.elim
  | succ n ih =>
    intro t l p s h hr
    have hw := h.1
    by_cases k5 : t.f0 = 5
    · obtain ⟨r, p', ⟨K, e⟩, hb, hw', hr'⟩ := some_l0 n t.f4 (by omega) l s t.f0 t.f1 t.f2 t.f3 (fun x hx p hp => ih (h.2 x hx) hp) t.f4.length 0 p [] (by omega) (by simp) hr (by simp)
      refine ⟨r, p', ⟨K + 1, fun k hk => ?_⟩, hb, hw', hr'⟩
      obtain ⟨k, rfl⟩ : ∃ j, k = j + 1 := ⟨k - 1, by omega⟩
      simp only [smf, aK.f]
      rw [if_pos k5]
      exact e k (by omega)
    by_cases k6 : t.f0 = 6
    · have em : wrap64 (t.f3 + 1) = t.f3 + 1 := by unfold wrap64; omega
      obtain ⟨c, p1, e1, hr1, b1, b2, b3⟩ := uO (s := s) (a := t.f3 + 1) hr (by omega)
      obtain ⟨r, p', ⟨K, e⟩, hb, hw', hr'⟩ := some_l1 n t.f4 l s t.f0 t.f1 t.f2 t.f3 (fun h0 p hp => by rw [rdT0 h0]; exact ih (h.2 _ (List.getElem_mem h0)) hp) c.toNat p1 [] (by simp; omega) hr1 (by simp)
      refine ⟨r, p', ⟨K + 1, fun k hk => ?_⟩, hb, hw', hr'⟩
      obtain ⟨k, rfl⟩ : ∃ j, k = j + 1 := ⟨k - 1, by omega⟩
      have e' := e k (by omega)
      dsimp only at e'
      simp only [smf, aK.f]
      rw [if_neg k5, if_pos k6, em, e1, Option.bind_some]
      dsimp only
      rw [show (c.toNat : Int) = c from by omega] at e'
      exact e'
    by_cases k1 : t.f0 = 1
    · obtain ⟨x, p1, e1, hr1, b1, b2, _⟩ := uO (s := s) (a := 2) hr (by omega)
      obtain ⟨r, p', ⟨K, e⟩, hb, hw', hr'⟩ := Cz (s := s) (x := x) [] n hr1 (by omega) (by simp) (by simp)
      refine ⟨r, p', ⟨K + 1, fun k hk => ?_⟩, hb, hw', hr'⟩
      obtain ⟨k, rfl⟩ : ∃ j, k = j + 1 := ⟨k - 1, by omega⟩
      simp only [smf, aK.f]
      rw [if_neg k5, if_neg k6, if_pos k1, e1, Option.bind_some]
      exact e k (by omega)
    by_cases k2 : t.f0 = 2
    · have em : mn t.f2 (wrap64 (t.f1 + 5)) = min t.f2 (t.f1 + 5) := by rw [Ng]; unfold wrap64; omega
      obtain ⟨x, p1, e1, hr1⟩ := YM (s := s) (lo := t.f1) (hi := min t.f2 (t.f1 + 5)) hr (by omega) (by omega) (by omega) (by omega)
      obtain ⟨y, hy⟩ : ∃ y, y = wrap64 x := ⟨_, rfl⟩
      obtain ⟨r, p', ⟨K, e⟩, hb, hw', hr'⟩ := Cz (s := s) (x := x) [] n hr1 (by
        unfold dC.f at e1
        cases en : bG.f l p s (wrap64 (wrap64 (min t.f2 (t.f1 + 5) - t.f1) + 1)) with
        | none => rw [en] at e1; cases e1
        | some q =>
          rw [en, Option.bind_some] at e1
          injection e1 with e1
          injection e1 with e1 _
          rw [← e1]; unfold wrap64; omega) (by simp) (by simp)
      refine ⟨r, p', ⟨K + 1, fun k hk => ?_⟩, hb, hw', hr'⟩
      obtain ⟨k, rfl⟩ : ∃ j, k = j + 1 := ⟨k - 1, by omega⟩
      simp only [smf, aK.f]
      rw [if_neg k5, if_neg k6, if_neg k1, if_pos k2, em, e1, Option.bind_some]
      exact e k (by omega)
    · obtain ⟨x, p1, e1, hr1, b1, b2, _⟩ := uO (s := s) (a := 4) hr (by omega)
      obtain ⟨r, p', ⟨K, e⟩, hb, hw', hr'⟩ := Cz (s := s) (x := x) [] n hr1 (by omega) (by simp) (by simp)
      refine ⟨r, p', ⟨K + 1, fun k hk => ?_⟩, hb, hw', hr'⟩
      obtain ⟨k, rfl⟩ : ∃ j, k = j + 1 := ⟨k - 1, by omega⟩
      simp only [smf, aK.f]
      rw [if_neg k5, if_neg k6, if_neg k1, if_neg k2, e1, Option.bind_some]
      exact e k (by omega)

end Go.Proofs.YtggelekooacmnaaDoor.Pure
namespace Go.Proofs.YtggelekooacmnaaDoor.Q
open Go.RowKit Go.Proofs.YtggelekooacmnaaDoorW.aJ Go.Proofs.YtggelekooacmnaaDoorW.bu Go.Proofs.YtggelekooacmnaaDoorW.bB
attribute [local go_sem] cZ dh dO dP bX bY dm dn   -- for this text's walks alone
set_option linter.unusedVariables false
set_option linter.unusedSimpArgs false

/-! ### iM: function 30 -/
def iM.f (k : Nat)  : Option (Bool) := (some (([(⟨1, 0, 0, 0, ([] : List (S24))⟩ : S24)] : List (S24)) : List (S24))).bind fun vJ => ((eZ.f k 6 0 0 2 vJ 0 (([(⟨1, ([] : List (S51))⟩ : S51)] : List (S51)))).bind fun yX => ((eY.f k 6 0 0 2 vJ (([1, 1, 1] : List Int))).bind fun BN => (if yX.2 = 0 then (if BN.2.2 = 2 then ((bD.f k yX.1 (([1, 1, 0] : List Int))).bind fun Ab => (some Ab)) else (some false)) else (some false))))
theorem iM.mono : ∀ k, LeO (iM.f k ) (iM.f (k + 1) ) := by
 intro  k; unfold iM.f; have m0 := @bD.mono; have m1 := @eZ.mono; have m2 := @eY.mono; exact mo_
set_option maxHeartbeats 8000000 in
set_option maxRecDepth 100000 in
theorem iM.calls (k : Nat)  (r : Bool) (w : World) (h : iM.f k  = some r) :
  Calls Tryd.prog 30 #[] w fun e w' => e = .returned (.bool r) ∧ Below w.heap.size w w' := by
 have HB := aa.mk (Below.refl w.heap.size w); have H : ((some (([(⟨1, 0, 0, 0, ([] : List (S24))⟩ : S24)] : List (S24)) : List (S24))).bind fun vJ => ((eZ.f k 6 0 0 2 vJ 0 (([(⟨1, ([] : List (S51))⟩ : S51)] : List (S51)))).bind fun yX => ((eY.f k 6 0 0 2 vJ (([1, 1, 1] : List Int))).bind fun BN => (if yX.2 = 0 then (if BN.2.2 = 2 then ((bD.f k yX.1 (([1, 1, 0] : List Int))).bind fun Ab => (some Ab)) else (some false)) else (some false))))) = some r := h; clear h; obtain ⟨vJ, hy909⟩ : ∃ y_ : List (S24), y_ = (([(⟨1, 0, 0, 0, ([] : List (S24))⟩ : S24)] : List (S24))) := ⟨_, rfl⟩; replace H : ((eZ.f k 6 0 0 2 vJ 0 (([(⟨1, ([] : List (S51))⟩ : S51)] : List (S51)))).bind fun yX => ((eY.f k 6 0 0 2 vJ (([1, 1, 1] : List Int))).bind fun BN => (if yX.2 = 0 then (if BN.2.2 = 2 then ((bD.f k yX.1 (([1, 1, 0] : List Int))).bind fun Ab => (some Ab)) else (some false)) else (some false)))) = some r := by (have H2_ := (Option.bind_some _ _).symm.trans H; rw [hy909]; with_reducible exact H2_)
 have Ny909 := aa.mk hy909; clear hy909; obtain ⟨y913, hy913⟩ : ∃ y_ : List (S51), y_ = (([(⟨1, ([] : List (S51))⟩ : S51)] : List (S51))) := ⟨_, rfl⟩; replace H : ((eZ.f k 6 0 0 2 vJ 0 y913).bind fun yX => ((eY.f k 6 0 0 2 vJ (([1, 1, 1] : List Int))).bind fun BN => (if yX.2 = 0 then (if BN.2.2 = 2 then ((bD.f k yX.1 (([1, 1, 0] : List Int))).bind fun Ab => (some Ab)) else (some false)) else (some false)))) = some r := by (rw [hy913]; with_reducible exact H)
 have Ny913 := aa.mk hy913; clear hy913; replace H := Option.bind_eq_some_iff.mp H; obtain ⟨⟨t916, t919⟩, A10, H⟩ := H; (try dsimp only at H)
 have A1 := aa.mk A10; clear A10; obtain ⟨y920, hy920⟩ : ∃ y_ : List Int, y_ = (([1, 1, 1] : List Int)) := ⟨_, rfl⟩; replace H : ((eY.f k 6 0 0 2 vJ y920).bind fun BN => (if t919 = 0 then (if BN.2.2 = 2 then ((bD.f k t916 (([1, 1, 0] : List Int))).bind fun Ab => (some Ab)) else (some false)) else (some false))) = some r := by (rw [hy920]; with_reducible exact H)
 have Ny920 := aa.mk hy920; clear hy920; replace H := Option.bind_eq_some_iff.mp H; obtain ⟨⟨t923, t924, t927⟩, A20, H⟩ := H; (try dsimp only at H)
 have A2 := aa.mk A20; clear A20; by_cases c3 : t919 = 0
 focus
  rw [if_pos c3] at H; obtain ⟨kM, mF⟩ := bq_ c3; clear c3; by_cases c4 : t927 = 2
  focus
   rw [if_pos c4] at H; obtain ⟨kN, oZ⟩ := bq_ c4; clear c4; obtain ⟨y929, hy929⟩ : ∃ y_ : List Int, y_ = (([1, 1, 0] : List Int)) := ⟨_, rfl⟩; replace H : ((bD.f k t916 y929).bind fun Ab => (some Ab)) = some r := by (rw [hy929]; with_reducible exact H)
   have Ny929 := aa.mk hy929; clear hy929; replace H := Option.bind_eq_some_iff.mp H; obtain ⟨Ab, A50, H⟩ := H; have A5 := aa.mk A50; clear A50
  rotate_left
  focus
   rw [if_neg c4] at H; obtain ⟨kN, oZ⟩ := bn_ c4
  rotate_left
 rotate_left 2
 focus
  rw [if_neg c3] at H; obtain ⟨kM, mF⟩ := bn_ c3
 rotate_left
 all_goals
  obtain rfl := Option.some.inj H; go_enter Tryd.func30, Tryd.ntmps30; go_wp2_with (first | ((with_reducible refine aM (N := 7) rfl ?_); (try (refine gH (by rfl) ?_; dsimp only)); refine Kd.nM k24 _ 24 ?hg (N := 7) ?hd (xs := ([(⟨1, 0, 0, 0, ([] : List (S24))⟩ : S24)] : List (S24))) (inner := [.int .i64 1, .int .i64 0, .int .i64 0, .int .i64 0, .slice none 0 0]) (ok := fun _ => True) (okp := fun _ => True) ?hr ?hp (fun _ hk => hk) trivial (Below.refl _ _) (Nat.le_refl _) (by simp) ?_; (case hd => rfl); (case hg => rfl); (case hr => (go_simp; done)); (case hp => exact (dB.c5 (show Kd.M k24 _ _ _ (⟨1, 0, 0, 0, ([] : List (S24))⟩ : S24) [.int .i64 1, .int .i64 0, .int .i64 0, .int .i64 0, .slice none 0 0] from (k24_mkM _ _ _ (⟨1, 0, 0, 0, ([] : List (S24))⟩ : S24) (Kd.jy _ _ _ _ _))) (dB.none _ _))); intro v910 w6 ho7 hb hg_ iy; clear hg_ iy; (rw [← Ny909.out] at ho7); have wz := aa.mk (Kd.bN ho7 (aI bl_)); replace HB := aa.mk (ax bl_ hb); clear hb ho7; obtain ⟨Ao8, co8, eo8⟩ := Kd.bF wz.out; subst eo8) | ((with_reducible refine aM (N := 1) rfl ?_); (try (refine gH (by rfl) ?_; dsimp only)); refine bx_ ((t5_ 0 0 0 0 none 0 0)) 24 ?_; intro Ed hg w9 Ov GW912 HB hb; have GE912 := GW912; replace wz := aa.mk (Kd.dH (Kd.lU (pR_ wz.out) Ed (Nat.le_of_eq hg.symm)) hb); clear hb hg; obtain ⟨o8, ql, vM, xK, zg, VL, VM, VN, hfz10_3, hfz10_4⟩ := bE Ov.out) | ((with_reducible refine aM (N := 12) rfl ?_); (try (refine gH (by rfl) ?_; dsimp only)); refine Kd.nM k51 _ 51 ?hg (N := 12) ?hd (xs := ([(⟨1, ([] : List (S51))⟩ : S51)] : List (S51))) (inner := [.int .i64 1, .slice none 0 0]) (ok := fun _ => True) (okp := fun _ => True) ?hr ?hp (fun _ hk => hk) trivial (Below.refl _ _) (Nat.le_refl _) (by simp) ?_; (case hd => rfl); (case hg => rfl); (case hr => (go_simp; done)); (case hp => exact (dB.c2 (show Kd.M k51 _ _ _ (⟨1, ([] : List (S51))⟩ : S51) [.int .i64 1, .slice none 0 0] from (vL _ _ _ (⟨1, ([] : List (S51))⟩ : S51) (Kd.jy _ _ _ _ _))) (dB.none _ _))); intro v914 w11 ho12 hb hg_ iy; clear hg_ iy; (rw [← Ny913.out] at ho12); have wZ := aa.mk (Kd.bN ho12 (aI bl_)); replace wz := aa.mk (Kd.dH (by exact (Kd.aX (Kd.bL (p := ⟨Ed, 4, none⟩) (Kd.bL (p := ⟨Ed, 3, none⟩) (Kd.bL (p := ⟨Ed, 2, none⟩) (Kd.bL (p := ⟨Ed, 1, none⟩) (Kd.bL (p := ⟨Ed, 0, none⟩) (Kd.aX wz.out (fun k_ hk => (⟨hk, by exact hk.2⟩ : _ ∧ k_ ≠ Ed))) (fun _ hk => hk.2) (.int .i64 6)) (fun _ hk => hk.2) (.int .i64 0)) (fun _ hk => hk.2) (.int .i64 0)) (fun _ hk => hk.2) (.int .i64 2)) (fun _ hk => hk.2) (.slice Ao8 vJ.length co8)) (fun _ h_ => h_.1))) hb); replace Ov := aa.mk (gW (g := Ed) (o := .cells (t5_ 6 0 0 2 Ao8 vJ.length co8) 24 (0, 0)) b5_ hb); replace HB := aa.mk (ax bl_ hb); clear hb ho12; obtain ⟨tY, sV, zL⟩ := Kd.bF wZ.out; subst zL) | ((with_reducible refine ay (f := 57) rfl ?_); refine gl_ (some 14) Tryd.func57 #[.agg (t5_ 6 0 0 2 Ao8 vJ.length co8), .agg (t2_ 0 tY y913.length sV)] ?_; (with_reducible refine (eZ.calls k 6 0 0 2 _ _ vJ 0 _ _ y913 t916 t919 _ ?au ?av ?bO ?bQ A1.out).mono ?_); (case au => exact cb_ ((Kd.aZ wz.out).2.2)); (case av => exact (Kd.aZ wz.out).2.1); (case bO => exact cb_ ((Kd.aZ wZ.out).2.2)); (case bQ => exact (Kd.aZ wZ.out).2.1); rintro e w14 ⟨v917, rfl, ho0, hb⟩; refine ⟨_, rfl, ?_⟩; have wB := aa.mk (Kd.bN ho0 (aI bl_)); replace wz := aa.mk (Kd.dH (pR_ wz.out) hb); replace wZ := aa.mk (Kd.dH (pR_ wZ.out) hb); replace Ov := kb_ Ov hb; replace HB := aa.mk (ax bl_ hb); obtain ⟨Qe, WN, Xp, hcz15_3, Vs, _, _, _, _, _⟩ := bE Ov.out) | ((with_reducible refine aM (N := 19) rfl ?_); (try (refine gH (by rfl) ?_; dsimp only)); refine Kd.nM (Kd.int .i64) _ 3 ?hg (N := 19) ?hd (xs := ([1, 1, 1] : List Int)) (inner := [.int .i64 1, .int .i64 1, .int .i64 1]) (ok := fun _ => True) (okp := fun _ => True) ?hr ?hp (fun _ hk => hk) trivial (Below.refl _ _) (Nat.le_refl _) (by simp) ?_; (case hd => rfl); (case hg => rfl); (case hr => (go_simp; done)); (case hp => exact (dB.one (show Kd.M (Kd.int .i64) _ _ _ 1 [.int .i64 1] from rfl) (dB.one (show Kd.M (Kd.int .i64) _ _ _ 1 [.int .i64 1] from rfl) (dB.one (show Kd.M (Kd.int .i64) _ _ _ 1 [.int .i64 1] from rfl) (dB.none _ _))))); intro v921 w16 ho17 hb hg_ iy; clear hg_ iy; (rw [← Ny920.out] at ho17); have Aq := aa.mk (Kd.bN (Kd.eG ho17 (Kd.fK (pR_ wB.out))) (aI bl_)); replace wz := aa.mk (Kd.dH (pR_ wz.out) hb); replace wZ := aa.mk (Kd.dH (pR_ wZ.out) hb); replace wB := aa.mk (Kd.fI (pR_ wB.out) (Kd.dI ho17) hb); replace HB := aa.mk (ax bl_ hb); clear hb ho17; obtain ⟨Ao18, CY, CZ⟩ := Kd.bF Aq.out; subst CZ) | ((with_reducible refine ay (f := 58) rfl ?_); refine gl_ (some 20) Tryd.func58 #[.agg (t5_ 6 0 0 2 Ao8 vJ.length co8), .slice Ao18 y920.length CY] ?_; (with_reducible refine (eY.calls k 6 0 0 2 _ _ vJ _ _ y920 t923 t924 t927 _ ?au ?av ?bO ?bQ A2.out).mono ?_); (case au => exact cb_ ((Kd.aZ wz.out).2.2)); (case av => exact (Kd.aZ wz.out).2.1); (case bO => exact cb_ ((Kd.aZ Aq.out).2.2)); (case bQ => exact (Kd.aZ Aq.out).2.1); rintro e w19 ⟨v925, rfl, ho0, hb⟩; refine ⟨_, rfl, ?_⟩; have HO926 := aa.mk (Kd.bN (Kd.eG ho0 (Kd.fK (pR_ wZ.out))) (aI bl_)); replace wZ := aa.mk (Kd.fI (pR_ wZ.out) (Kd.dI ho0) hb); replace wB := aa.mk (Kd.dH (pR_ wB.out) hb); replace Aq := aa.mk (Kd.dH (pR_ Aq.out) hb); replace HB := aa.mk (ax bl_ hb)) | ((with_reducible refine aM (N := 4) rfl ?_); (try (refine gH (by rfl) ?_; dsimp only)); refine bx_ ((t2_ 0 none 0 0)) 51 ?_; intro Ar hg w20 Ow GW928 HB hb; have GE928 := GW928; replace wZ := aa.mk (Kd.dH (Kd.lU (pR_ wZ.out) Ar (Nat.le_of_eq hg.symm)) hb); replace wB := aa.mk (Kd.dH (pR_ wB.out) hb); replace Aq := aa.mk (Kd.dH (pR_ Aq.out) hb); replace HO926 := aa.mk (Kd.dH (Kd.lU (pR_ HO926.out) Ar (Nat.le_of_eq hg.symm)) hb); clear hb hg; obtain ⟨JI, EG, hfz22_0, hfz22_1⟩ := dS Ow.out; obtain ⟨xh, wC, CK⟩ := Kd.bF HO926.out; subst CK) | ((with_reducible refine aM (N := 31) rfl ?_); (try (refine gH (by rfl) ?_; dsimp only)); refine Kd.nM (Kd.int .i64) _ 3 ?hg (N := 31) ?hd (xs := ([1, 1, 0] : List Int)) (inner := [.int .i64 1, .int .i64 1, .int .i64 0]) (ok := fun _ => True) (okp := fun _ => True) ?hr ?hp (fun _ hk => hk) trivial (Below.refl _ _) (Nat.le_refl _) (by simp) ?_; (case hd => rfl); (case hg => rfl); (case hr => (go_simp; done)); (case hp => exact (dB.one (show Kd.M (Kd.int .i64) _ _ _ 1 [.int .i64 1] from rfl) (dB.one (show Kd.M (Kd.int .i64) _ _ _ 1 [.int .i64 1] from rfl) (dB.one (show Kd.M (Kd.int .i64) _ _ _ 0 [.int .i64 0] from rfl) (dB.none _ _))))); intro v930 w24 ho25 hb hg_ iy; clear hg_ iy; (rw [← Ny929.out] at ho25); have HO931 := aa.mk (Kd.bN (Kd.eG (Kd.eG ho25 (Kd.fK (by exact (Kd.aX (Kd.bL (p := ⟨Ar, 1, none⟩) (Kd.bL (p := ⟨Ar, 0, none⟩) (Kd.ko wB.out Ow.out (by decide)) (fun _ hk => hk.2) (.int .i64 t923)) (fun _ hk => hk.2) (.slice xh t924.length wC)) (fun _ h_ => h_.1))))) (Kd.fK (by exact (Kd.aX (Kd.bL (p := ⟨Ar, 1, none⟩) (Kd.bL (p := ⟨Ar, 0, none⟩) (Kd.ko Aq.out Ow.out (by decide)) (fun _ hk => hk.2) (.int .i64 t923)) (fun _ hk => hk.2) (.slice xh t924.length wC)) (fun _ h_ => h_.1))))) (aI bl_)); replace wB := aa.mk (Kd.fI (by exact (Kd.aX (Kd.bL (p := ⟨Ar, 1, none⟩) (Kd.bL (p := ⟨Ar, 0, none⟩) (Kd.ko wB.out Ow.out (by decide)) (fun _ hk => hk.2) (.int .i64 t923)) (fun _ hk => hk.2) (.slice xh t924.length wC)) (fun _ h_ => h_.1))) (Kd.dI ho25) hb); replace Aq := aa.mk (Kd.fI (by exact (Kd.aX (Kd.bL (p := ⟨Ar, 1, none⟩) (Kd.bL (p := ⟨Ar, 0, none⟩) (Kd.ko Aq.out Ow.out (by decide)) (fun _ hk => hk.2) (.int .i64 t923)) (fun _ hk => hk.2) (.slice xh t924.length wC)) (fun _ h_ => h_.1))) (Kd.dI ho25) hb); replace HB := aa.mk (ax bl_ hb); clear hb ho25; obtain ⟨Ao26, co26, eo26⟩ := Kd.bF wB.out; subst eo26; obtain ⟨AZ, zO, eo27⟩ := Kd.bF HO931.out; subst eo27) | (go_at_call 59; (with_reducible refine (bD.calls k _ _ t916 _ _ y929 Ab _ ?au ?av ?bO ?bQ A5.out).mono ?_); (case au => exact cb_ ((Kd.aZ wB.out).2.2)); (case av => exact (Kd.aZ wB.out).2.1); (case bO => exact cb_ ((Kd.aZ HO931.out).2.2)); (case bQ => exact (Kd.aZ HO931.out).2.1); rintro e w' ⟨rfl, ⟨nd, rfl⟩⟩))
  go_ret; exact ⟨re_, bl_⟩

end Go.Proofs.YtggelekooacmnaaDoor.Q
set_option linter.unusedVariables false
set_option linter.unusedSimpArgs false
namespace Go.Proofs.YtggelekooacmnaaDoor.Pure
open Go.RowKit Go.Proofs.YtggelekooacmnaaDoor.Q Go.Proofs.YtggelekooacmnaaDoorW.aJ Go.Proofs.YtggelekooacmnaaDoorW.bu Go.Proofs.YtggelekooacmnaaDoorW.bB
-- l9: what its calls answer, all at one count of rounds
theorem awake_ev : Ev iM.f true := Ev.of (k := 30) iM.mono (by decide +kernel)
structure Bts (K : Nat) (L : List Int) (t0 t : S24) (p0 p1 x : Int) (p : Nat → Int) (v : Nat → S51) (cs ds : List Int) (e i b q1 q2 y q3 : Int) : Prop where
  ty : aA.f K L 0 0 3 = some (t0.f0, t0.f1, t0.f2, t0.f3, t0.f4, p0, 0)
  n8 : bG.f L p0 0 8 = some (x, p1, 0)
  wi : x = 7 → bK.f K L p1 0 2 = some (t.f0, t.f1, t.f2, t.f3, t.f4, p 0, 0)
  nw : x ≠ 7 → t = t0 ∧ p 0 = p1
  so : ∀ k, k < 2 → aK.f K L (p k) 0 t.f0 t.f1 t.f2 t.f3 t.f4 = some ((v k).f0, (v k).f1, p (k + 1), 0)
  fl : fP.f K t.f0 t.f1 t.f2 t.f3 t.f4 (v 1).f0 (v 1).f1 = some (cs, e)
  le : cs.length ≤ 900
  ld : ds.length = cs.length
  a1 : aQ.f K t.f0 t.f1 t.f2 t.f3 t.f4 (v 0).f0 (v 0).f1 (v 1).f0 (v 1).f1 cs = some true
  nn : 0 < cs.length → bG.f L (p 2) 0 (cs.length : Int) = some (i, q1, 0) ∧ 0 ≤ i ∧ i < (cs.length : Int) ∧ dC.f L q1 0 (-2) 4 = some (b, q2, 0) ∧ ds = cs.set i.toNat b
  n0 : ¬ 0 < cs.length → q2 = p 2 ∧ ds = cs
  n6 : bG.f L q2 0 6 = some (y, q3, 0)
  a2 : aQ.f K t.f0 t.f1 t.f2 t.f3 t.f4 (v 1).f0 (v 1).f1 (v 0).f0 (v 0).f1 ds = some true
  a3 : aQ.f K t.f0 t.f1 t.f2 t.f3 t.f4 (v 1).f0 (v 1).f1 (v 0).f0 (v 0).f1 (ds ++ [0]) = some true
  aw : iM.f K = some true
theorem Tu {n : Nat} {t : S24} {L : List Int} {pp : Int} (hr : Rs L pp) (hn : n ≤ 900) (ht : Bw n t) : ∃ (p : Nat → Int) (v : Nat → S51) (cs ds : List Int) (e i b q1 q2 y q3 : Int) (K0 : Nat), p 0 = pp ∧ ∀ K, K0 ≤ K → ∀ (t0 : S24) (p0 p1 x : Int), aA.f K L 0 0 3 = some (t0.f0, t0.f1, t0.f2, t0.f3, t0.f4, p0, 0) → bG.f L p0 0 8 = some (x, p1, 0) →
    (x = 7 → bK.f K L p1 0 2 = some (t.f0, t.f1, t.f2, t.f3, t.f4, p 0, 0)) → (x ≠ 7 → t = t0 ∧ p 0 = p1) → Bts K L t0 t p0 p1 x p v cs ds e i b q1 q2 y q3 := by
  have hb := ht.bd
  obtain ⟨v0, p1, ⟨K1, e1⟩, hv, hv9, hr1⟩ := Tt n (s := 0) ht hr
  obtain ⟨v1, p2, ⟨K2, e2⟩, hw, hw9, hr2⟩ := Tt n (s := 0) ht hr1
  have hv' : Bv (n + 11) v0 := hv.mono (by omega)
  have hw' : Bv (n + 11) v1 := hw.mono (by omega)
  obtain ⟨z, u, cs, e, d1, d2, d3, c, s, _, _, hx, _, _, _, _, _, ⟨K3, e3⟩, _⟩ := XQ (n := n) (v := v1) (w := v1) (l := []) (by omega) hb (by omega) hw' hw' (by simp) hw9
  obtain ⟨K4, e4⟩ := Ic (l := cs) (n := n) (by omega) hb (by omega) hv' hw' (by omega) hv9
  dsimp only [smf, at2] at e1 e2 e3 e4
  have hq : ∃ i b q1 q2 ds, Rs L q2 ∧ ds.length = cs.length ∧ (0 < cs.length → bG.f L p2 0 (cs.length : Int) = some (i, q1, 0) ∧ 0 ≤ i ∧ i < (cs.length : Int) ∧ dC.f L q1 0 (-2) 4 = some (b, q2, 0) ∧ ds = cs.set i.toNat b) ∧ (¬ 0 < cs.length → q2 = p2 ∧ ds = cs) := by
    by_cases h : 0 < cs.length
    · obtain ⟨i, q1, e5, hr3, i0, i1, _⟩ := uO (s := 0) (a := (cs.length : Int)) hr2 (by omega)
      obtain ⟨b, q2, e6, hr4, _⟩ := zZ (s := 0) (lo := -2) (hi := 4) hr3 (by omega) (by omega) (by omega)
      exact ⟨i, b, q1, q2, cs.set i.toNat b, hr4, by simp, fun _ => ⟨e5, i0, i1 (by omega), e6, rfl⟩, fun h' => absurd h h'⟩
    · exact ⟨0, 0, 0, p2, cs, hr2, rfl, fun h' => absurd h' h, fun _ => ⟨rfl, rfl⟩⟩
  obtain ⟨i, b, q1, q2, ds, hr3, hd, hn1, hn0⟩ := hq
  obtain ⟨y, q3, e7, hr4, _⟩ := uO (s := 0) (a := 6) hr3 (by omega)
  obtain ⟨K5, e5⟩ := Ic (l := ds) (n := n) (by omega) hb (by omega) hw' hv' (by omega) hw9
  obtain ⟨K6, e6⟩ := Ic (l := ds ++ [0]) (n := n) (by omega) hb (by omega) hw' hv' (by rw [List.length_append, List.length_singleton]; omega) hw9
  obtain ⟨K7, e8⟩ := awake_ev
  dsimp only at e5 e6
  refine ⟨fun k => if k = 0 then pp else if k = 1 then p1 else p2, fun k => if k = 0 then v0 else v1, cs, ds, d1, i, b, q1, q2, y, q3, K1 + K2 + K3 + K4 + K5 + K6 + K7, rfl, fun K hK t0 p0 p1' x h1 h2 h3 h4 => ?_⟩
  refine ⟨h1, h2, h3, h4, fun k hk => ?_, e3 K (by omega), hx, hd, e4 K (by omega), hn1, hn0, e7, e5 K (by omega), e6 K (by omega), e8 K (by omega)⟩
  match k, hk with
  | 0, _ => exact e1 K (by omega)
  | 1, _ => exact e2 K (by omega)
theorem builts (l : List Int) : ∃ K t0 t p0 p1 x p v cs ds e i b q1 q2 y q3, Bts K (l.take 1000) t0 t p0 p1 x p v cs ds e i b q1 q2 y q3 := by
  obtain ⟨_, r0⟩ := New_ok l
  obtain ⟨t0, p0, ⟨K1, e1⟩, g1, r1⟩ := QF 3 (s := 0) (by omega) (by omega) r0
  obtain ⟨x, p1, e2, r2, _⟩ := uO (s := 0) (a := 8) r1 (by omega)
  dsimp only at e1
  simp only [Int.cast_ofNat_Int] at e1
  by_cases h7 : x = 7
  · obtain ⟨t, p2, ⟨K3, e3⟩, b3, r3⟩ := Wild_bw 2 (s := 0) (by omega) (by omega) r2
    dsimp only at e3
    simp only [Int.cast_ofNat_Int] at e3
    obtain ⟨p, v, cs, ds, e, i, b, q1, q2, y, q3, K0, hp, h⟩ := Tu r3 (by omega) b3
    exact ⟨K0 + K1 + K3, t0, t, p0, p1, x, p, v, cs, ds, e, i, b, q1, q2, y, q3, h _ (by omega) t0 p0 p1 x (e1 _ (by omega)) e2 (fun _ => by rw [hp]; exact e3 _ (by omega)) (fun hn => absurd h7 hn)⟩
  · obtain ⟨p, v, cs, ds, e, i, b, q1, q2, y, q3, K0, hp, h⟩ := Tu r2 (by omega) g1.vt.bw
    exact ⟨K0 + K1, t0, t0, p0, p1, x, p, v, cs, ds, e, i, b, q1, q2, y, q3, h _ (by omega) t0 p0 p1 x (e1 _ (by omega)) e2 (fun h => absurd h h7) (fun _ => ⟨rfl, hp⟩)⟩

end Go.Proofs.YtggelekooacmnaaDoor.Pure
-- l9 behind its fifth region: what stays, told at whatever world
namespace Go.Proofs.YtggelekooacmnaaDoor.Q
open Go.RowKit Go.Proofs.YtggelekooacmnaaDoorW.aJ Go.Proofs.YtggelekooacmnaaDoorW.bu Go.Proofs.YtggelekooacmnaaDoorW.bB
open Go.Proofs.YtggelekooacmnaaDoor.Pure
set_option linter.unusedVariables false
set_option linter.unusedSimpArgs false
/-- at the world behind the region -/
structure H3 (w3 : World) (n g gb b1 b2 : Nat) (t : S24) (A : Option Addr) (c : Nat) (v0 v1 : S51) (A1 : Option Addr) (c1 : Nat) (A2 : Option Addr) (c2 : Nat) : Prop where
  k0 : w3.heap[gb]? = some (.cells (tcs t.f0 t.f1 t.f2 t.f3 A t.f4.length c) 24 (0, 0))
  k1 : w3.heap[b1]? = some (.cells #[.int .i64 v0.f0, .slice A1 v0.f1.length c1] 51 (0, 0))
  k2 : w3.heap[b2]? = some (.cells #[.int .i64 v1.f0, .slice A2 v1.f1.length c2] 51 (0, 0))
  n0 : Kd.N k24 24 w3 n (fun x => x ≠ g) (.slice A t.f4.length c) t.f4
  n1 : Kd.N k51 51 w3 n (fun x => x ≠ g) (.slice A1 v0.f1.length c1) v0.f1
  n2 : Kd.N k51 51 w3 n (fun x => x ≠ g) (.slice A2 v1.f1.length c2) v1.f1
  d0 : gb ≠ g
  d1 : b1 ≠ g
  d2 : b2 ≠ g
  lg : g < w3.heap.size
  ln : n ≤ w3.heap.size
/-- at a later one -/
structure Hb (w w3 : World) (g : Nat) (L : List Int) (q : Int) (W : World) : Prop where
  kp : Kept w3 W (fun k => k = g)
  sr : bC w W g L q 0
  bl : Below w.heap.size w W
section
variable {w w3 W W' : World} {g gb b1 b2 : Nat} {t : S24} {A : Option Addr} {c : Nat} {v0 v1 : S51} {A1 : Option Addr} {c1 : Nat} {A2 : Option Addr} {c2 : Nat} {L : List Int} {q q' : Int}
theorem Hb.cells (h : Hb w w3 g L q W) (h3 : H3 w3 w.heap.size g gb b1 b2 t A c v0 v1 A1 c1 A2 c2) : W.cell? ⟨gb, 0, none⟩ = some (.int .i64 t.f0) ∧ W.cell? ⟨gb, 1, none⟩ = some (.int .i64 t.f1) ∧ W.cell? ⟨gb, 2, none⟩ = some (.int .i64 t.f2) ∧ W.cell? ⟨gb, 3, none⟩ = some (.int .i64 t.f3) ∧ W.cell? ⟨gb, 4, none⟩ = some (.slice A t.f4.length c) ∧
    W.cell? ⟨b1, 0, none⟩ = some (.int .i64 v0.f0) ∧ W.cell? ⟨b1, 1, none⟩ = some (.slice A1 v0.f1.length c1) ∧ W.cell? ⟨b2, 0, none⟩ = some (.int .i64 v1.f0) ∧ W.cell? ⟨b2, 1, none⟩ = some (.slice A2 v1.f1.length c2) := by
  have k0 := LP h3.k0 h.kp h3.d0
  have k1 := LP h3.k1 h.kp h3.d1
  have k2 := LP h3.k2 h.kp h3.d2
  exact ⟨(bH k0 0).trans rfl, (bH k0 1).trans rfl, (bH k0 2).trans rfl, (bH k0 3).trans rfl, (bH k0 4).trans rfl, (bH k1 0).trans rfl, (bH k1 1).trans rfl, (bH k2 0).trans rfl, (bH k2 1).trans rfl⟩
theorem AR {α : Type} {d : Kd α} {e n : Nat} {B : Option Addr} {k : Nat} {xs : List α} (h : Hb w w3 g L q W) (hn : Kd.N d e w3 n (fun x => x ≠ g) (.slice B xs.length k) xs) : xs.length ≤ k ∧ Kd.C d W B xs.length xs :=
  have r := Kd.tL (Kd.N_keptB hn h.kp (fun _ hk => hk))
  ⟨r.2.1, r.2.2⟩
theorem Hb.below (h : Hb w w3 g L q W) (hb : Below W.heap.size W W') : Hb w w3 g L q W' := ⟨h.kp.below hb, h.sr.below hb, h.bl.trans (hb.mono h.bl.size)⟩
theorem Hb.src (h : Hb w w3 g L q W) (hi : bC w W' g L q' 0) (hb : Below w.heap.size w W') (hk : aH W W' g none) : Hb w w3 g L q' W' := ⟨h.kp.of_keep hk (.inl rfl), hi, hb⟩
theorem Hb.grown (h : Hb w w3 g L q W) (hl : g < w3.heap.size) {row : Option Nat} (hg : W.grownBy W' row) (hb : Below w.heap.size w W') (hr : ∀ k, row = some k → w3.heap.size ≤ k) : Hb w w3 g L q W' :=
  ⟨Kept.tC hg h.kp (fun k hk => .inr (hr k hk)), h.sr.grown hg (fun e => by have := hr g e.symm; omega), hb⟩
theorem Hb.agrees (h : Hb w w3 g L q W) (h3 : H3 w3 w.heap.size g gb b1 b2 t A c v0 v1 A1 c1 A2 c2) (htab : qx w.heap.size w) {K : Nat} {B : Option Addr} {k : Nat} {xs : List Int} (hC : Kd.C (Kd.int .i64) W B xs.length xs) (hk : xs.length ≤ k) (ha : aQ.f K t.f0 t.f1 t.f2 t.f3 t.f4 v0.f0 v0.f1 v1.f0 v1.f1 xs = some true) :
    Calls Tryd.prog 36 #[.agg #[.int .i64 t.f0, .int .i64 t.f1, .int .i64 t.f2, .int .i64 t.f3, .slice A t.f4.length c], .agg #[.int .i64 v0.f0, .slice A1 v0.f1.length c1], .agg #[.int .i64 v1.f0, .slice A2 v1.f1.length c2], .slice B xs.length k] W fun e W' => e = .returned (.bool true) ∧ Below W.heap.size W W' := by
  obtain ⟨l0, r0⟩ := AR h h3.n0
  obtain ⟨l1, r1⟩ := AR h h3.n1
  obtain ⟨l2, r2⟩ := AR h h3.n2
  exact aQ.calls K _ _ _ _ A c _ _ A1 c1 _ _ A2 c2 _ B k xs true W r0 l0 r1 l1 r2 l2 hC hk ha (ptab htab h.bl)
theorem Hb.XX (h : Hb w w3 g L q W) (h3 : H3 w3 w.heap.size g gb b1 b2 t A c v0 v1 A1 c1 A2 c2) (htab : qx w.heap.size w) {K : Nat} {B : Option Addr} {k : Nat} {xs : List Int} (hC : Kd.C (Kd.int .i64) W B xs.length xs) (hk : xs.length ≤ k) (ha : aQ.f K t.f0 t.f1 t.f2 t.f3 t.f4 v1.f0 v1.f1 v0.f0 v0.f1 xs = some true) :
    Calls Tryd.prog 36 #[.agg #[.int .i64 t.f0, .int .i64 t.f1, .int .i64 t.f2, .int .i64 t.f3, .slice A t.f4.length c], .agg #[.int .i64 v1.f0, .slice A2 v1.f1.length c2], .agg #[.int .i64 v0.f0, .slice A1 v0.f1.length c1], .slice B xs.length k] W fun e W' => e = .returned (.bool true) ∧ Below W.heap.size W W' := by
  obtain ⟨l0, r0⟩ := AR h h3.n0
  obtain ⟨l1, r1⟩ := AR h h3.n1
  obtain ⟨l2, r2⟩ := AR h h3.n2
  exact aQ.calls K _ _ _ _ A c _ _ A2 c2 _ _ A1 c1 _ B k xs true W r0 l0 r2 l2 r1 l1 hC hk ha (ptab htab h.bl)
theorem Hb.flat (h : Hb w w3 g L q W) (h3 : H3 w3 w.heap.size g gb b1 b2 t A c v0 v1 A1 c1 A2 c2) {K : Nat} {cs : List Int} {e : Int} (ha : fP.f K t.f0 t.f1 t.f2 t.f3 t.f4 v1.f0 v1.f1 = some (cs, e)) :
    Calls Tryd.prog 37 #[.agg #[.int .i64 t.f0, .int .i64 t.f1, .int .i64 t.f2, .int .i64 t.f3, .slice A t.f4.length c], .agg #[.int .i64 v1.f0, .slice A2 v1.f1.length c2]] W fun r W' => ∃ v0_ : Value, r = .returned (.tuple #[v0_, .int .i64 e]) ∧ Kd.R (Kd.int .i64) 3 W' W.heap.size (fun _ => True) v0_ cs ∧ Below W.heap.size W W' := by
  obtain ⟨l0, r0⟩ := AR h h3.n0
  obtain ⟨l2, r2⟩ := AR h h3.n2
  exact fP.calls K _ _ _ _ A c _ _ A2 c2 _ cs e W r0 l0 r2 l2 ha
end
end Go.Proofs.YtggelekooacmnaaDoor.Q
-- l9, walked by hand
namespace Go.Proofs.YtggelekooacmnaaDoor.Q
open Go.RowKit Go.Proofs.YtggelekooacmnaaDoorW.aJ Go.Proofs.YtggelekooacmnaaDoorW.bu Go.Proofs.YtggelekooacmnaaDoorW.bB
open Go.Proofs.YtggelekooacmnaaDoor.Pure
set_option linter.unusedVariables false
set_option linter.unusedSimpArgs false
def put5 (w : World) (b : Nat) (x0 x1 x2 x3 x4 : Value) : World := ((((w.setCell ⟨b, 0, none⟩ x0).setCell ⟨b, 1, none⟩ x1).setCell ⟨b, 2, none⟩ x2).setCell ⟨b, 3, none⟩ x3).setCell ⟨b, 4, none⟩ x4
theorem put5_blk {w : World} {b : Nat} {u0 u1 u2 u3 u4 x0 x1 x2 x3 x4 : Value} {T : Nat} (h : w.heap[b]? = some (.cells #[u0, u1, u2, u3, u4] T (0, 0))) : (put5 w b x0 x1 x2 x3 x4).heap[b]? = some (.cells #[x0, x1, x2, x3, x4] T (0, 0)) := by
  refine eP (cs := #[x0, x1, x2, x3, u4]) ?_ 4 _ rfl
  refine eP (cs := #[x0, x1, x2, u3, u4]) ?_ 3 _ rfl
  refine eP (cs := #[x0, x1, u2, u3, u4]) ?_ 2 _ rfl
  refine eP (cs := #[x0, u1, u2, u3, u4]) ?_ 1 _ rfl
  exact eP (cs := #[u0, u1, u2, u3, u4]) h 0 _ rfl
theorem put5_N {α : Type} {d : Kd α} {e base : Nat} {ok : Nat → Prop} {v : Value} {xs : List α} {w : World} {b : Nat} {x0 x1 x2 x3 x4 : Value} (h : Kd.N d e w base ok v xs) (hok : ∀ k, ok k → k ≠ b) : Kd.N d e (put5 w b x0 x1 x2 x3 x4) base ok v xs :=
  Kd.fq (p := ⟨b, 4, none⟩) (Kd.fq (p := ⟨b, 3, none⟩) (Kd.fq (p := ⟨b, 2, none⟩) (Kd.fq (p := ⟨b, 1, none⟩) (Kd.fq (p := ⟨b, 0, none⟩) h hok _) hok _) hok _) hok _) hok _
theorem Ym {w0 w : World} {b : Nat} {x0 x1 x2 x3 x4 : Value} (h : Below w0.heap.size w0 w) (hb : w0.heap.size ≤ b) : Below w0.heap.size w0 (put5 w b x0 x1 x2 x3 x4) := jv (jv (jv (jv (jv h hb) hb) hb) hb) hb
theorem put5_src {w0 w : World} {g b : Nat} {L : List Int} {q s : Int} {x0 x1 x2 x3 x4 : Value} (h : bC w0 w g L q s) (hb : g ≠ b) : bC w0 (put5 w b x0 x1 x2 x3 x4) g L q s :=
  ((((h.far (p := ⟨b, 0, none⟩) hb _).far (p := ⟨b, 1, none⟩) hb _).far (p := ⟨b, 2, none⟩) hb _).far (p := ⟨b, 3, none⟩) hb _).far (p := ⟨b, 4, none⟩) hb _
set_option maxHeartbeats 8000000 in
set_option maxRecDepth 100000 in
theorem TM (l : List Int) (A0 : Option Addr) (c0 : Nat) (w : World) (hr0 : Kd.C (Kd.int .i64) w A0 l.length l) (hc0 : l.length ≤ c0) (htab : qx w.heap.size w) :
    Calls Tryd.prog 11 #[.slice A0 l.length c0] w fun e w' => e = .returned (.bool true) ∧ Below w.heap.size w w' := by
  obtain ⟨K, t0, t, p0, p1, x, p, v, cs, ds, ee, i, b, q1, q2, y, q3, ho⟩ := builts l
  have hn := (New_ok l).1
  have HO := Lib.hid ho
  have HR := Lib.hid hr0
  have HC := Lib.hid hc0
  have HT := Lib.hid htab
  have HN := Lib.hid hn
  clear ho hr0 hc0 htab hn
  obtain ⟨L, hL⟩ : ∃ L, L = l.take 1000 := ⟨_, rfl⟩
  rw [← hL] at HO HN
  clear hL
  have hu24 := Tryd.underlying24
  have hu51 := Tryd.underlying51
  rcases (by by_cases h : x = 7 <;> simp [h] : (x = 7 ∧ (x == 7) = true) ∨ (x ≠ 7 ∧ (x == 7) = false)) with h7 | h7
  focus
    obtain ⟨h7, h7b⟩ := h7
    have H7 := Lib.hid h7
    clear h7
    go_enter Tryd.func11, Tryd.ntmps11
    go_upto_region 5 with (first | (go_at_call 14; refine (lV.calls A0 c0 l L 0 0 w _ (Below.refl _ _) HR.out HC.out HN.out).mono ?_; rintro e w1 ⟨g, rfl, hi, hb, hb2⟩; have HI := Lib.hid hi; have HB := Lib.hid hb; clear hi hb hb2) | (go_at_call 15; refine (aA.calls K g L 0 0 3 _ _ _ _ _ _ _ w _ HI.out HB.out HO.out.ty).mono ?_; rintro e w2 ⟨sv, rfl, hNt, hi, hb, hk⟩; obtain ⟨A4, c4, rfl⟩ := Kd.oC hNt; have HI2 := Lib.hid hi; have HB2 := Lib.hid hb; have HNt := Lib.hid hNt; clear hi hb hk hNt) | (go_at_call 20; refine (bG.calls g L p0 0 8 x p1 0 w _ (HI2.out.alloc _) (jY HB2.out _) HO.out.n8).mono ?_; rintro e w3 ⟨rfl, hi, hb, hk⟩; have HI3 := Lib.hid hi; have HB3 := Lib.hid hb; have HD := Lib.hid (show w2.heap.size ≠ g from by have := HI2.out.lt; omega); have HBT3 := Lib.hid (aH.blk hk (heap_alloc_new w2 (.cells (tcs t0.f0 t0.f1 t0.f2 t0.f3 A4 t0.f4.length c4) 24)) HD.out (by simp)); have HK3 := Lib.hid hk; clear hi hb hk) | (go_at_call 27; refine (bK.calls K g L p1 0 2 _ _ _ _ _ _ _ w _ HI3.out HB3.out (HO.out.wi H7.out)).mono ?_; rintro e w4 ⟨su, rfl, hNu, hi, hb, hk⟩; obtain ⟨A5, c5, rfl⟩ := Kd.oC hNu; have HI4 := Lib.hid hi; have HB4 := Lib.hid hb; have HNu := Lib.hid hNu; have Bl := Lib.hid (aH.blk hk HBT3.out HD.out (by simp)); clear hi hb hk hNu; have z0 := (bH Bl.out 0).trans rfl; have z1 := (bH Bl.out 1).trans rfl; have z2 := (bH Bl.out 2).trans rfl; have z3 := (bH Bl.out 3).trans rfl; have z4 := (bH Bl.out 4).trans rfl; have f0 := fF Bl.out 0; have f1 := fF Bl.out 1; have f2 := fF Bl.out 2; have f3 := fF Bl.out 3; have f4 := fF Bl.out 4))
    have HZ1 := Lib.hid (aI HB2.out)
    have HZ2 := Lib.hid (HI3.out.lt)
    have HZ3 := Lib.hid (kE HBT3.out)
    refine IB (w := put5 w4 w2.heap.size (.int .i64 t.f0) (.int .i64 t.f1) (.int .i64 t.f2) (.int .i64 t.f3) (.slice A5 t.f4.length c5)) (w0 := w) (g := g) (gb := w2.heap.size) (L := L) (s := 0) (p := p) (v := v) (t0 := t.f0) (t1 := t.f1) (t2 := t.f2) (t3 := t.f3) (A := A5) (c := c5) (tl := t.f4) (K := K) HO.out.so rfl rfl rfl (put5_src HI4.out (Ne.symm HD.out)) (Ym HB4.out HZ1.out) (put5_blk Bl.out) HZ1.out HD.out (Kd.dG (put5_N (Kd.rT HNu.out (aI HB3.out)) (fun k hk => ?_)) fun k hk => ?_) (Kd.tL HNu.out).2.1 ?_
    · have h1 : w3.heap.size ≤ k := hk; have := HZ3.out; omega
    · have h1 : w3.heap.size ≤ k := hk; have := HZ2.out; have := HZ3.out; exact ⟨by omega, by omega⟩
    intro A1 c1 A2 c2 b1 b2 w5 k0 nt k1 k2 n1 n2 hS hBl g1 g2 r1 r2
    have h3 : H3 w5 w.heap.size g w2.heap.size b1 b2 t A5 c5 (v 0) (v 1) A1 c1 A2 c2 := ⟨k0, k1, k2, nt, n1, n2, HD.out, r1, r2, hS.lt, aI hBl⟩
    have hv : Hb w w5 g L (p 2) w5 := ⟨Kept.refl _ _, hS, hBl⟩
    clear HI HB HI2 HB2 HNt HI3 HB3 HBT3 HK3 HI4 HB4 HNu Bl z0 z1 z2 z3 z4 f0 f1 f2 f3 f4 HZ1 HZ2 HZ3 h7b H7 k0 nt k1 k2 n1 n2 hS hBl g1 g2 r1 r2 HD
    generalize w2.heap.size = gb at h3 ⊢
  rotate_left
  focus
    obtain ⟨h7, h7b⟩ := h7
    obtain ⟨rfl, hp⟩ := HO.out.nw h7
    have HP := Lib.hid hp
    clear hp h7
    go_enter Tryd.func11, Tryd.ntmps11
    go_upto_region 5 with (first | (go_at_call 14; refine (lV.calls A0 c0 l L 0 0 w _ (Below.refl _ _) HR.out HC.out HN.out).mono ?_; rintro e w1 ⟨g, rfl, hi, hb, hb2⟩; have HI := Lib.hid hi; have HB := Lib.hid hb; clear hi hb hb2) | (go_at_call 15; refine (aA.calls K g L 0 0 3 _ _ _ _ _ _ _ w _ HI.out HB.out HO.out.ty).mono ?_; rintro e w2 ⟨sv, rfl, hNt, hi, hb, hk⟩; obtain ⟨A4, c4, rfl⟩ := Kd.oC hNt; have HI2 := Lib.hid hi; have HB2 := Lib.hid hb; have HNt := Lib.hid hNt; clear hi hb hk hNt) | (go_at_call 20; refine (bG.calls g L p0 0 8 x p1 0 w _ (HI2.out.alloc _) (jY HB2.out _) HO.out.n8).mono ?_; rintro e w3 ⟨rfl, hi, hb, hk⟩; have HI3 := Lib.hid hi; have HB3 := Lib.hid hb; have HD := Lib.hid (show w2.heap.size ≠ g from by have := HI2.out.lt; omega); have HBT3 := Lib.hid (aH.blk hk (heap_alloc_new w2 (.cells (tcs t.f0 t.f1 t.f2 t.f3 A4 t.f4.length c4) 24)) HD.out (by simp)); have HK3 := Lib.hid hk; clear hi hb hk))
    have HZ1 := Lib.hid (aI HB2.out)
    have HZ4 := Lib.hid (HI.out.lt)
    refine IB (w0 := w) (g := g) (gb := w2.heap.size) (L := L) (s := 0) (p := p) (v := v) (t0 := t.f0) (t1 := t.f1) (t2 := t.f2) (t3 := t.f3) (A := A4) (c := c4) (tl := t.f4) (K := K) HO.out.so rfl rfl rfl (by rw [HP.out]; exact HI3.out) HB3.out HBT3.out HZ1.out HD.out (Kd.dG (Kd.uu (Kd.OD (Kd.BQ (Kd.rT HNt.out (aI HB.out))) _) HK3.out (fun k hk => ?_)) fun k hk => ?_) (Kd.tL HNt.out).2.1 ?_
    · have h1 : w1.heap.size ≤ k := hk.1; have := HZ4.out; omega
    · have h1 : w1.heap.size ≤ k := hk.1; have h2 : k < w2.heap.size := hk.2; have := HZ4.out; exact ⟨by omega, by omega⟩
    intro A1 c1 A2 c2 b1 b2 w5 k0 nt k1 k2 n1 n2 hS hBl g1 g2 r1 r2
    have h3 : H3 w5 w.heap.size g w2.heap.size b1 b2 t A4 c4 (v 0) (v 1) A1 c1 A2 c2 := ⟨k0, k1, k2, nt, n1, n2, HD.out, r1, r2, hS.lt, aI hBl⟩
    have hv : Hb w w5 g L (p 2) w5 := ⟨Kept.refl _ _, hS, hBl⟩
    clear HI HB HI2 HB2 HNt HI3 HB3 HBT3 HK3 HZ1 HZ4 h7b HP k0 nt k1 k2 n1 n2 hS hBl g1 g2 r1 r2 HD
    generalize w2.heap.size = gb at h3 ⊢
  all_goals
    have HH := Lib.hid h3
    have HV := Lib.hid hv
    clear h3 hv
    obtain ⟨z0, z1, z2, z3, z4, u0, u1, u2, u3⟩ := HV.out.cells HH.out
    unfold acts
    simp only [Act.put, List.setIfInBounds_toArray, List.set_cons_zero, List.set_cons_succ]
    go_upto_if 40 with (first | (go_at_call 37; (with_reducible refine (HV.out.flat HH.out HO.out.fl).mono ?_); rintro e w6 ⟨sv, rfl, hR, hb⟩; have hv := HV.out.below hb; clear HV z0 z1 z2 z3 z4 u0 u1 u2 u3; have HV := Lib.hid hv; clear hv; obtain ⟨z0, z1, z2, z3, z4, u0, u1, u2, u3⟩ := HV.out.cells HH.out; obtain ⟨A6, c6, rfl⟩ := Kd.bF hR; have HX := Lib.hid hR; clear hR hb) | (go_at_call 36; (with_reducible refine (HV.out.agrees HH.out HT.out (Kd.aZ HX.out).2.2 (Kd.aZ HX.out).2.1 HO.out.a1).mono ?_); rintro e w7 ⟨rfl, hb⟩; have hv := HV.out.below hb; have hx := Kd.dH HX.out hb; clear HX; have HX := Lib.hid hx; clear hx hb; clear HV z0 z1 z2 z3 z4 u0 u1 u2 u3; have HV := Lib.hid hv; clear hv; obtain ⟨z0, z1, z2, z3, z4, u0, u1, u2, u3⟩ := HV.out.cells HH.out) | ((with_reducible refine lC (b := .append) (xs := #[.const (.slice none 0 0), .tmp 36]) rfl ?_); at_builtin; refine Kd.uo (Kd.int .i64) (w0 := w) w.heap.size rfl (.const (.slice none 0 0)) (.tmp 36) 29 3 (.int .i64 0) 8 rfl Tryd.underlying29 info3 rfl (by decide) (by omega) (.slice none 0 0) ([] : List Int) cs _ _ _ (fun k_ => w5.heap.size ≤ k_) (fun _ => False) rfl rfl ?aO ?aR (fun _ _ h => h) (fun _ h => h.elim) ?aF ?aB ?aS ?aL ?_; (case aR => exact (Kd.aZ HX.out).2.2); (case aB => exact HV.out.bl); (case aF => exact (fun k_ hk => Nat.le_trans HV.out.kp.1 hk)); (case aO => exact (Kd.jy _ _ _ _ _)); (case aS => exact aI HV.out.bl); (case aL => have := HO.out.le; simp only [List.length_nil]; omega); intro sw w8 ho hb hg hat; have hv := HV.out.grown HH.out.lg hg hb (fun k e => by simp [Value.ownBlock] at e); rw [List.nil_append] at ho; obtain ⟨A8, c8, rfl⟩ := Kd.bF ho; clear HX; have HX := Lib.hid ho; clear ho hb hg hat; clear HV z0 z1 z2 z3 z4 u0 u1 u2 u3; have HV := Lib.hid hv; clear hv; obtain ⟨z0, z1, z2, z3, z4, u0, u1, u2, u3⟩ := HV.out.cells HH.out))
    rcases Nat.lt_or_ge 0 cs.length with hp | hp
  all_goals
    first
    | (have hp_ : 0 < cs.length := hp
       obtain ⟨m1, m2, m3, m4, m5⟩ := HO.out.nn hp
       have M1 := Lib.hid m1
       have M4 := Lib.hid m4
       have M5 := Lib.hid m5
       clear m1 m4 m5
       have d1 : decide (0 < cs.length) = true := decide_eq_true hp
       have d2 : decide ((0 : Int) < (cs.length : Int)) = true := decide_eq_true (by omega)
       have i1 := eq_true m2
       have i2 := eq_true m3
       have i3 : (i.toNat < cs.length) = True := eq_true (by omega)
       go_upto_if 51 with (first | (go_at_call 20; (with_reducible refine (bG.calls g L (p 2) 0 (cs.length : Int) i q1 0 w _ HV.out.sr HV.out.bl M1.out).mono ?_); rintro e w9 ⟨rfl, hi, hb, hk⟩; have hv := HV.out.src hi hb hk; have hx := Kd.yh HX.out hk (fun k hk => by have := HH.out.lg; omega); clear HX; have HX := Lib.hid hx; clear hx hi hb hk; clear HV z0 z1 z2 z3 z4 u0 u1 u2 u3; have HV := Lib.hid hv; clear hv; obtain ⟨z0, z1, z2, z3, z4, u0, u1, u2, u3⟩ := HV.out.cells HH.out) | (go_at_call 17; (with_reducible refine (dC.calls g L q1 0 (-2) 4 b q2 0 w _ HV.out.sr HV.out.bl M4.out).mono ?_); rintro e w10 ⟨rfl, hi, hb, hk⟩; have hv := HV.out.src hi hb hk; have hx := Kd.yh HX.out hk (fun k hk => by have := HH.out.lg; omega); clear HX; have HX := Lib.hid hx; clear hx hi hb hk; clear HV z0 z1 z2 z3 z4 u0 u1 u2 u3; have HV := Lib.hid hv; clear hv; obtain ⟨z0, z1, z2, z3, z4, u0, u1, u2, u3⟩ := HV.out.cells HH.out; obtain ⟨go, cp, eo, hgo, _, _⟩ := Kd.yl HX.out hp; injection eo with ea en ec; subst ea; subst ec; clear en; have HGO := Lib.hid hgo; clear hgo; obtain ⟨x0, x1⟩ := Kd.vK 0 HX.out i m2 m3; have HP := Lib.hid (Kd.Et HX.out i b); have hv2 := HV.out.grown HH.out.lg HP.out.2 (jv HV.out.bl HGO.out) (fun k e => HX.out.1 k (by rw [← e]; rfl)); have HV2 := Lib.hid hv2; have HX2 := Lib.hid (show Kd.R (Kd.int .i64) 3 _ w.heap.size (fun k_ => w5.heap.size ≤ k_) _ ds from M5.out ▸ HP.out.1); clear hv2) | (go_at_call 20; (with_reducible refine (bG.calls g L q2 0 6 y q3 0 w _ HV2.out.sr HV2.out.bl HO.out.n6).mono ?_); rintro e w11 ⟨rfl, hi, hb, hk⟩; have hv := HV2.out.src hi hb hk; have hx := Kd.yh HX2.out hk (fun k hk => by have := HH.out.lg; omega); clear HX; have HX := Lib.hid hx; clear hx hi hb hk HV2 HX2; clear HV z0 z1 z2 z3 z4 u0 u1 u2 u3; have HV := Lib.hid hv; clear hv; obtain ⟨z0, z1, z2, z3, z4, u0, u1, u2, u3⟩ := HV.out.cells HH.out)))
    | (have hp_ : 0 ≥ cs.length := hp
       obtain ⟨n1, n2⟩ := HO.out.n0 (by omega)
       have d1 : decide (0 < cs.length) = false := decide_eq_false (by omega)
       have d2 : decide ((0 : Int) < (cs.length : Int)) = false := decide_eq_false (by omega)
       have HV2 := Lib.hid (show Hb w w5 g L q2 _ from n1 ▸ HV.out)
       have HX2 := Lib.hid (show Kd.R (Kd.int .i64) 3 _ w.heap.size (fun k_ => w5.heap.size ≤ k_) _ ds from n2 ▸ HX.out)
       clear n1 n2
       go_upto_if 51 with (go_at_call 20; (with_reducible refine (bG.calls g L q2 0 6 y q3 0 w _ HV2.out.sr HV2.out.bl HO.out.n6).mono ?_); rintro e w11 ⟨rfl, hi, hb, hk⟩; have hv := HV2.out.src hi hb hk; have hx := Kd.yh HX2.out hk (fun k hk => by have := HH.out.lg; omega); clear HX; have HX := Lib.hid hx; clear hx hi hb hk HV2 HX2; clear HV z0 z1 z2 z3 z4 u0 u1 u2 u3; have HV := Lib.hid hv; clear hv; obtain ⟨z0, z1, z2, z3, z4, u0, u1, u2, u3⟩ := HV.out.cells HH.out))
  all_goals
    have el := HO.out.ld
    try rw [← el] at HX
    try rw [← el]
    clear el
    rcases (by by_cases h : y = 5 <;> simp [h] : (y == 5) = true ∨ (y == 5) = false) with h5 | h5
  all_goals
    first
    | (have h6 : (y == 5) = false := h5
       have HA := Lib.hid HO.out.a2
       go_wp2_with (first | (go_at_call 36; (with_reducible refine (HV.out.XX HH.out HT.out (Kd.aZ HX.out).2.2 (Kd.aZ HX.out).2.1 HA.out).mono ?_); rintro e w13 ⟨rfl, hb⟩; have hv := HV.out.below hb; clear hb; clear HV z0 z1 z2 z3 z4 u0 u1 u2 u3; have HV := Lib.hid hv; clear hv; obtain ⟨z0, z1, z2, z3, z4, u0, u1, u2, u3⟩ := HV.out.cells HH.out) | (go_at_call 30; (with_reducible refine (iM.calls K true _ HO.out.aw).mono ?_); rintro e w14 ⟨rfl, hb⟩; have hv := HV.out.below hb; clear hb; clear HV z0 z1 z2 z3 z4 u0 u1 u2 u3; have HV := Lib.hid hv; clear hv; obtain ⟨z0, z1, z2, z3, z4, u0, u1, u2, u3⟩ := HV.out.cells HH.out))
       go_ret
       exact ⟨rfl, HV.out.bl⟩)
    | (have h6 : (y == 5) = true := h5
       have HA := Lib.hid HO.out.a3
       go_wp2_with (first | ((with_reducible refine lC (b := .append) (xs := #[.tmp 52, .tmp 53]) rfl ?_); at_builtin; refine Kd.xe (Kd.int .i64) (w0 := w) w.heap.size rfl (.tmp 52) (.tmp 53) 29 3 (.int .i64 0) 8 rfl Tryd.underlying29 info3 rfl (by decide) (by omega) (.slice _ ds.length _) ds 0 [.int .i64 0] (fun k_ => w5.heap.size ≤ k_) (fun _ => False) rfl rfl ?aP (fun _ hk => hk.elim) ?aF ?aO ?aB ?aS ?aL ?_; (case aP => exact rfl); (case aB => exact HV.out.bl); (case aF => exact (fun k_ hk => Nat.le_trans HV.out.kp.1 hk)); (case aO => exact HX.out); (case aS => exact aI HV.out.bl); (case aL => have := HO.out.le; have := HO.out.ld; omega); intro sw w12 ho hb hg hat; have hv := HV.out.grown HH.out.lg hg hb (fun k e => HX.out.1 k e); obtain ⟨A9, c9, rfl⟩ := Kd.bF ho; clear HX; have HX := Lib.hid ho; clear ho hb hg hat; clear HV z0 z1 z2 z3 z4 u0 u1 u2 u3; have HV := Lib.hid hv; clear hv; obtain ⟨z0, z1, z2, z3, z4, u0, u1, u2, u3⟩ := HV.out.cells HH.out) | (go_at_call 36; have hc := HV.out.XX HH.out HT.out (Kd.aZ HX.out).2.2 (Kd.aZ HX.out).2.1 HA.out; rw [List.length_append] at hc; (refine hc.mono ?_); rintro e w13 ⟨rfl, hb⟩; have hv := HV.out.below hb; clear hb; clear HV z0 z1 z2 z3 z4 u0 u1 u2 u3; have HV := Lib.hid hv; clear hv; obtain ⟨z0, z1, z2, z3, z4, u0, u1, u2, u3⟩ := HV.out.cells HH.out) | (go_at_call 30; (with_reducible refine (iM.calls K true _ HO.out.aw).mono ?_); rintro e w14 ⟨rfl, hb⟩; have hv := HV.out.below hb; clear hb; clear HV z0 z1 z2 z3 z4 u0 u1 u2 u3; have HV := Lib.hid hv; clear hv; obtain ⟨z0, z1, z2, z3, z4, u0, u1, u2, u3⟩ := HV.out.cells HH.out))
       go_ret
       exact ⟨rfl, HV.out.bl⟩)
theorem Yc (a0 : Option Addr) (len0 cap0 : Nat) (z0 : List Int) (w : World) (htab : qx w.heap.size w) (w0 : (a0 = none ∧ len0 = 0 ∧ cap0 = 0 ∧ z0 = []) ∨ ∃ x, a0 = some x ∧ len0 ≤ cap0 ∧ cap0 ≤ maxLen ∧ z0.length = cap0 ∧ (∀ i, i < z0.length → w.cell? (x.add i) = some (.int .i64 (z0.getD i 0))) ∧ ∀ n ∈ z0, (Lit.int .i64 n).wf = true) (y0 : len0 * 8 ≤ 140737488351232) :
    Calls Tryd.prog 11 #[.slice a0 len0 cap0] w fun e w' => e = .returned (.bool true) ∧ Below w.heap.size w w' := by
  obtain ⟨l0, rfl, hr0, hm0, hw0, hc0⟩ := kJ.ofRowC w0
  exact TM l0 _ _ w (Kd.Gn (d := (0 : Int)) (h1 := fun _ => rfl) hr0) hc0 htab
end Go.Proofs.YtggelekooacmnaaDoor.Q
namespace Go.Proofs.YtggelekooacmnaaDoorW.aJ
open Go.ChangeShapes Go.WideShapes
theorem Yb {H : Type} {enc : TypeId × Value → H} {P : Program} {W : World} {base : Nat} {spare : Nat → Bool} {held : Bool} {t e : TypeId} {k : IntKind} {a : Option Addr} {len cap : Nat} {d : DataW H} {ps : List MemPlace} {ts : List TypeId} {ds : List (DataW H)} {j : Nat}
    (hsz : (DataW.weightsEach P ts ds).all (· ≤ reachBytes) = true) (ht : ts[j]? = some t) (hd : ds[j]? = some d) (hu : P.underlying t = some (.slice e)) (he : P.underlying e = some (.int k)) (hc : P.cellsOf e = 1) {B : Nat} (hB : P.bytesOf e = B)
    (h : DataW.Trod enc P W base spare held t (.slice a len cap) d ps) : len * B ≤ 140737488351232 := by
  obtain ⟨fuel, hf⟩ := h
  rcases open_ints hu he hc hf with ⟨hcs, _⟩ | ⟨x, l, c, zs, hcs, _, hl, _, hz, hx, _, _⟩
  · simp [Value.cells] at hcs
    obtain ⟨rfl, rfl, rfl⟩ := hcs
    simp
  · simp [Value.cells] at hcs
    obtain ⟨rfl, rfl, rfl⟩ := hcs
    obtain ⟨hx, _⟩ := Prod.mk.inj hx
    subst hx
    have z := sized_slice hsz ht hd hu
    rw [hB] at z
    have hl2 : len ≤ zs.length := by
      rw [hz]
      split
      · exact hl
      · exact Nat.le_refl _
    have h1 : (lits (H := H) k (zs.take len)).length + (lits (H := H) k (zs.drop len)).length = zs.length := by
      simp [lits]
      omega
    rw [h1] at z
    exact Nat.le_trans (Nat.mul_le_mul_right _ hl2) z
end Go.Proofs.YtggelekooacmnaaDoorW.aJ
