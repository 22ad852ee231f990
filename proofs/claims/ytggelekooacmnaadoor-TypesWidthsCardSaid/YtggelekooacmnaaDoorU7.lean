import Derived.Test.YtggelekooacmnaaDoorU6
import Derived.Test.YtggelekooacmnaaDoorC9
set_option linter.unusedVariables false
set_option linter.unusedSimpArgs false
namespace Go.Proofs.YtggelekooacmnaaDoor.Pure
open Go.RowKit Go.Proofs.YtggelekooacmnaaDoor.R Go.Proofs.YtggelekooacmnaaDoorW.PrintWords Go.Proofs.YtggelekooacmnaaDoorW.PrintLast
-- the reader of numbers, and the types that are built
theorem eta_s (x : S24) : (⟨x.f0, x.f1, x.f2, x.f3, x.f4⟩ : S24) = x := by cases x; rfl
/-- a reader's state -/
structure Rs (l : List Int) (at0 : Int) : Prop where
  len : l.length ≤ 1000
  lo : 0 ≤ at0
  hi : at0 ≤ l.length
theorem raw_ok {l : List Int} {p s : Int} (h : Rs l p) : ∃ x p', exactpplmake_Src_Raw.f l p s = some (x, p', s) ∧ Rs l p' := by
  obtain ⟨h1, h2, h3⟩ := h
  unfold exactpplmake_Src_Raw.f
  by_cases c : p ≥ (l.length : Int)
  · exact ⟨0, p, by rw [if_pos c], ⟨h1, h2, h3⟩⟩
  · have e : wrap64 (p + 1) = p + 1 := by unfold wrap64; omega
    have e2 : wrap64 (p + 1 - 1) = p := by unfold wrap64; omega
    rw [if_neg c, e, e2, if_pos h2, if_pos (by omega)]
    exact ⟨_, _, rfl, ⟨h1, by omega, by omega⟩⟩
theorem tmod_bd (x a : Int) (ha : 0 < a) : -a < Int.tmod x a ∧ Int.tmod x a < a := by
  have h1 := Int.tmod_lt_of_pos x ha
  have h2 := Int.tmod_lt_of_pos (-x) ha
  rw [Int.neg_tmod] at h2
  omega
theorem N_ok {l : List Int} {p s a : Int} (h : Rs l p) (ha : a ≤ 1000000) : ∃ x p', exactpplmake_Src_N.f l p s a = some (x, p', s) ∧ Rs l p' ∧ 0 ≤ x ∧ (1 ≤ a → x < a) ∧ (a < 1 → x = 0) := by
  unfold exactpplmake_Src_N.f
  by_cases c : a < 1
  · exact ⟨0, p, by rw [if_pos c], h, by omega, by omega, fun _ => rfl⟩
  · obtain ⟨x, p', e, h'⟩ := raw_ok (s := s) h
    have hb := tmod_bd x a (by omega)
    rw [if_neg c, e, Option.bind_some, if_neg (by omega)]
    dsimp only
    by_cases c2 : Int.tmod x a < 0
    · have ew : wrap64 (Int.tmod x a + a) = Int.tmod x a + a := by unfold wrap64; omega
      rw [if_pos c2, ew]
      exact ⟨_, _, rfl, h', by omega, by omega, by omega⟩
    · rw [if_neg c2]
      exact ⟨_, _, rfl, h', by omega, by omega, by omega⟩
theorem Range_ok {l : List Int} {p s lo hi : Int} (h : Rs l p) (h1 : -100000 ≤ lo) (h2 : lo ≤ hi) (h3 : hi ≤ 100000) : ∃ x p', exactpplmake_Src_Range.f l p s lo hi = some (x, p', s) ∧ Rs l p' ∧ lo ≤ x ∧ x ≤ hi := by
  unfold exactpplmake_Src_Range.f
  have e : wrap64 (wrap64 (hi - lo) + 1) = hi - lo + 1 := by unfold wrap64; omega
  obtain ⟨x, p', e1, h', hx0, hx1, _⟩ := N_ok (s := s) (a := hi - lo + 1) h (by omega)
  have hx := hx1 (by omega)
  have ew : wrap64 (lo + x) = lo + x := by unfold wrap64; omega
  rw [e, e1, Option.bind_some]
  dsimp only
  rw [ew]
  exact ⟨_, _, rfl, h', by omega, by omega⟩
theorem New_ok (l : List Int) : exactpplmake_New.f l = some (l.take 1000, 0, 0) ∧ Rs (l.take 1000) 0 := by
  unfold exactpplmake_New.f
  refine ⟨?_, ⟨by rw [List.length_take]; omega, by omega, by omega⟩⟩
  by_cases c : (l.length : Int) > 1000
  · rw [if_pos c, if_pos (by omega)]
  · rw [if_neg c, List.take_of_length_le (by omega)]
/-- the types that are built, at most d deep -/
inductive Gt : Nat → S24 → Prop
  | bool (d : Nat) : Gt (d + 1) ⟨1, 0, 0, 0, []⟩
  | int (d : Nat) (lo hi : Int) (h1 : -2 ≤ lo) (h2 : lo ≤ hi) (h3 : hi ≤ lo + 3) (h4 : lo ≤ 3) : Gt (d + 1) ⟨2, lo, hi, 0, []⟩
  | tup (d : Nat) (l : List S24) (h1 : 2 ≤ l.length) (h2 : l.length ≤ 3) (h3 : ∀ x ∈ l, Gt d x) : Gt (d + 1) ⟨5, 0, 0, 0, l⟩
  | lst (d : Nat) (m : Int) (x : S24) (h1 : 1 ≤ m) (h2 : m ≤ 2) (h3 : Gt 1 x) (h4 : x.f0 = 1 ∨ x.f0 = 2) (h5 : 1 ≤ d) : Gt (d + 1) ⟨6, 0, 0, m, [x]⟩
theorem Gt.kind {d : Nat} {t : S24} (h : Gt d t) : t.f0 ≠ 3 ∧ t.f0 ≠ 4 ∧ 1 ≤ t.f0 ∧ t.f0 ≤ 6 := by cases h <;> simp
theorem Gt.vt {d : Nat} : ∀ {t : S24}, Gt d t → Vt d t := by
  induction d with
  | zero => intro t h; cases h
  | succ d ih =>
    intro t h
    cases h with
    | bool => exact .bool _
    | int _ lo hi h1 h2 h3 h4 => exact .int _ _ _ (by omega) h2 (by omega)
    | tup _ l h1 h2 h3 => exact .tup _ _ h1 (by omega) (fun x hx => ih (h3 x hx)) (fun x hx => ⟨(h3 x hx).kind.1, (h3 x hx).kind.2.1⟩)
    | lst _ m x h1 h2 h3 h4 h5 =>
      refine .lst _ _ _ h1 (by omega) (Vt.mono h5 ?_) h4
      cases h3 with
      | bool => exact .bool _
      | int _ lo hi h1 h2 h3 h4 => exact .int _ _ _ (by omega) h2 (by omega)
      | tup _ l h1 h2 h3 => simp at h4
      | lst _ m x h1 h2 h3 h4 h5 => omega
theorem Gt.prt_len {d : Nat} : ∀ {t : S24} {n : Nat}, Gt d t → d ≤ n → (prt n t).length ≤ 3 ^ (d - 1) := by
  induction d with
  | zero => intro t n h; cases h
  | succ d ih =>
    intro t n h hn
    obtain ⟨n, rfl⟩ : ∃ e, n = e + 1 := ⟨n - 1, by omega⟩
    have hp : 1 ≤ 3 ^ (d + 1 - 1) := Nat.pos_of_ne_zero (by simp)
    cases h with
    | bool => simpa [prt] using hp
    | int _ lo hi h1 h2 h3 h4 => simpa [prt] using hp
    | tup _ l h1 h2 h3 =>
      rw [prt5]
      have hl := flat_len (f := prt n) (fun x hx => ih (h3 x hx) (show d ≤ n by omega))
      obtain ⟨d, rfl⟩ : ∃ e, d = e + 1 := by
        match l, h1, h3 with
        | x :: _, _, h3 => exact ⟨d - 1, by have := h3 x List.mem_cons_self; cases d with
            | zero => cases this
            | succ d => omega⟩
      have h5 : 3 ^ (d + 1 + 1 - 1) = 3 ^ (d + 1 - 1) * 3 := Nat.pow_succ ..
      have : l.length * 3 ^ (d + 1 - 1) ≤ 3 * 3 ^ (d + 1 - 1) := Nat.mul_le_mul_right _ h2
      omega
    | lst _ m x h1 h2 h3 h4 h5 =>
      have hv : Vt n x := Vt.mono (by omega) h3.vt
      rw [prt6, List.length_cons, rep_len, sc_len hv h4]
      have : 3 ^ 1 ≤ 3 ^ (d + 1 - 1) := Nat.pow_le_pow_right (by omega) (by omega)
      omega
theorem Type_l0 (d : Nat) (hd : d ≤ 100) (l : List Int) (s : Int) (ih : ∀ p, Rs l p → ∃ t p', Ev (fun k => exactpplmake_Src_Type.f k l p s d) (t.f0, t.f1, t.f2, t.f3, t.f4, p', s) ∧ Gt d t ∧ Rs l p') :
    ∀ (c : Nat) (p : Int) (o : List S24), c ≤ 3 → o.length + c ≤ 3 → Rs l p → (∀ x ∈ o, Gt d x) → ∃ o' p', Ev (fun k => exactpplmake_Src_Type.l0 k (d + 1 : Nat) c l p s 5 0 0 0 o) (5, 0, 0, 0, o', p', s) ∧ o'.length = o.length + c ∧ (∀ x ∈ o', Gt d x) ∧ Rs l p' := by
  intro c
  induction c with
  | zero =>
    intro p o hc ho hr hg
    refine ⟨o, p, ⟨1, fun k hk => ?_⟩, by omega, hg, hr⟩
    obtain ⟨k, rfl⟩ : ∃ j, k = j + 1 := ⟨k - 1, by omega⟩
    simp only [exactpplmake_Src_Type.l0]
    rw [if_neg (by omega)]
  | succ c IH =>
    intro p o hc ho hr hg
    obtain ⟨t, p1, ⟨K1, e1⟩, g1, hr1⟩ := ih p hr
    obtain ⟨o', p', ⟨K2, e2⟩, hl, hg', hr'⟩ := IH p1 (o ++ [t]) (by omega) (by rw [List.length_append, List.length_singleton]; omega) hr1 (by
      intro x hx
      rcases List.mem_append.1 hx with hx | hx
      · exact hg x hx
      · rw [List.mem_singleton] at hx; rw [hx]; exact g1)
    refine ⟨o', p', ⟨max K1 K2 + 1, fun k hk => ?_⟩, by rw [hl, List.length_append, List.length_singleton]; omega, hg', hr'⟩
    obtain ⟨k, rfl⟩ : ∃ j, k = j + 1 := ⟨k - 1, by omega⟩
    have e1' := e1 k (by omega)
    have e2' := e2 k (by omega)
    dsimp only at e1' e2'
    have ew : wrap64 (((d + 1 : Nat) : Int) - 1) = (d : Int) := by unfold wrap64; omega
    have ec : wrap64 (((c + 1 : Nat) : Int) - 1) = (c : Int) := by unfold wrap64; omega
    simp only [exactpplmake_Src_Type.l0]
    rw [if_pos (by omega), ew, e1', Option.bind_some]
    dsimp only
    rw [if_pos (by omega), ec, eta_s, e2']
theorem Type_ev (d : Nat) : ∀ {l : List Int} {p s : Int}, 1 ≤ d → d ≤ 100 → Rs l p → ∃ t p', Ev (fun k => exactpplmake_Src_Type.f k l p s d) (t.f0, t.f1, t.f2, t.f3, t.f4, p', s) ∧ Gt d t ∧ Rs l p' := by
  induction d with
  | zero => intro l p s h; omega
  | succ d ih =>
    intro l p s h1 h2 hr
    obtain ⟨k1, p1, e1, hr1, b1, b1', _⟩ := N_ok (s := s) (a := 6) hr (by omega)
    have b1' := b1' (by omega)
    have leaf : ∀ (kd q : Int), Rs l q → 0 ≤ kd → kd < 3 → ∃ t p', (∃ K, ∀ k, K ≤ k → exactpplmake_Src_Type.j0 k ((d + 1 : Nat) : Int) kd l q s = some (t.f0, t.f1, t.f2, t.f3, t.f4, p', s)) ∧ Gt (d + 1) t ∧ Rs l p' := by
      intro kd q hq c0 c3
      by_cases c : kd = 0
      · refine ⟨⟨1, 0, 0, 0, []⟩, q, ⟨1, fun k hk => ?_⟩, .bool _, hq⟩
        obtain ⟨k, rfl⟩ : ∃ j, k = j + 1 := ⟨k - 1, by omega⟩
        simp only [exactpplmake_Src_Type.j0]
        rw [if_pos c]
      · obtain ⟨lo, q1, e2, hq1, l1, l2⟩ := Range_ok (s := s) (lo := -2) (hi := 3) hq (by omega) (by omega) (by omega)
        obtain ⟨w, q2, e3, hq2, w1, w2, _⟩ := N_ok (s := s) (a := 4) hq1 (by omega)
        have w2 := w2 (by omega)
        have ew : wrap64 (lo + w) = lo + w := by unfold wrap64; omega
        refine ⟨⟨2, lo, lo + w, 0, []⟩, q2, ⟨2, fun k hk => ?_⟩, .int _ _ _ l1 (by omega) (by omega) (by omega), hq2⟩
        obtain ⟨k, rfl⟩ : ∃ j, k = j + 2 := ⟨k - 2, by omega⟩
        simp only [exactpplmake_Src_Type.j0]
        rw [if_neg c]
        have hb : ∀ b, b = true → exactpplmake_Src_Type.j1 (k + 1) ((d + 1 : Nat) : Int) kd b l q s = some (2, lo, lo + w, 0, [], q2, s) := by
          intro b hb
          simp only [exactpplmake_Src_Type.j1]
          rw [if_pos hb, e2, Option.bind_some]
          dsimp only
          rw [e3, Option.bind_some]
          dsimp only
          rw [ew]
        by_cases c1 : kd = 1
        · rw [if_pos c1]; exact hb _ (by rw [c1]; rfl)
        · rw [if_neg c1]; exact hb _ (by rw [show kd = 2 from by omega]; rfl)
    by_cases hd : d = 0
    · subst hd
      obtain ⟨k2, p2, e2, hr2, b2, b2', _⟩ := N_ok (s := s) (a := 3) hr1 (by omega)
      have b2' := b2' (by omega)
      obtain ⟨t, p', ⟨K, e⟩, g, hr'⟩ := leaf k2 p2 hr2 b2 b2'
      refine ⟨t, p', ⟨K + 1, fun k hk => ?_⟩, g, hr'⟩
      obtain ⟨k, rfl⟩ : ∃ j, k = j + 1 := ⟨k - 1, by omega⟩
      simp only [exactpplmake_Src_Type.f]
      rw [e1, Option.bind_some, if_pos (by omega)]
      dsimp only
      rw [e2, Option.bind_some]
      exact e k (by omega)
    · have hf : ∀ k, exactpplmake_Src_Type.f (k + 1) l p s ((d + 1 : Nat) : Int) = exactpplmake_Src_Type.j0 k ((d + 1 : Nat) : Int) k1 l p1 s := by
        intro k
        simp only [exactpplmake_Src_Type.f]
        rw [e1, Option.bind_some, if_neg (by omega)]
      by_cases c3 : k1 < 3
      · obtain ⟨t, p', ⟨K, e⟩, g, hr'⟩ := leaf k1 p1 hr1 b1 c3
        refine ⟨t, p', ⟨K + 1, fun k hk => ?_⟩, g, hr'⟩
        obtain ⟨k, rfl⟩ : ∃ j, k = j + 1 := ⟨k - 1, by omega⟩
        show exactpplmake_Src_Type.f (k + 1) l p s ((d + 1 : Nat) : Int) = _
        rw [hf]
        exact e k (by omega)
      · have hj : ∀ k, exactpplmake_Src_Type.f (k + 3) l p s ((d + 1 : Nat) : Int) = (if k1 = 3 then exactpplmake_Src_Type.j2 k ((d + 1 : Nat) : Int) true l p1 s else exactpplmake_Src_Type.j2 k ((d + 1 : Nat) : Int) (k1 == 4) l p1 s) := by
          intro k
          rw [hf]
          simp only [exactpplmake_Src_Type.j0]
          rw [if_neg (by omega), if_neg (by omega), show (k1 == 2) = false from by simp; omega]
          simp only [exactpplmake_Src_Type.j1]
          rw [if_neg (by decide)]
          by_cases c : k1 = 3
          · rw [if_pos c, if_pos c, c]; rfl
          · rw [if_neg c, if_neg c]
        by_cases c4 : k1 = 3 ∨ k1 = 4
        · obtain ⟨c, p2, e2, hr2, g1, g2⟩ := Range_ok (s := s) (lo := 2) (hi := 3) hr1 (by omega) (by omega) (by omega)
          obtain ⟨o', p', ⟨K, e⟩, hl, hg, hr'⟩ := Type_l0 d (by omega) l s (fun p hp => ih (by omega) (by omega) hp) c.toNat p2 [] (by omega) (by simp; omega) hr2 (by simp)
          refine ⟨⟨5, 0, 0, 0, o'⟩, p', ⟨K + 4, fun k hk => ?_⟩, .tup _ _ (by simp at hl; omega) (by simp at hl; omega) hg, hr'⟩
          obtain ⟨k, rfl⟩ : ∃ j, k = j + 4 := ⟨k - 4, by omega⟩
          show exactpplmake_Src_Type.f (k + 1 + 3) l p s ((d + 1 : Nat) : Int) = _
          have hb : ∀ b, b = true → exactpplmake_Src_Type.j2 (k + 1) ((d + 1 : Nat) : Int) b l p1 s = some (5, 0, 0, 0, o', p', s) := by
            intro b hb
            have e' := e k (by omega)
            dsimp only at e'
            simp only [exactpplmake_Src_Type.j2]
            rw [if_pos hb, e2, Option.bind_some]
            dsimp only
            rw [show c = (c.toNat : Int) from by omega]
            exact e'
          rw [hj]
          by_cases c : k1 = 3
          · rw [if_pos c]; exact hb _ rfl
          · rw [if_neg c]; exact hb _ (by rw [show k1 = 4 from by omega]; rfl)
        · obtain ⟨m, p2, e2, hr2, g1, g2⟩ := Range_ok (s := s) (lo := 1) (hi := 2) hr1 (by omega) (by omega) (by omega)
          have h1t : ∃ x p', Ev (fun k => exactpplmake_Src_Type.f k l p2 s 1) (x.f0, x.f1, x.f2, x.f3, x.f4, p', s) ∧ Gt 1 x ∧ Rs l p' := by
            obtain ⟨k3, p3, e3, hr3, b3, b3', _⟩ := N_ok (s := s) (a := 6) hr2 (by omega)
            obtain ⟨k4, p4, e4, hr4, b4, b4', _⟩ := N_ok (s := s) (a := 3) hr3 (by omega)
            have b4' := b4' (by omega)
            have fin : ∃ x p', (∃ K, ∀ k, K ≤ k → exactpplmake_Src_Type.j0 k 1 k4 l p4 s = some (x.f0, x.f1, x.f2, x.f3, x.f4, p', s)) ∧ Gt 1 x ∧ Rs l p' := by
              by_cases c : k4 = 0
              · refine ⟨⟨1, 0, 0, 0, []⟩, p4, ⟨1, fun k hk => ?_⟩, .bool _, hr4⟩
                obtain ⟨k, rfl⟩ : ∃ j, k = j + 1 := ⟨k - 1, by omega⟩
                simp only [exactpplmake_Src_Type.j0]
                rw [if_pos c]
              · obtain ⟨lo, q1, e5, hq1, l1, l2⟩ := Range_ok (s := s) (lo := -2) (hi := 3) hr4 (by omega) (by omega) (by omega)
                obtain ⟨w, q2, e6, hq2, w1, w2, _⟩ := N_ok (s := s) (a := 4) hq1 (by omega)
                have w2 := w2 (by omega)
                have ew : wrap64 (lo + w) = lo + w := by unfold wrap64; omega
                refine ⟨⟨2, lo, lo + w, 0, []⟩, q2, ⟨2, fun k hk => ?_⟩, .int _ _ _ l1 (by omega) (by omega) (by omega), hq2⟩
                obtain ⟨k, rfl⟩ : ∃ j, k = j + 2 := ⟨k - 2, by omega⟩
                simp only [exactpplmake_Src_Type.j0]
                rw [if_neg c]
                have hb : ∀ b, b = true → exactpplmake_Src_Type.j1 (k + 1) 1 k4 b l p4 s = some (2, lo, lo + w, 0, [], q2, s) := by
                  intro b hb
                  simp only [exactpplmake_Src_Type.j1]
                  rw [if_pos hb, e5, Option.bind_some]
                  dsimp only
                  rw [e6, Option.bind_some]
                  dsimp only
                  rw [ew]
                by_cases c1 : k4 = 1
                · rw [if_pos c1]; exact hb _ (by rw [c1]; rfl)
                · rw [if_neg c1]; exact hb _ (by rw [show k4 = 2 from by omega]; rfl)
            obtain ⟨x, p', ⟨K, e⟩, g, hr'⟩ := fin
            refine ⟨x, p', ⟨K + 1, fun k hk => ?_⟩, g, hr'⟩
            obtain ⟨k, rfl⟩ : ∃ j, k = j + 1 := ⟨k - 1, by omega⟩
            simp only [exactpplmake_Src_Type.f]
            rw [e3, Option.bind_some, if_pos (by omega)]
            dsimp only
            rw [e4, Option.bind_some]
            exact e k (by omega)
          obtain ⟨x, p', ⟨K, e⟩, g, hr'⟩ := h1t
          have hk12 : x.f0 = 1 ∨ x.f0 = 2 := by
            cases g with
            | bool => exact .inl rfl
            | int => exact .inr rfl
            | tup _ l h1 h2 h3 =>
              match l, h1, h3 with
              | y :: _, _, h3 => exact nomatch h3 y List.mem_cons_self
            | lst _ _ _ _ _ _ _ h5 => omega
          refine ⟨⟨6, 0, 0, m, [x]⟩, p', ⟨K + 4, fun k hk => ?_⟩, .lst _ _ _ g1 g2 g hk12 (by omega), hr'⟩
          obtain ⟨k, rfl⟩ : ∃ j, k = j + 4 := ⟨k - 4, by omega⟩
          have e' := e (k) (by omega)
          dsimp only at e'
          show exactpplmake_Src_Type.f (k + 1 + 3) l p s ((d + 1 : Nat) : Int) = _
          rw [hj, if_neg (by omega), show (k1 == 4) = false from by simp; omega]
          simp only [exactpplmake_Src_Type.j2]
          rw [if_neg (by decide), e2, Option.bind_some]
          dsimp only
          rw [e', Option.bind_some]
          dsimp only
          rw [eta_s]

end Go.Proofs.YtggelekooacmnaaDoor.Pure
