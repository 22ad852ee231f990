/- Lemmas for: sP -/
import Derived.Test.YtggelekooacmnaaDoorTr2
import Derived.Test.YtggelekooacmnaaDoorTr3
import Derived.Test.YtggelekooacmnaaDoorTr4
import Derived.Test.YtggelekooacmnaaDoorTr5
import Derived.Test.YtggelekooacmnaaDoorTr6
namespace Go.Proofs.YtggelekooacmnaaDoor.Q
open Go.RowKit Go.Proofs.YtggelekooacmnaaDoorW.aU Go.Proofs.YtggelekooacmnaaDoorW.bD Go.Proofs.YtggelekooacmnaaDoorW.bH
attribute [local go_sem] dB dC dN dO cO cZ dD dE   -- for this text's walks alone
set_option linter.unusedVariables false
set_option linter.unusedSimpArgs false

/-- A state of type 63 at block g of W; what its slices lead to came in by w0. -/
def IsS63 (w0 W : World) (g : Nat) (f0 : List Int) (f1 : Int) (f2 : Int) : Prop := ∃ A0 c0, W.heap[g]? = some (.cells #[.slice A0 f0.length c0, .int .i64 f1, .int .i64 f2] 63 (0, 0)) ∧ w0.heap.size ≤ g ∧ Kd.C (Kd.int .i64) w0 A0 f0.length f0
theorem IsS63.ge {w0 W : World} {g : Nat} {f0 : List Int} {f1 : Int} {f2 : Int} (h : IsS63 w0 W g f0 f1 f2) : w0.heap.size ≤ g := by
 obtain ⟨A0, c0, hb, hg, hr0⟩ := h; exact hg
/-! ### Ti: function 14 -/
end Go.Proofs.YtggelekooacmnaaDoor.Q
namespace Go.Proofs.YtggelekooacmnaaDoor.Q
open Go.RowKit Go.Proofs.YtggelekooacmnaaDoorW.aU Go.Proofs.YtggelekooacmnaaDoorW.bD Go.Proofs.YtggelekooacmnaaDoorW.bH
attribute [local go_sem] dB dC dN dO cO cZ dD dE   -- for this text's walks alone
set_option linter.unusedVariables false
set_option linter.unusedSimpArgs false

/-! ### Sn: function 43 -/
end Go.Proofs.YtggelekooacmnaaDoor.Q
namespace Go.Proofs.YtggelekooacmnaaDoor.Q
open Go.RowKit Go.Proofs.YtggelekooacmnaaDoorW.aU Go.Proofs.YtggelekooacmnaaDoorW.bD Go.Proofs.YtggelekooacmnaaDoorW.bH
attribute [local go_sem] dB dC dN dO cO cZ dD dE   -- for this text's walks alone
set_option linter.unusedVariables false
set_option linter.unusedSimpArgs false

/-! ### Tf: function 20 -/
end Go.Proofs.YtggelekooacmnaaDoor.Q
namespace Go.Proofs.YtggelekooacmnaaDoor.Q
open Go.RowKit Go.Proofs.YtggelekooacmnaaDoorW.aU Go.Proofs.YtggelekooacmnaaDoorW.bD Go.Proofs.YtggelekooacmnaaDoorW.bH
attribute [local go_sem] dB dC dN dO cO cZ dD dE   -- for this text's walks alone
set_option linter.unusedVariables false
set_option linter.unusedSimpArgs false

/-! ### O0: function 17 -/
end Go.Proofs.YtggelekooacmnaaDoor.Q
namespace Go.Proofs.YtggelekooacmnaaDoor.Q
open Go.RowKit Go.Proofs.YtggelekooacmnaaDoorW.aU Go.Proofs.YtggelekooacmnaaDoorW.bD Go.Proofs.YtggelekooacmnaaDoorW.bH
attribute [local go_sem] dB dC dN dO cO cZ dD dE   -- for this text's walks alone
set_option linter.unusedVariables false
set_option linter.unusedSimpArgs false

/-! ### R4: function 15 -/
end Go.Proofs.YtggelekooacmnaaDoor.Q
namespace Go.Proofs.YtggelekooacmnaaDoor.Q
open Go.RowKit Go.Proofs.YtggelekooacmnaaDoorW.aU Go.Proofs.YtggelekooacmnaaDoorW.bD Go.Proofs.YtggelekooacmnaaDoorW.bH
attribute [local go_sem] dB dC dN dO cO cZ dD dE   -- for this text's walks alone
set_option linter.unusedVariables false
set_option linter.unusedSimpArgs false

/-! ### R5: function 54 -/
end Go.Proofs.YtggelekooacmnaaDoor.Q
set_option linter.unusedVariables false
set_option linter.unusedSimpArgs false
namespace Go.Proofs.YtggelekooacmnaaDoor.Pure
open Go.RowKit Go.Proofs.YtggelekooacmnaaDoor.Q Go.Proofs.YtggelekooacmnaaDoorW.aU Go.Proofs.YtggelekooacmnaaDoorW.bD Go.Proofs.YtggelekooacmnaaDoorW.bH
theorem eta_s (x : S24) : (⟨x.f0, x.f1, x.f2, x.f3, x.f4⟩ : S24) = x := by cases x; rfl

-- the reader of numbers, and the types that are built
/-- a reader's state -/
structure Rs (l : List Int) (at0 : Int) : Prop where
  len : l.length ≤ 1000
  lo : 0 ≤ at0
  hi : at0 ≤ l.length
/-- the types that are built, at most d deep -/
inductive Gt : Nat → S24 → Prop
  | bool (d : Nat) : Gt (d + 1) ⟨1, 0, 0, 0, []⟩
  | int (d : Nat) (lo hi : Int) (h1 : -2 ≤ lo) (h2 : lo ≤ hi) (h3 : hi ≤ lo + 3) (h4 : lo ≤ 3) : Gt (d + 1) ⟨2, lo, hi, 0, []⟩
  | tup (d : Nat) (l : List S24) (h1 : 2 ≤ l.length) (h2 : l.length ≤ 3) (h3 : ∀ x ∈ l, Gt d x) : Gt (d + 1) ⟨5, 0, 0, 0, l⟩
  | lst (d : Nat) (m : Int) (x : S24) (h1 : 1 ≤ m) (h2 : m ≤ 2) (h3 : Gt 1 x) (h4 : x.f0 = 1 ∨ x.f0 = 2) (h5 : 1 ≤ d) : Gt (d + 1) ⟨6, 0, 0, m, [x]⟩
end Go.Proofs.YtggelekooacmnaaDoor.Pure
set_option linter.unusedVariables false
set_option linter.unusedSimpArgs false
namespace Go.Proofs.YtggelekooacmnaaDoor.Pure
open Go.RowKit Go.Proofs.YtggelekooacmnaaDoor.Q Go.Proofs.YtggelekooacmnaaDoorW.aU Go.Proofs.YtggelekooacmnaaDoorW.bD Go.Proofs.YtggelekooacmnaaDoorW.bH
-- what the OY Equal says
theorem eqR_l0 (n : Nat) (l m : List S24) (hl : l.length = m.length) (h : l.length ≤ 1000) (a0 a1 a2 a3 b0 b1 b2 b3 : Int)
    (ih : ∀ x ∈ l, ∀ y, Ev (fun k => aJ.f k x.f0 x.f1 x.f2 x.f3 x.f4 y.f0 y.f1 y.f2 y.f3 y.f4) (eqT x y)) :
    ∀ (d i : Nat), i + d = l.length → Ev (fun k => aJ.l0 k i a0 a1 a2 a3 l b0 b1 b2 b3 m) (sK (l.drop i) (m.drop i)) := by
  intro d
  induction d with
  | zero =>
    intro i hi
    refine ⟨1, fun k hk => ?_⟩
    obtain ⟨k, rfl⟩ : ∃ j, k = j + 1 := ⟨k - 1, by omega⟩
    simp only [aJ.l0]
    rw [if_neg (by omega), List.drop_eq_nil_of_le (by omega), List.drop_eq_nil_of_le (by omega)]
    simp [sK]
  | succ d IH =>
    intro i hi
    have hlt : i < l.length := by omega
    have hlm : i < m.length := by omega
    obtain ⟨K1, e1⟩ := ih l[i] (List.getElem_mem hlt) m[i]
    obtain ⟨K2, e2⟩ := IH (i + 1) (by omega)
    refine ⟨max K1 K2 + 1, fun k hk => ?_⟩
    obtain ⟨k, rfl⟩ : ∃ j, k = j + 1 := ⟨k - 1, by omega⟩
    have e1' := e1 k (by omega)
    have e2' := e2 k (by omega)
    dsimp only at e1' e2'
    simp only [aJ.l0]
    rw [if_pos (by omega), if_pos (by omega), if_pos (by omega), rdT hlt, rdT hlm, e1', Option.bind_some, iP (by omega), e2', List.drop_eq_getElem_cons hlt, List.drop_eq_getElem_cons hlm]
    have q : sK (l[i] :: l.drop (i + 1)) (m[i] :: m.drop (i + 1)) = (eqT l[i] m[i] && sK (l.drop (i + 1)) (m.drop (i + 1))) := by rw [sK]
    rw [q]
    cases eqT l[i] m[i] <;> simp
theorem eqR_ev (n : Nat) : ∀ (x y : S24), n ≤ 1000 → Bd n x → Ev (fun k => aJ.f k x.f0 x.f1 x.f2 x.f3 x.f4 y.f0 y.f1 y.f2 y.f3 y.f4) (eqT x y) := by
  induction n with
  | zero => intro x y _ h; exact h.elim
  | succ n ih =>
    intro x y hn hb
    obtain ⟨a0, a1, a2, a3, l⟩ := x
    obtain ⟨b0, b1, b2, b3, m⟩ := y
    dsimp only
    have hE : eqT ⟨a0, a1, a2, a3, l⟩ ⟨b0, b1, b2, b3, m⟩ = (a0 == b0 && a1 == b1 && a2 == b2 && a3 == b3 && sK l m) := by unfold eqT; rfl
    rw [hE]
    have J : ∀ k c, aJ.j0 (k + 1) true a0 a1 a2 a3 l b0 b1 b2 b3 m = some c ↔ false = c := by intro k c; simp [aJ.j0]
    by_cases h0 : a0 = b0
    · by_cases h1 : a1 = b1
      · by_cases h2 : a2 = b2
        · by_cases h3 : a3 = b3
          · by_cases hl : l.length = m.length
            · obtain ⟨K, e⟩ := eqR_l0 n l m hl hb.1 a0 a1 a2 a3 b0 b1 b2 b3 (fun x hx y => ih x y (by omega) (hb.2 x hx)) l.length 0 (by omega)
              refine ⟨K + 2, fun k hk => ?_⟩
              obtain ⟨k, rfl⟩ : ∃ j, k = j + 2 := ⟨k - 2, by omega⟩
              have e' := e k (by omega)
              dsimp only at e'
              simp only [aJ.f, aJ.j0]
              rw [if_pos h0, if_pos h1, if_pos h2, if_pos h3, if_neg (by simp [hl])]
              have e3 : ((0 : Nat) : Int) = 0 := rfl
              rw [e3] at e'
              rw [e']
              simp [h0, h1, h2, h3]
            · refine ⟨2, fun k hk => ?_⟩
              obtain ⟨k, rfl⟩ : ∃ j, k = j + 2 := ⟨k - 2, by omega⟩
              simp only [aJ.f, aJ.j0]
              rw [if_pos h0, if_pos h1, if_pos h2, if_pos h3, if_pos (by simp; omega), OA hl]; simp
          · refine ⟨2, fun k hk => ?_⟩
            obtain ⟨k, rfl⟩ : ∃ j, k = j + 2 := ⟨k - 2, by omega⟩
            simp only [aJ.f]
            rw [if_pos h0, if_pos h1, if_pos h2, if_neg h3]; simp [aJ.j0, h3]
        · refine ⟨2, fun k hk => ?_⟩
          obtain ⟨k, rfl⟩ : ∃ j, k = j + 2 := ⟨k - 2, by omega⟩
          simp only [aJ.f]
          rw [if_pos h0, if_pos h1, if_neg h2]; simp [aJ.j0, h2]
      · refine ⟨2, fun k hk => ?_⟩
        obtain ⟨k, rfl⟩ : ∃ j, k = j + 2 := ⟨k - 2, by omega⟩
        simp only [aJ.f]
        rw [if_pos h0, if_neg h1]; simp [aJ.j0, h1]
    · refine ⟨2, fun k hk => ?_⟩
      obtain ⟨k, rfl⟩ : ∃ j, k = j + 2 := ⟨k - 2, by omega⟩
      simp only [aJ.f]
      rw [if_neg h0]; simp [aJ.j0, h0]

end Go.Proofs.YtggelekooacmnaaDoor.Pure
set_option linter.unusedVariables false
set_option linter.unusedSimpArgs false
namespace Go.Proofs.YtggelekooacmnaaDoor.Pure
open Go.RowKit Go.Proofs.YtggelekooacmnaaDoor.Q Go.Proofs.YtggelekooacmnaaDoorW.aU Go.Proofs.YtggelekooacmnaaDoorW.bD Go.Proofs.YtggelekooacmnaaDoorW.bH
def Bg : Nat → S24 → Prop
  | 0, _ => False
  | n + 1, t => t.f4.length ≤ n ∧ ∀ x ∈ t.f4, Bg n x
theorem Bg.up {n : Nat} : ∀ {t : S24}, Bg n t → Bg (n + 1) t := by
  induction n with
  | zero => intro t h; exact h.elim
  | succ n ih => intro t h; exact ⟨Nat.le_succ_of_le h.1, fun x hx => ih (h.2 x hx)⟩
theorem Bg.mono {n m : Nat} (h : n ≤ m) {t : S24} (ht : Bg n t) : Bg m t := by
  induction h with
  | refl => exact ht
  | step _ ih => exact ih.up
def BF (f : S24 → Int) : List S24 → Int → Int
  | [], m => m
  | x :: l, m => if m < 200 then BF f l (m + f x) else m
def cnt : Nat → S24 → Int
  | 0, _ => 1
  | n + 1, t => BF (cnt n) t.f4 1
theorem R6 {f : S24 → Int} {B : Int} (hB : 0 ≤ B) : ∀ {l : List S24} {m : Int}, (∀ x ∈ l, 1 ≤ f x ∧ f x ≤ B) → 1 ≤ m → m ≤ 200 + B → m ≤ BF f l m ∧ BF f l m ≤ 200 + B
  | [], m, _, h1, h2 => ⟨Int.le_refl _, h2⟩
  | x :: l, m, h, h1, h2 => by
    simp only [BF]
    have hx := h x List.mem_cons_self
    split
    · have := R6 hB (l := l) (m := m + f x) (fun y hy => h y (List.mem_cons_of_mem x hy)) (by omega) (by omega)
      omega
    · omega
theorem OL (n : Nat) : ∀ t : S24, 1 ≤ cnt n t ∧ cnt n t ≤ 200 * n + 1 := by
  induction n with
  | zero => intro t; simp [cnt]
  | succ n ih =>
    intro t
    have h := R6 (f := cnt n) (B := 200 * n + 1) (by omega) (l := t.f4) (m := 1) (fun x _ => ih x) (by omega) (by omega)
    simp only [cnt]
    omega
theorem LM {f : S24 → Int} : ∀ {l : List S24} {m : Int}, (∀ x ∈ l, 1 ≤ f x) → BF f l m ≤ 100 → m + l.length ≤ BF f l m ∧ ∀ x ∈ l, m + f x ≤ BF f l m
  | [], m, _, h => by simp [BF]
  | x :: l, m, h1, h => by
    simp only [BF] at h ⊢
    have hx := h1 x List.mem_cons_self
    by_cases c : m < 200
    · rw [if_pos c] at h ⊢
      have ih := LM (l := l) (m := m + f x) (fun y hy => h1 y (List.mem_cons_of_mem x hy)) h
      refine ⟨by simp only [List.length_cons]; omega, fun y hy => ?_⟩
      rcases List.mem_cons.1 hy with rfl | hy
      · omega
      · have := ih.2 y hy; omega
    · rw [if_neg c] at h; omega
theorem cnt_bg (m : Nat) : ∀ (n : Nat) {t : S24}, Bg n t → cnt n t ≤ m → m ≤ 100 → Bd m t := by
  induction m with
  | zero => intro n t _ h; have := OL n t; omega
  | succ m ih =>
    intro n t hb h hm
    cases n with
    | zero => exact hb.elim
    | succ n =>
      simp only [cnt] at h
      have hs := LM (f := cnt n) (l := t.f4) (m := 1) (fun x _ => (OL n x).1) (by omega)
      exact ⟨by have := hs.1; omega, fun x hx => ih n (hb.2 x hx) (by have := hs.2 x hx; omega) (by omega)⟩
theorem count_lp (n : Nat) (hn : n ≤ 2000000) (a0 a1 a2 a3 : Int) (l : List S24) (hl : l.length ≤ 2000000) (ih : ∀ t ∈ l, Ev (at_ bW.f t) (cnt n t)) :
    ∀ (d i : Nat) (m : Int), 1 ≤ m → m ≤ 1000000000 → i + d = l.length → Ev (fun k => bW.l0 k m i a0 a1 a2 a3 l) (BF (cnt n) (l.drop i) m) := by
  intro d
  induction d with
  | zero =>
    intro i m _ _ hi
    refine ⟨1, fun k hk => ?_⟩
    obtain ⟨k, rfl⟩ : ∃ j, k = j + 1 := ⟨k - 1, by omega⟩
    simp only [bW.l0]
    rw [if_neg (by omega), List.drop_eq_nil_of_le (by omega)]; rfl
  | succ d IH =>
    intro i m h1 h2 hi
    have hlt : i < l.length := by omega
    rw [List.drop_eq_getElem_cons hlt]
    simp only [BF]
    by_cases c : m < 200
    · rw [if_pos c]
      obtain ⟨K1, e1⟩ := ih l[i] (List.getElem_mem hlt)
      have hb := OL n l[i]
      obtain ⟨K2, e2⟩ := IH (i + 1) (m + cnt n l[i]) (by omega) (by omega) (by omega)
      refine ⟨max K1 K2 + 1, fun k hk => ?_⟩
      obtain ⟨k, rfl⟩ : ∃ j, k = j + 1 := ⟨k - 1, by omega⟩
      have e1' := e1 k (by omega)
      have e2' := e2 k (by omega)
      unfold at_ at e1'
      dsimp only at e1' e2'
      simp only [bW.l0]
      rw [if_pos (by omega), if_pos c, if_pos (by omega), rdT hlt, e1', Option.bind_some, iP (by omega), FU (by omega) (by omega), e2']
    · rw [if_neg c]
      refine ⟨1, fun k hk => ?_⟩
      obtain ⟨k, rfl⟩ : ∃ j, k = j + 1 := ⟨k - 1, by omega⟩
      simp only [bW.l0]
      rw [if_pos (by omega), if_neg c]
theorem OM (n : Nat) : ∀ {t : S24}, n ≤ 2000000 → Bg n t → Ev (at_ bW.f t) (cnt n t) := by
  induction n with
  | zero => intro t _ h; exact h.elim
  | succ n ih =>
    intro t hn hb
    obtain ⟨K, e⟩ := count_lp n (by omega) t.f0 t.f1 t.f2 t.f3 t.f4 (by have := hb.1; omega) (fun x hx => ih (by omega) (hb.2 x hx)) t.f4.length 0 1 (by omega) (by omega) (by omega)
    refine ⟨K + 1, fun k hk => ?_⟩
    obtain ⟨k, rfl⟩ : ∃ j, k = j + 1 := ⟨k - 1, by omega⟩
    have e' := e k (by omega)
    dsimp only at e'
    simp only [at_, bW.f]
    exact e'
theorem OO : Ev (fun k => dP.f k) true := by
  have h : dP.f 40 = some true := by kernel_rfl
  exact Ev.of (fun k => dP.mono k) h
theorem raw_j0t {t u : S24} : Ev (fun k => bB.j0 k true t.f0 t.f1 t.f2 t.f3 t.f4 u.f0 u.f1 u.f2 u.f3 u.f4) true := by
  obtain ⟨K0, a0⟩ := OO
  dsimp only at a0
  refine ⟨K0 + 1, fun k hk => ?_⟩
  obtain ⟨k, rfl⟩ : ∃ j, k = j + 1 := ⟨k - 1, by omega⟩
  simp only [bB.j0]
  rw [if_pos trivial, a0 k (by omega), Option.bind_some]
theorem raw_ev {n m : Nat} {t u : S24} (hn : n ≤ 2000000) (hm : m ≤ 2000000) (ht : Bg n t) (hu : Bg m u) : ∃ k, bB.f k t.f0 t.f1 t.f2 t.f3 t.f4 u.f0 u.f1 u.f2 u.f3 u.f4 = some true := by
  obtain ⟨K1, e1⟩ := OM n hn ht
  obtain ⟨K2, e2⟩ := OM m hm hu
  obtain ⟨K3, e3⟩ := raw_j0t (t := t) (u := u)
  unfold at_ at e1 e2
  dsimp only at e3
  by_cases c1 : cnt n t > 100
  · refine ⟨K1 + K3, ?_⟩
    simp only [bB.f]
    rw [e1 _ (by omega), Option.bind_some, if_pos c1, e3 _ (by omega)]
  · by_cases c2 : cnt m u > 100
    · refine ⟨K1 + K2 + K3, ?_⟩
      simp only [bB.f]
      rw [e1 _ (by omega), Option.bind_some, if_neg c1, e2 _ (by omega), Option.bind_some, decide_eq_true c2, e3 _ (by omega)]
    · have bt := cnt_bg 100 n ht (by omega) (by omega)
      obtain ⟨K4, e4⟩ := Te (by omega) bt
      obtain ⟨K5, e5⟩ := eqR_ev 100 t u (by omega) bt
      obtain ⟨K0, a0⟩ := OO
      unfold at_ at e4
      dsimp only at e5 a0
      have hq : gz.f t.f0 t.f1 t.f2 t.f3 t.f4 u.f0 u.f1 u.f2 u.f3 u.f4 = some (eqT t u) := by unfold gz.f; rw [eta_s, eta_s]
      have hq2 : gz.f t.f0 t.f1 t.f2 t.f3 t.f4 t.f0 t.f1 t.f2 t.f3 t.f4 = some true := by unfold gz.f; rw [eta_s, (Jl t t).2 rfl]
      refine ⟨K0 + K1 + K2 + K4 + K5 + 1, ?_⟩
      simp only [bB.f]
      rw [e1 _ (by omega), Option.bind_some, if_neg c1, e2 _ (by omega), Option.bind_some, decide_eq_false c2]
      simp only [bB.j0]
      rw [if_neg (by decide), e4 _ (by omega), Option.bind_some, if_pos rfl, hq, Option.bind_some, e5 _ (by omega), Option.bind_some, if_pos (by simp), hq2, Option.bind_some, if_pos rfl, a0 _ (by omega), Option.bind_some]
end Go.Proofs.YtggelekooacmnaaDoor.Pure
