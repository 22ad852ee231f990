import Derived.Test.YtggelekooacmnaaVb11
set_option linter.unusedVariables false
set_option linter.unusedSimpArgs false
namespace Go.Proofs.Ytggelekooacmnaa.Pure
open Go.RowKit Go.Proofs.Ytggelekooacmnaa.Q Go.Proofs.YtggelekooacmnaaW.bS Go.Proofs.YtggelekooacmnaaW.eQ
theorem ZO {n : Int} (h1 : -9223372036854775808 ≤ n) (h2 : n ≤ 9223372036854775807) : wrap64 n = n := by unfold wrap64; omega
theorem kT {n : Nat} (h2 : n ≤ 1000000000) : wrap64 ((n : Int) + 1) = ((n + 1 : Nat) : Int) := by unfold wrap64; omega
theorem rdT {l : List S27} {i : Nat} (h : i < l.length) : af l (i : Int) = l[i] := by
  unfold af; simp [List.getD, h]
theorem rdT0 {l : List S27} (h : 0 < l.length) : af l 0 = l[0] := by
  unfold af; simp [List.getD, h]
def Bd : Nat → S27 → Prop
  | 0, _ => False
  | n + 1, t => t.f4.length ≤ 1000 ∧ ∀ x ∈ t.f4, Bd n x
def at_ {α : Type} (g : Nat → Int → Int → Int → Int → List S27 → Option α) (t : S27) : Nat → Option α := fun k => g k t.f0 t.f1 t.f2 t.f3 t.f4
def mxl (f : S27 → Int) : List S27 → Int → Int
  | [], m => m
  | x :: l, m => mxl f l (mx m (f x))
def dep : Nat → S27 → Int
  | 0, _ => 0
  | n + 1, t => mxl (dep n) t.f4 0 + 1
theorem mx_le {a b c : Int} (h1 : a ≤ c) (h2 : b ≤ c) : mx a b ≤ c := by unfold mx; split <;> omega
theorem mx_ge {a b : Int} : a ≤ mx a b ∧ b ≤ mx a b := by unfold mx; split <;> omega
theorem Xe (f : S27 → Int) : ∀ (l : List S27) (m : Int), m ≤ mxl f l m
  | [], m => Int.le_refl _
  | x :: l, m => Int.le_trans mx_ge.1 (Xe f l _)
theorem Xf {f : S27 → Int} {c : Int} : ∀ {l : List S27} {m : Int}, (∀ x ∈ l, f x ≤ c) → m ≤ c → mxl f l m ≤ c
  | [], m, _, h => h
  | x :: l, m, h, hm => Xf (l := l) (fun y hy => h y (List.mem_cons_of_mem x hy)) (mx_le hm (h x List.mem_cons_self))
theorem Tc : ∀ (n : Nat) (t : S27), 0 ≤ dep n t ∧ dep n t ≤ n
  | 0, t => by simp [dep]
  | n + 1, t => by
    have h1 := Xe (dep n) t.f4 0
    have h2 := Xf (f := dep n) (c := n) (l := t.f4) (m := 0) (fun x _ => (Tc n x).2) (by omega)
    simp only [dep]; omega
theorem depth_l0 (n : Nat) (hn : n ≤ 1000) (l : List S27) (hl : l.length ≤ 1000) (ih : ∀ t ∈ l, Ev (at_ dK.f t) (dep n t)) :
    ∀ (d i : Nat) (m : Int), 0 ≤ m → m ≤ 1000 → i + d = l.length → Ev (fun k => dK.l0 k m l l.length i) (mxl (dep n) (l.drop i) m + 1) := by
  intro d
  induction d with
  | zero =>
    intro i m h0 h1 hi
    refine ⟨1, fun k hk => ?_⟩
    obtain ⟨k, rfl⟩ : ∃ j, k = j + 1 := ⟨k - 1, by omega⟩
    simp only [dK.l0]
    rw [if_neg (by omega), List.drop_eq_nil_of_le (by omega), ZO (by omega) (by omega)]; rfl
  | succ d IH =>
    intro i m h0 h1 hi
    have hlt : i < l.length := by omega
    obtain ⟨K1, e1⟩ := ih l[i] (List.getElem_mem hlt)
    have hb := Tc n l[i]
    obtain ⟨K2, e2⟩ := IH (i + 1) (mx m (dep n l[i])) (Int.le_trans h0 mx_ge.1) (mx_le h1 (by omega)) (by omega)
    refine ⟨max K1 K2 + 1, fun k hk => ?_⟩
    obtain ⟨k, rfl⟩ : ∃ j, k = j + 1 := ⟨k - 1, by omega⟩
    have e1' := e1 k (by omega)
    have e2' := e2 k (by omega)
    unfold at_ at e1'
    dsimp only at e1' e2'
    simp only [dK.l0]
    rw [if_pos (by omega), if_pos (by omega), if_pos (by omega), rdT hlt, e1', Option.bind_some, kT (by omega), e2', List.drop_eq_getElem_cons hlt]; rfl
theorem depth_ev (n : Nat) : ∀ (t : S27), n ≤ 1000 → Bd n t → Ev (at_ dK.f t) (dep n t) := by
  induction n with
  | zero => intro t _ h; exact h.elim
  | succ n ih =>
    intro t hn hb
    have h := depth_l0 n (by omega) t.f4 hb.1 (fun x hx => ih x (by omega) (hb.2 x hx)) t.f4.length 0 0 (by omega) (by omega) (by omega)
    exact h.step (fun k => by simp only [at_, dK.f]; rfl)
theorem mn_eq (a b : Int) : mn a b = min a b := by unfold mn; split <;> omega
theorem mx_eq (a b : Int) : mx a b = max a b := by unfold mx; split <;> omega
theorem mxl_eq (f : S27 → Int) : ∀ (l : List S27) (m c : Int), mxl (fun x => min (f x) c) l (min m c) = min (mxl f l m) c
  | [], m, c => rfl
  | x :: l, m, c => by
    simp only [mxl]
    rw [show mx (min m c) (min (f x) c) = min (mx m (f x)) c from by simp only [mx_eq]; omega]
    exact mxl_eq f l _ c
theorem Depth_l0 (n : Nat) (hn : n ≤ 1000) (l : List S27) (hl : l.length ≤ 1000) (c a b m' : Int) (hc : 1 ≤ c) (hc' : c ≤ 1000) (ih : ∀ t ∈ l, Ev (fun k => dx.f k t.f0 t.f1 t.f2 t.f3 t.f4 c) (min (dep n t) c)) (k0 : Int) :
    ∀ (d i : Nat) (m : Int), 0 ≤ m → m ≤ c → i + d = l.length → Ev (fun k => dx.l0 k (c + 1) m i k0 a b m' l) (min (mxl (fun x => min (dep n x) c) (l.drop i) m + 1) (c + 1)) := by
  intro d
  induction d with
  | zero =>
    intro i m h0 h1 hi
    refine ⟨1, fun k hk => ?_⟩
    obtain ⟨k, rfl⟩ : ∃ j, k = j + 1 := ⟨k - 1, by omega⟩
    simp only [dx.l0]
    rw [if_neg (by omega), List.drop_eq_nil_of_le (by omega), ZO (by omega) (by omega), mn_eq]; rfl
  | succ d IH =>
    intro i m h0 h1 hi
    have hlt : i < l.length := by omega
    obtain ⟨K1, e1⟩ := ih l[i] (List.getElem_mem hlt)
    have hb := Tc n l[i]
    obtain ⟨K2, e2⟩ := IH (i + 1) (mx m (min (dep n l[i]) c)) (Int.le_trans h0 mx_ge.1) (mx_le h1 (by omega)) (by omega)
    refine ⟨max K1 K2 + 1, fun k hk => ?_⟩
    obtain ⟨k, rfl⟩ : ∃ j, k = j + 1 := ⟨k - 1, by omega⟩
    have e1' := e1 k (by omega)
    have e2' := e2 k (by omega)
    dsimp only at e1' e2'
    have ew : wrap64 (c + 1 - 1) = c := by unfold wrap64; omega
    simp only [dx.l0]
    rw [if_pos (by omega), if_pos (by omega), rdT hlt, ew, e1', Option.bind_some, kT (by omega), e2', List.drop_eq_getElem_cons hlt]; rfl
theorem Depth_ev (n : Nat) : ∀ (t : S27) (c : Int), n ≤ 1000 → 1 ≤ c → c ≤ 1000 → Bd n t → Ev (fun k => dx.f k t.f0 t.f1 t.f2 t.f3 t.f4 c) (min (dep n t) c) := by
  induction n with
  | zero => intro t c _ _ _ h; exact h.elim
  | succ n ih =>
    intro t c hn h1 h2 hb
    by_cases hc : c = 1
    · subst hc
      have hd := Tc n
      have hd1 : 1 ≤ dep (n + 1) t := by have := Xe (dep n) t.f4 0; simp only [dep]; omega
      refine ⟨1, fun k hk => ?_⟩
      obtain ⟨k, rfl⟩ : ∃ j, k = j + 1 := ⟨k - 1, by omega⟩
      simp only [dx.f]
      rw [if_neg (by omega)]
      have : min (dep (n + 1) t) 1 = 1 := by omega
      rw [this]
      split
      · rfl
      · rw [mn_eq]; rfl
    · obtain ⟨c, rfl⟩ : ∃ e, c = e + 1 := ⟨c - 1, by omega⟩
      have h := Depth_l0 n (by omega) t.f4 hb.1 c t.f1 t.f2 t.f3 (by omega) (by omega) (fun x hx => ih x c (by omega) (by omega) (by omega) (hb.2 x hx)) t.f0 t.f4.length 0 0 (by omega) (by omega) (by omega)
      have e : min (mxl (fun x => min (dep n x) c) (t.f4.drop 0) 0 + 1) (c + 1) = min (dep (n + 1) t) (c + 1) := by
        have := mxl_eq (dep n) t.f4 0 c
        rw [show min (0 : Int) c = 0 from by omega] at this
        simp only [dep, List.drop_zero, this]; omega
      rw [← e]
      exact h.step (fun k => by simp only [dx.f]; rw [if_pos (by omega)]; rfl)
end Go.Proofs.Ytggelekooacmnaa.Pure
