import Derived.Test.YtggelekooacmnaaDoorC4
set_option linter.unusedVariables false
set_option linter.unusedSimpArgs false
namespace Go.Proofs.YtggelekooacmnaaDoor.Pure
open Go.RowKit Go.Proofs.YtggelekooacmnaaDoor.R Go.Proofs.YtggelekooacmnaaDoorW.PrintWords Go.Proofs.YtggelekooacmnaaDoorW.PrintLast
-- plain laws on types: what the printed functions of the types come to
theorem wrap_in {n : Int} (h1 : -9223372036854775808 ≤ n) (h2 : n ≤ 9223372036854775807) : wrap64 n = n := by unfold wrap64; omega
theorem wrap_nat {n : Nat} (h2 : n ≤ 1000000000) : wrap64 ((n : Int) + 1) = ((n + 1 : Nat) : Int) := by unfold wrap64; omega
theorem rdT {l : List S24} {i : Nat} (h : i < l.length) : rd_T24 l (i : Int) = l[i] := by
  unfold rd_T24; simp [List.getD, h]
theorem rdT0 {l : List S24} (h : 0 < l.length) : rd_T24 l 0 = l[0] := by
  unfold rd_T24; simp [List.getD, h]
/-- bounded: n levels at most, each list of at most a thousand -/
def Bd : Nat → S24 → Prop
  | 0, _ => False
  | n + 1, t => t.f4.length ≤ 1000 ∧ ∀ x ∈ t.f4, Bd n x
theorem Bd.mono {n : Nat} : ∀ {t : S24}, Bd n t → Bd (n + 1) t := by
  induction n with
  | zero => intro t h; exact h.elim
  | succ n ih => intro t h; exact ⟨h.1, fun x hx => ih (h.2 x hx)⟩
/-- an evaluation of a function of types at a type -/
def at_ {α : Type} (g : Nat → Int → Int → Int → Int → List S24 → Option α) (t : S24) : Nat → Option α := fun k => g k t.f0 t.f1 t.f2 t.f3 t.f4
def mxl (f : S24 → Int) : List S24 → Int → Int
  | [], m => m
  | x :: l, m => mxl f l (mx m (f x))
def dep : Nat → S24 → Int
  | 0, _ => 0
  | n + 1, t => mxl (dep n) t.f4 0 + 1
theorem mx_le {a b c : Int} (h1 : a ≤ c) (h2 : b ≤ c) : mx a b ≤ c := by unfold mx; split <;> omega
theorem mx_ge {a b : Int} : a ≤ mx a b ∧ b ≤ mx a b := by unfold mx; split <;> omega
theorem mxl_ge (f : S24 → Int) : ∀ (l : List S24) (m : Int), m ≤ mxl f l m
  | [], m => Int.le_refl _
  | x :: l, m => Int.le_trans mx_ge.1 (mxl_ge f l _)
theorem mxl_le {f : S24 → Int} {c : Int} : ∀ {l : List S24} {m : Int}, (∀ x ∈ l, f x ≤ c) → m ≤ c → mxl f l m ≤ c
  | [], m, _, h => h
  | x :: l, m, h, hm => mxl_le (l := l) (fun y hy => h y (List.mem_cons_of_mem x hy)) (mx_le hm (h x List.mem_cons_self))
theorem dep_bd : ∀ (n : Nat) (t : S24), 0 ≤ dep n t ∧ dep n t ≤ n
  | 0, t => by simp [dep]
  | n + 1, t => by
    have h1 := mxl_ge (dep n) t.f4 0
    have h2 := mxl_le (f := dep n) (c := n) (l := t.f4) (m := 0) (fun x _ => (dep_bd n x).2) (by omega)
    simp only [dep]; omega
theorem depth_l0 (n : Nat) (hn : n ≤ 1000) (l : List S24) (hl : l.length ≤ 1000) (ih : ∀ t ∈ l, Ev (at_ types_depth.f t) (dep n t)) :
    ∀ (d i : Nat) (m : Int), 0 ≤ m → m ≤ 1000 → i + d = l.length → Ev (fun k => types_depth.l0 k m l l.length i) (mxl (dep n) (l.drop i) m + 1) := by
  intro d
  induction d with
  | zero =>
    intro i m h0 h1 hi
    refine ⟨1, fun k hk => ?_⟩
    obtain ⟨k, rfl⟩ : ∃ j, k = j + 1 := ⟨k - 1, by omega⟩
    simp only [types_depth.l0]
    rw [if_neg (by omega), List.drop_eq_nil_of_le (by omega), wrap_in (by omega) (by omega)]; rfl
  | succ d IH =>
    intro i m h0 h1 hi
    have hlt : i < l.length := by omega
    obtain ⟨K1, e1⟩ := ih l[i] (List.getElem_mem hlt)
    have hb := dep_bd n l[i]
    obtain ⟨K2, e2⟩ := IH (i + 1) (mx m (dep n l[i])) (Int.le_trans h0 mx_ge.1) (mx_le h1 (by omega)) (by omega)
    refine ⟨max K1 K2 + 1, fun k hk => ?_⟩
    obtain ⟨k, rfl⟩ : ∃ j, k = j + 1 := ⟨k - 1, by omega⟩
    have e1' := e1 k (by omega)
    have e2' := e2 k (by omega)
    unfold at_ at e1'
    dsimp only at e1' e2'
    simp only [types_depth.l0]
    rw [if_pos (by omega), if_pos (by omega), if_pos (by omega), rdT hlt, e1', Option.bind_some, wrap_nat (by omega), e2', List.drop_eq_getElem_cons hlt]; rfl
theorem depth_ev (n : Nat) : ∀ (t : S24), n ≤ 1000 → Bd n t → Ev (at_ types_depth.f t) (dep n t) := by
  induction n with
  | zero => intro t _ h; exact h.elim
  | succ n ih =>
    intro t hn hb
    have h := depth_l0 n (by omega) t.f4 hb.1 (fun x hx => ih x (by omega) (hb.2 x hx)) t.f4.length 0 0 (by omega) (by omega) (by omega)
    exact h.step (fun k => by simp only [at_, types_depth.f]; rfl)
theorem mn_eq (a b : Int) : mn a b = min a b := by unfold mn; split <;> omega
theorem mx_eq (a b : Int) : mx a b = max a b := by unfold mx; split <;> omega

end Go.Proofs.YtggelekooacmnaaDoor.Pure
