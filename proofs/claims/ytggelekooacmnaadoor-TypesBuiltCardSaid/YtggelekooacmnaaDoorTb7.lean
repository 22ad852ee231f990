/- Lemmas for: mo -/
import Derived.Test.YtggelekooacmnaaDoorTb2
import Derived.Test.YtggelekooacmnaaDoorTb3
import Derived.Test.YtggelekooacmnaaDoorTb4
import Derived.Test.YtggelekooacmnaaDoorTb6
set_option linter.unusedVariables false
set_option linter.unusedSimpArgs false
namespace Go.Proofs.YtggelekooacmnaaDoor.Pure
open Go.RowKit Go.Proofs.YtggelekooacmnaaDoor.Q Go.Proofs.YtggelekooacmnaaDoorW.bg Go.Proofs.YtggelekooacmnaaDoorW.bW Go.Proofs.YtggelekooacmnaaDoorW.dh
theorem cells_l0 (n : Nat) (x : S24) (a0 a1 a2 m : Int) (hm : m ≤ 4) (ih : Ev (at_ bG.f x) (prt n x)) (hx : (prt n x).length = 1) :
    ∀ (d i : Nat) (o : List S41), o.length ≤ i + 1 → (i : Int) + d = m → Ev (fun k => bG.l0 k o m i a0 a1 a2 m [x]) (o ++ (List.replicate d (prt n x)).flatten) := by
  intro d
  induction d with
  | zero =>
    intro i o ho hi
    refine ⟨1, fun k hk => ?_⟩
    obtain ⟨k, rfl⟩ : ∃ j, k = j + 1 := ⟨k - 1, by omega⟩
    simp only [bG.l0]
    rw [if_neg (by omega)]; simp
  | succ d IH =>
    intro i o ho hi
    obtain ⟨K1, e1⟩ := ih
    obtain ⟨K2, e2⟩ := IH (i + 1) (o ++ prt n x) (by rw [List.length_append]; omega) (by omega)
    refine ⟨max K1 K2 + 1, fun k hk => ?_⟩
    obtain ⟨k, rfl⟩ : ∃ j, k = j + 1 := ⟨k - 1, by omega⟩
    have e1' := e1 k (by omega)
    have e2' := e2 k (by omega)
    unfold at_ at e1'
    dsimp only at e1' e2'
    simp only [bG.l0]
    rw [if_pos (by omega), if_pos (by simp), rd1, e1', Option.bind_some, if_pos (by omega), mi (by omega), e2', List.append_assoc]
    simp only [List.replicate_succ, List.flatten_cons]
theorem cells_l1 (n : Nat) (l : List S24) (hl : l.length ≤ 4) (a0 a1 a2 a3 : Int) (B : Nat) (hB : B ≤ 10000000) (ih : ∀ t ∈ l, Ev (at_ bG.f t) (prt n t) ∧ (prt n t).length ≤ B) :
    ∀ (d i : Nat) (o : List S41), o.length ≤ i * B → i + d = l.length → Ev (fun k => bG.l1 k o l l.length i) (o ++ ((l.drop i).map (prt n)).flatten) := by
  intro d
  induction d with
  | zero =>
    intro i o ho hi
    refine ⟨1, fun k hk => ?_⟩
    obtain ⟨k, rfl⟩ : ∃ j, k = j + 1 := ⟨k - 1, by omega⟩
    simp only [bG.l1]
    rw [if_neg (by omega), List.drop_eq_nil_of_le (by omega)]; simp
  | succ d IH =>
    intro i o ho hi
    have hlt : i < l.length := by omega
    obtain ⟨⟨K1, e1⟩, hb⟩ := ih l[i] (List.getElem_mem hlt)
    have hm : (o ++ prt n l[i]).length ≤ (i + 1) * B := by rw [List.length_append, Nat.add_mul]; omega
    have hm2 : (i + 1) * B ≤ 4 * B := Nat.mul_le_mul_right _ (by omega)
    obtain ⟨K2, e2⟩ := IH (i + 1) (o ++ prt n l[i]) hm (by omega)
    refine ⟨max K1 K2 + 1, fun k hk => ?_⟩
    obtain ⟨k, rfl⟩ : ∃ j, k = j + 1 := ⟨k - 1, by omega⟩
    have e1' := e1 k (by omega)
    have e2' := e2 k (by omega)
    unfold at_ at e1'
    dsimp only at e1' e2'
    simp only [bG.l1]
    rw [List.length_append] at hm
    rw [if_pos (by omega), if_pos (by omega), if_pos (by omega), rdT hlt, e1', Option.bind_some, if_pos (by omega), mi (by omega), e2', List.append_assoc, List.drop_eq_getElem_cons hlt]
    simp only [List.map_cons, List.flatten_cons]
theorem cells_ev (n : Nat) : ∀ {t : S24}, n ≤ 10 → Vt n t → Ev (at_ bG.f t) (prt n t) := by
  induction n with
  | zero => intro t _ h; cases h
  | succ n ih =>
    intro t hn h
    cases h with
    | bool =>
      refine ⟨2, fun k hk => ?_⟩
      obtain ⟨k, rfl⟩ : ∃ j, k = j + 2 := ⟨k - 2, by omega⟩
      simp [at_, bG.f, bG.j0, prt]
    | int _ lo hi h1 h2 h3 =>
      refine ⟨2, fun k hk => ?_⟩
      obtain ⟨k, rfl⟩ : ∃ j, k = j + 2 := ⟨k - 2, by omega⟩
      simp [at_, bG.f, bG.j0, prt]
    | nat =>
      refine ⟨2, fun k hk => ?_⟩
      obtain ⟨k, rfl⟩ : ∃ j, k = j + 2 := ⟨k - 2, by omega⟩
      simp [at_, bG.f, bG.j0, prt]
    | real =>
      refine ⟨2, fun k hk => ?_⟩
      obtain ⟨k, rfl⟩ : ∃ j, k = j + 2 := ⟨k - 2, by omega⟩
      simp [at_, bG.f, bG.j0, prt]
    | tup _ l h1 h2 h3 h4 =>
      have hp := pow5 (show n ≤ 9 by omega)
      obtain ⟨K, e⟩ := cells_l1 n l h2 5 0 0 0 (5 ^ n) (by omega) (fun x hx => ⟨ih (by omega) (h3 x hx), (TH n (h3 x hx)).1⟩) l.length 0 [] (by simp) (by omega)
      rw [prt5]
      refine ⟨K + 2, fun k hk => ?_⟩
      obtain ⟨k, rfl⟩ : ∃ j, k = j + 2 := ⟨k - 2, by omega⟩
      have e' := e k (by omega)
      simp [at_, bG.f, bG.j0]
      simpa using e'
    | lst _ m x h1 h2 h3 h4 =>
      have e1 := UF h3 h4
      obtain ⟨K, e⟩ := cells_l0 n x 6 0 0 m h2 (ih (by omega) h3) e1 m.toNat 0 [⟨2, 0, m⟩] (by simp) (by omega)
      rw [prt6]
      refine ⟨K + 2, fun k hk => ?_⟩
      obtain ⟨k, rfl⟩ : ∃ j, k = j + 2 := ⟨k - 2, by omega⟩
      have e' := e k (by omega)
      simp [at_, bG.f, bG.j0]
      simpa using e'
end Go.Proofs.YtggelekooacmnaaDoor.Pure
set_option linter.unusedVariables false
set_option linter.unusedSimpArgs false
namespace Go.Proofs.YtggelekooacmnaaDoor.Pure
open Go.RowKit Go.Proofs.YtggelekooacmnaaDoor.Q Go.Proofs.YtggelekooacmnaaDoorW.bg Go.Proofs.YtggelekooacmnaaDoorW.bW Go.Proofs.YtggelekooacmnaaDoorW.dh
def mst (a b : Int) : Int := mn (wrap64 (a * b)) 1073741825
def prd (f : S24 → Int) : List S24 → Int → Int
  | [], m => m
  | x :: l, m => prd f l (mst m (f x))
def pws (s : Int) : Nat → Int → Int → Int
  | 0, n, _ => n
  | d + 1, n, p => pws s d (mn (wrap64 (n + mst p s)) 1073741825) (mst p s)
def siz : Nat → S24 → Int
  | 0, _ => 0
  | n + 1, t => if t.f0 = 5 then prd (siz n) t.f4 1 else if t.f0 = 6 then pws (siz n (ah t.f4 0)) t.f3.toNat 1 1 else if t.f0 = 1 then 2 else t.f2 - t.f1 + 1
theorem size_l0 (n : Nat) (l : List S24) (hl : l.length ≤ 4) (ih : ∀ t ∈ l, Ev (at_ types_size.f t) (siz n t)) :
    ∀ (d i : Nat) (m : Int), i + d = l.length → Ev (fun k => types_size.l0 k m l l.length i) (prd (siz n) (l.drop i) m) := by
  intro d
  induction d with
  | zero =>
    intro i m hi
    refine ⟨1, fun k hk => ?_⟩
    obtain ⟨k, rfl⟩ : ∃ j, k = j + 1 := ⟨k - 1, by omega⟩
    simp only [types_size.l0]
    rw [if_neg (by omega), List.drop_eq_nil_of_le (by omega)]; rfl
  | succ d IH =>
    intro i m hi
    have hlt : i < l.length := by omega
    obtain ⟨K1, e1⟩ := ih l[i] (List.getElem_mem hlt)
    obtain ⟨K2, e2⟩ := IH (i + 1) (mst m (siz n l[i])) (by omega)
    refine ⟨max K1 K2 + 1, fun k hk => ?_⟩
    obtain ⟨k, rfl⟩ : ∃ j, k = j + 1 := ⟨k - 1, by omega⟩
    have e1' := e1 k (by omega)
    have e2' := e2 k (by omega)
    unfold at_ at e1'
    unfold mst at e2'
    dsimp only at e1' e2'
    simp only [types_size.l0]
    rw [if_pos (by omega), if_pos (by omega), if_pos (by omega), rdT hlt, e1', Option.bind_some, mi (by omega), e2', List.drop_eq_getElem_cons hlt]
    rfl
theorem count_l1 (n : Nat) (l : List S24) (hl : l.length ≤ 4) (a0 a1 a2 a3 : Int) (ih : ∀ t ∈ l, Ev (at_ bR.f t) (siz n t)) :
    ∀ (d i : Nat) (m : Int), i + d = l.length → Ev (fun k => bR.l1 k m i a0 a1 a2 a3 l) (prd (siz n) (l.drop i) m) := by
  intro d
  induction d with
  | zero =>
    intro i m hi
    refine ⟨1, fun k hk => ?_⟩
    obtain ⟨k, rfl⟩ : ∃ j, k = j + 1 := ⟨k - 1, by omega⟩
    simp only [bR.l1]
    rw [if_neg (by omega), List.drop_eq_nil_of_le (by omega)]; rfl
  | succ d IH =>
    intro i m hi
    have hlt : i < l.length := by omega
    obtain ⟨K1, e1⟩ := ih l[i] (List.getElem_mem hlt)
    obtain ⟨K2, e2⟩ := IH (i + 1) (mst m (siz n l[i])) (by omega)
    refine ⟨max K1 K2 + 1, fun k hk => ?_⟩
    obtain ⟨k, rfl⟩ : ∃ j, k = j + 1 := ⟨k - 1, by omega⟩
    have e1' := e1 k (by omega)
    have e2' := e2 k (by omega)
    unfold at_ at e1'
    unfold mst at e2'
    dsimp only at e1' e2'
    simp only [bR.l1]
    rw [if_pos (by omega), if_pos (by omega), rdT hlt, e1', Option.bind_some, mi (by omega), e2', List.drop_eq_getElem_cons hlt]
    rfl
theorem size_l1 (s : Int) (m : Nat) (hm : m ≤ 4) : ∀ (d i : Nat) (n p : Int), i + d = m → Ev (fun k => types_size.l1 k n p s m i) (pws s d n p) := by
  intro d
  induction d with
  | zero =>
    intro i n p hi
    refine ⟨1, fun k hk => ?_⟩
    obtain ⟨k, rfl⟩ : ∃ j, k = j + 1 := ⟨k - 1, by omega⟩
    simp only [types_size.l1]
    rw [if_neg (by omega)]; rfl
  | succ d IH =>
    intro i n p hi
    obtain ⟨K2, e2⟩ := IH (i + 1) (mn (wrap64 (n + mst p s)) 1073741825) (mst p s) (by omega)
    refine ⟨K2 + 1, fun k hk => ?_⟩
    obtain ⟨k, rfl⟩ : ∃ j, k = j + 1 := ⟨k - 1, by omega⟩
    have e2' := e2 k (by omega)
    unfold mst at e2'
    dsimp only at e2'
    simp only [types_size.l1]
    rw [if_pos (by omega), mi (by omega), e2']
    rfl
theorem count_l0 (s a0 a1 a2 : Int) (l : List S24) (m : Nat) (hm : m ≤ 4) : ∀ (d i : Nat) (n p : Int), i + d = m → Ev (fun k => bR.l0 k s p n i a0 a1 a2 m l) (pws s d n p) := by
  intro d
  induction d with
  | zero =>
    intro i n p hi
    refine ⟨1, fun k hk => ?_⟩
    obtain ⟨k, rfl⟩ : ∃ j, k = j + 1 := ⟨k - 1, by omega⟩
    simp only [bR.l0]
    rw [if_neg (by omega)]; rfl
  | succ d IH =>
    intro i n p hi
    obtain ⟨K2, e2⟩ := IH (i + 1) (mn (wrap64 (n + mst p s)) 1073741825) (mst p s) (by omega)
    refine ⟨K2 + 1, fun k hk => ?_⟩
    obtain ⟨k, rfl⟩ : ∃ j, k = j + 1 := ⟨k - 1, by omega⟩
    have e2' := e2 k (by omega)
    unfold mst at e2'
    dsimp only at e2'
    simp only [bR.l0]
    rw [if_pos (by omega), mi (by omega), e2']
    rfl
theorem size_ev (n : Nat) : ∀ {t : S24}, n ≤ 10 → Vt n t → t.f0 ≠ 3 → t.f0 ≠ 4 → Ev (at_ types_size.f t) (siz n t) ∧ Ev (at_ bR.f t) (siz n t) := by
  induction n with
  | zero => intro t _ h; cases h
  | succ n ih =>
    intro t hn h h3 h4
    cases h with
    | bool =>
      refine ⟨⟨3, fun k hk => ?_⟩, ⟨3, fun k hk => ?_⟩⟩ <;> obtain ⟨k, rfl⟩ : ∃ j, k = j + 3 := ⟨k - 3, by omega⟩
      · simp [at_, types_size.f, bG.f, bG.j0, nP.f, fU, siz]
      · simp [at_, bR.f, siz]
    | int _ lo hi h1 h2 h3 =>
      have e : wrap64 (wrap64 (hi - lo) + 1) = hi - lo + 1 := by rw [Oy (n := hi - lo) (by omega) (by omega), Oy (by omega) (by omega)]
      refine ⟨⟨3, fun k hk => ?_⟩, ⟨3, fun k hk => ?_⟩⟩ <;> obtain ⟨k, rfl⟩ : ∃ j, k = j + 3 := ⟨k - 3, by omega⟩
      · simp [at_, types_size.f, bG.f, bG.j0, nP.f, fU, siz, e]
      · simp [at_, bR.f, siz, e]
    | nat => exact absurd rfl h3
    | real => exact absurd rfl h4
    | tup _ l g1 g2 g3 g4 =>
      obtain ⟨K1, e1⟩ := size_l0 n l g2 (fun x hx => (ih (by omega) (g3 x hx) (g4 x hx).1 (g4 x hx).2).1) l.length 0 1 (by omega)
      obtain ⟨K2, e2⟩ := count_l1 n l g2 5 0 0 0 (fun x hx => (ih (by omega) (g3 x hx) (g4 x hx).1 (g4 x hx).2).2) l.length 0 1 (by omega)
      have es : siz (n + 1) ⟨5, 0, 0, 0, l⟩ = prd (siz n) l 1 := by simp only [siz]; rw [if_pos trivial]
      rw [es]
      dsimp only at e1 e2
      refine ⟨⟨K1 + 1, fun k hk => ?_⟩, ⟨K2 + 1, fun k hk => ?_⟩⟩ <;> obtain ⟨k, rfl⟩ : ∃ j, k = j + 1 := ⟨k - 1, by omega⟩
      · have e := e1 k (by omega)
        simp only [at_, types_size.f]
        rw [if_pos trivial, show (0 : Int) = ((0 : Nat) : Int) from rfl, e]; rfl
      · have e := e2 k (by omega)
        simp only [at_, bR.f]
        rw [if_neg (by decide), if_neg (by decide), if_neg (by decide), show (bR.l1 k 1 0 5 0 0 0 l) = _ from e]; rfl
    | lst _ m x g1 g2 g3 g4 =>
      obtain ⟨i1, i2⟩ := ih (by omega) g3 (by omega) (by omega)
      obtain ⟨K3, e3⟩ := i1
      obtain ⟨K4, e4⟩ := i2
      obtain ⟨M, rfl⟩ : ∃ M : Nat, m = M := ⟨m.toNat, by omega⟩
      obtain ⟨K1, e1⟩ := size_l1 (siz n x) M (by omega) M 0 1 1 (by omega)
      obtain ⟨K2, e2⟩ := count_l0 (siz n x) 6 0 0 [x] M (by omega) M 0 1 1 (by omega)
      have es : siz (n + 1) ⟨6, 0, 0, (M : Int), [x]⟩ = pws (siz n x) M 1 1 := by simp only [siz]; rw [if_neg (by decide), if_pos trivial, rd1]; rfl
      rw [es]
      unfold at_ at e3 e4
      dsimp only at e1 e2
      refine ⟨⟨K1 + K3 + 1, fun k hk => ?_⟩, ⟨K2 + K4 + 1, fun k hk => ?_⟩⟩ <;> obtain ⟨k, rfl⟩ : ∃ j, k = j + 1 := ⟨k - 1, by omega⟩
      · have e := e1 k (by omega)
        simp only [at_, types_size.f]
        rw [if_neg (by decide), if_pos trivial, if_pos (by simp), rd1, e3 k (by omega), Option.bind_some]
        exact e
      · have e := e2 k (by omega)
        simp only [at_, bR.f]
        rw [if_neg (by decide), if_neg (by decide), if_pos trivial, if_pos (by simp), rd1, e4 k (by omega), Option.bind_some]
        exact e
end Go.Proofs.YtggelekooacmnaaDoor.Pure
