/- Lemmas for: mo -/
import Derived.SizedLaws
import Derived.ChangeSlices
import Derived.Test.YtggelekooacmnaaDoorTb3
import Derived.Test.YtggelekooacmnaaDoorTb5
import Derived.Test.YtggelekooacmnaaDoorTb6
import Derived.Test.YtggelekooacmnaaDoorTb8
set_option linter.unusedVariables false
set_option linter.unusedSimpArgs false
namespace Go.Proofs.YtggelekooacmnaaDoor.Pure
open Go.RowKit Go.Proofs.YtggelekooacmnaaDoor.Q Go.Proofs.YtggelekooacmnaaDoorW.bg Go.Proofs.YtggelekooacmnaaDoorW.bW Go.Proofs.YtggelekooacmnaaDoorW.dh
-- what the UO Equal says
theorem eqR_l0 (n : Nat) (l m : List S24) (hl : l.length = m.length) (h : l.length ≤ 1000) (a0 a1 a2 a3 b0 b1 b2 b3 : Int)
    (ih : ∀ x ∈ l, ∀ y, Ev (fun k => aT.f k x.f0 x.f1 x.f2 x.f3 x.f4 y.f0 y.f1 y.f2 y.f3 y.f4) (eqT x y)) :
    ∀ (d i : Nat), i + d = l.length → Ev (fun k => aT.l0 k i a0 a1 a2 a3 l b0 b1 b2 b3 m) (xy (l.drop i) (m.drop i)) := by
  intro d
  induction d with
  | zero =>
    intro i hi
    refine ⟨1, fun k hk => ?_⟩
    obtain ⟨k, rfl⟩ : ∃ j, k = j + 1 := ⟨k - 1, by omega⟩
    simp only [aT.l0]
    rw [if_neg (by omega), List.drop_eq_nil_of_le (by omega), List.drop_eq_nil_of_le (by omega)]
    simp [xy]
  | succ d IH =>
    intro i hi
    have hlt : i < l.length := by omega
    have hlm : i < m.length := by omega
    obtain ⟨K1, e1⟩ := ih l[i] (List.getElem_mem hlt) m[i]
    obtain ⟨K2, e2⟩ := IH (i + 1) (by omega)
    refine ⟨max K1 K2 + 1, fun k hk => ?_⟩
    obtain ⟨k, rfl⟩ : ∃ j, k = j + 1 := ⟨k - 1, by omega⟩
    have e1' := e1 k (by omega)
    have e2' := e2 k (by omega)
    dsimp only at e1' e2'
    simp only [aT.l0]
    rw [if_pos (by omega), if_pos (by omega), if_pos (by omega), rdT hlt, rdT hlm, e1', Option.bind_some, mi (by omega), e2', List.drop_eq_getElem_cons hlt, List.drop_eq_getElem_cons hlm]
    have q : xy (l[i] :: l.drop (i + 1)) (m[i] :: m.drop (i + 1)) = (eqT l[i] m[i] && xy (l.drop (i + 1)) (m.drop (i + 1))) := by rw [xy]
    rw [q]
    cases eqT l[i] m[i] <;> simp
theorem eqR_ev (n : Nat) : ∀ (x y : S24), n ≤ 1000 → Bd n x → Ev (fun k => aT.f k x.f0 x.f1 x.f2 x.f3 x.f4 y.f0 y.f1 y.f2 y.f3 y.f4) (eqT x y) := by
  induction n with
  | zero => intro x y _ h; exact h.elim
  | succ n ih =>
    intro x y hn hb
    obtain ⟨a0, a1, a2, a3, l⟩ := x
    obtain ⟨b0, b1, b2, b3, m⟩ := y
    dsimp only
    have hE : eqT ⟨a0, a1, a2, a3, l⟩ ⟨b0, b1, b2, b3, m⟩ = (a0 == b0 && a1 == b1 && a2 == b2 && a3 == b3 && xy l m) := by unfold eqT; rfl
    rw [hE]
    have J : ∀ k c, aT.j0 (k + 1) true a0 a1 a2 a3 l b0 b1 b2 b3 m = some c ↔ false = c := by intro k c; simp [aT.j0]
    by_cases h0 : a0 = b0
    · by_cases h1 : a1 = b1
      · by_cases h2 : a2 = b2
        · by_cases h3 : a3 = b3
          · by_cases hl : l.length = m.length
            · obtain ⟨K, e⟩ := eqR_l0 n l m hl hb.1 a0 a1 a2 a3 b0 b1 b2 b3 (fun x hx y => ih x y (by omega) (hb.2 x hx)) l.length 0 (by omega)
              refine ⟨K + 2, fun k hk => ?_⟩
              obtain ⟨k, rfl⟩ : ∃ j, k = j + 2 := ⟨k - 2, by omega⟩
              have e' := e k (by omega)
              dsimp only at e'
              simp only [aT.f, aT.j0]
              rw [if_pos h0, if_pos h1, if_pos h2, if_pos h3, if_neg (by simp [hl])]
              have e3 : ((0 : Nat) : Int) = 0 := rfl
              rw [e3] at e'
              rw [e']
              simp [h0, h1, h2, h3]
            · refine ⟨2, fun k hk => ?_⟩
              obtain ⟨k, rfl⟩ : ∃ j, k = j + 2 := ⟨k - 2, by omega⟩
              simp only [aT.f, aT.j0]
              rw [if_pos h0, if_pos h1, if_pos h2, if_pos h3, if_pos (by simp; omega), Uz hl]; simp
          · refine ⟨2, fun k hk => ?_⟩
            obtain ⟨k, rfl⟩ : ∃ j, k = j + 2 := ⟨k - 2, by omega⟩
            simp only [aT.f]
            rw [if_pos h0, if_pos h1, if_pos h2, if_neg h3]; simp [aT.j0, h3]
        · refine ⟨2, fun k hk => ?_⟩
          obtain ⟨k, rfl⟩ : ∃ j, k = j + 2 := ⟨k - 2, by omega⟩
          simp only [aT.f]
          rw [if_pos h0, if_pos h1, if_neg h2]; simp [aT.j0, h2]
      · refine ⟨2, fun k hk => ?_⟩
        obtain ⟨k, rfl⟩ : ∃ j, k = j + 2 := ⟨k - 2, by omega⟩
        simp only [aT.f]
        rw [if_pos h0, if_neg h1]; simp [aT.j0, h1]
    · refine ⟨2, fun k hk => ?_⟩
      obtain ⟨k, rfl⟩ : ∃ j, k = j + 2 := ⟨k - 2, by omega⟩
      simp only [aT.f]
      rw [if_neg h0]; simp [aT.j0, h0]

end Go.Proofs.YtggelekooacmnaaDoor.Pure
set_option linter.unusedVariables false
set_option linter.unusedSimpArgs false
namespace Go.Proofs.YtggelekooacmnaaDoor.Pure
open Go.RowKit Go.Proofs.YtggelekooacmnaaDoor.Q Go.Proofs.YtggelekooacmnaaDoorW.bg Go.Proofs.YtggelekooacmnaaDoorW.bW Go.Proofs.YtggelekooacmnaaDoorW.dh
-- mo: all functions agree on valid types, on types with one change, and on elements of them
theorem awake_ev : Ev (fun k => fT.f k) true := by
  have h : fT.f 40 = some true := by kernel_rfl
  exact Ev.of (fun k => fT.mono k) h
theorem mo : dX.Pure := by
  intro l hl _ _
  obtain ⟨eN, r0⟩ := New_ok l
  obtain ⟨t, p1, ⟨K1, e1⟩, g1, r1⟩ := TI 3 (s := 0) (by omega) (by omega) r0
  obtain ⟨u, p2, ⟨K2, e2⟩, b2, r2⟩ := X4 3 (s := 0) (by omega) (by omega) r1
  obtain ⟨x, p3, ⟨K3, e3⟩, b3, r3⟩ := X4 2 (s := 0) (by omega) (by omega) r2
  obtain ⟨m, p4, e4, r4, _, _⟩ := EY (s := 0) (lo := 0) (hi := 5) r3 (by omega) (by omega) (by omega)
  have b1 : Bd 4 t := (Vt.bd (Vt.mono (by omega) g1.vt : Vt 4 t))
  have b3' : Bd 4 x := b3.mono
  have bp : Bd 5 (⟨5, 0, 0, 0, [u, x, t]⟩ : S24) := ⟨by simp, by intro y hy; simp at hy; rcases hy with rfl | rfl | rfl <;> assumption⟩
  have bl : Bd 5 (⟨6, 0, 0, m, [x]⟩ : S24) := ⟨by simp, by intro y hy; simp at hy; subst hy; exact b3'⟩
  obtain ⟨K5, a5⟩ := FU (by omega) b1
  obtain ⟨K6, a6⟩ := FU (by omega) b2
  obtain ⟨K7, a7⟩ := FU (by omega) b3
  obtain ⟨K8, a8⟩ := FU (by omega) bp
  obtain ⟨K9, a9⟩ := FU (by omega) bl
  obtain ⟨K10, a10⟩ := eqR_ev 4 t u (by omega) b1
  obtain ⟨K0, a0⟩ := awake_ev
  unfold at_ at a5 a6 a7 a8 a9
  dsimp only at e1 e2 e3 a0 a8 a9 a10
  simp only [Int.natCast_one, Int.cast_ofNat_Int] at e1 e2 e3
  have hq : kR.f t.f0 t.f1 t.f2 t.f3 t.f4 u.f0 u.f1 u.f2 u.f3 u.f4 = some (eqT t u) := by unfold kR.f; rw [Gx, Gx]
  obtain ⟨K, hK⟩ : ∃ K, K = K0 + K1 + K2 + K3 + K5 + K6 + K7 + K8 + K9 + K10 := ⟨_, rfl⟩
  refine ⟨K, ?_⟩
  simp only [dX.f]
  rw [eN, Option.bind_some]; dsimp only
  rw [e1 K (by omega), Option.bind_some]; dsimp only
  rw [e2 K (by omega), Option.bind_some]; dsimp only
  rw [e3 K (by omega), Option.bind_some]; dsimp only
  rw [e4, Option.bind_some]; dsimp only
  rw [Gx, Gx, Gx, a5 K (by omega), Option.bind_some, if_pos rfl, a6 K (by omega), Option.bind_some, if_pos rfl, a7 K (by omega), Option.bind_some, if_pos rfl, a8 K (by omega), Option.bind_some, if_pos rfl, a9 K (by omega), Option.bind_some, if_pos rfl,
    hq, Option.bind_some, a10 K (by omega), Option.bind_some, if_pos (by simp), a0 K (by omega), Option.bind_some]

end Go.Proofs.YtggelekooacmnaaDoor.Pure
namespace Go.Proofs.YtggelekooacmnaaDoorW.bg
open Go.ChangeShapes Go.WideShapes
theorem Yi {H : Type} {enc : TypeId × Value → H} {P : Program} {W : World} {base : Nat} {spare : Nat → Bool} {held : Bool} {t e : TypeId} {k : IntKind} {a : Option Addr} {len cap : Nat} {d : DataW H} {ps : List MemPlace} {ts : List TypeId} {ds : List (DataW H)} {j : Nat}
    (hsz : (DataW.weightsEach P ts ds).all (· ≤ reachBytes) = true) (ht : ts[j]? = some t) (hd : ds[j]? = some d) (hu : P.underlying t = some (.slice e)) (he : P.underlying e = some (.int k)) (hc : P.cellsOf e = 1) {B : Nat} (hB : P.bytesOf e = B)
    (h : DataW.Trod enc P W base spare held t (.slice a len cap) d ps) : len * B ≤ 140737488351232 := by
  obtain ⟨fuel, hf⟩ := h
  rcases open_ints hu he hc hf with ⟨hcs, _⟩ | ⟨x, l, c, zs, hcs, _, hl, _, hz, hx, _, _⟩
  · simp [Value.cells] at hcs
    obtain ⟨rfl, rfl, rfl⟩ := hcs
    simp
  · simp [Value.cells] at hcs
    obtain ⟨rfl, rfl, rfl⟩ := hcs
    obtain ⟨hx, _⟩ := Prod.mk.inj hx
    subst hx
    have z := sized_slice hsz ht hd hu
    rw [hB] at z
    have hl2 : len ≤ zs.length := by
      rw [hz]
      split
      · exact hl
      · exact Nat.le_refl _
    have h1 : (lits (H := H) k (zs.take len)).length + (lits (H := H) k (zs.drop len)).length = zs.length := by
      simp [lits]
      omega
    rw [h1] at z
    exact Nat.le_trans (Nat.mul_le_mul_right _ hl2) z
end Go.Proofs.YtggelekooacmnaaDoorW.bg
