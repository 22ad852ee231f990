/- Lemmas for: l9 -/
import Derived.Test.YtggelekooacmnaaDoorVt6
set_option linter.unusedVariables false
set_option linter.unusedSimpArgs false
namespace Go.Proofs.YtggelekooacmnaaDoor.Pure
open Go.RowKit Go.Proofs.YtggelekooacmnaaDoor.Q Go.Proofs.YtggelekooacmnaaDoorW.aJ Go.Proofs.YtggelekooacmnaaDoorW.bu Go.Proofs.YtggelekooacmnaaDoorW.bB
-- the Ee zero, flat and build; read of any cells; both Ji
theorem YG (a b : Int) : kR.f a b = some (max a (min 0 b)) := by
  unfold kR.f
  rw [mx_eq, Ng]
  congr 1; omega
theorem rzero_l0 (n : Nat) (l : List S24) (hl : l.length ≤ 4) (a0 a1 a2 a3 : Int) (ih : ∀ t ∈ l, Ev (at_ bM.f t) ((zv n t).f0, (zv n t).f1)) :
    ∀ (d i : Nat) (o : List S51), o.length ≤ i → i + d = l.length → Ev (fun k => bM.l0 k i a0 a1 a2 a3 l 0 o) ((0 : Int), o ++ (l.drop i).map (zv n)) := by
  intro d
  induction d with
  | zero =>
    intro i o ho hi
    refine ⟨1, fun k hk => ?_⟩
    obtain ⟨k, rfl⟩ : ∃ j, k = j + 1 := ⟨k - 1, by omega⟩
    simp only [bM.l0]
    rw [if_neg (by omega), List.drop_eq_nil_of_le (by omega)]; simp
  | succ d IH =>
    intro i o ho hi
    have hlt : i < l.length := by omega
    obtain ⟨K1, e1⟩ := ih l[i] (List.getElem_mem hlt)
    obtain ⟨K2, e2⟩ := IH (i + 1) (o ++ [zv n l[i]]) (by rw [List.length_append, List.length_singleton]; omega) (by omega)
    refine ⟨max K1 K2 + 1, fun k hk => ?_⟩
    obtain ⟨k, rfl⟩ : ∃ j, k = j + 1 := ⟨k - 1, by omega⟩
    have e1' := e1 k (by omega)
    have e2' := e2 k (by omega)
    unfold at_ at e1'
    dsimp only at e1' e2'
    simp only [bM.l0]
    rw [if_pos (by omega), if_pos (by omega), rdT hlt, e1', Option.bind_some, if_pos (by omega), iJ (by omega), etaV, e2', List.append_assoc, List.drop_eq_getElem_cons hlt]
    rfl
theorem Tn (n : Nat) : ∀ {t : S24}, Vt n t → Ev (at_ bM.f t) ((zv n t).f0, (zv n t).f1) := by
  induction n with
  | zero => intro t h; cases h
  | succ n ih =>
    intro t h
    by_cases k5 : t.f0 = 5
    · cases h with
      | tup _ l h1 h2 h3 h4 =>
        obtain ⟨K, e⟩ := rzero_l0 n l h2 5 0 0 0 (fun x hx => ih (h3 x hx)) l.length 0 [] (by simp) (by omega)
        refine ⟨K + 2, fun k hk => ?_⟩
        obtain ⟨k, rfl⟩ : ∃ j, k = j + 2 := ⟨k - 2, by omega⟩
        have e' := e k (by omega)
        simp only [at_, bM.f, bM.j0, zv]
        simpa using e'
      | _ => simp at k5
    · refine ⟨2, fun k hk => ?_⟩
      obtain ⟨k, rfl⟩ : ∃ j, k = j + 2 := ⟨k - 2, by omega⟩
      simp only [at_, bM.f, bM.j0, zv, zr]
      by_cases k2 : t.f0 = 2
      · simp only [if_pos k2, YG, Option.bind_some, if_neg k5]
      · simp only [if_neg k2, if_neg k5]
theorem rflat_l0 (n : Nat) (ts : List S24) (vs : List S51) (hl : ts.length = vs.length) (h4 : ts.length ≤ 4) (v0 : Int) (B : Nat) (hB : B ≤ 10000000) (ih : ∀ (i : Nat) (h : i < ts.length) (h' : i < vs.length), Ev (at2 bA.f ts[i] vs[i]) (cel n ts[i] vs[i]) ∧ (cel n ts[i] vs[i]).length ≤ B) :
    ∀ (d i : Nat) (o : List Int), o.length ≤ i * B → i + d = vs.length → Ev (fun k => bA.l0 k o i 5 0 0 0 ts v0 vs) (o ++ p8 (cel n) (ts.drop i) (vs.drop i)) := by
  intro d
  induction d with
  | zero =>
    intro i o ho hi
    refine ⟨1, fun k hk => ?_⟩
    obtain ⟨k, rfl⟩ : ∃ j, k = j + 1 := ⟨k - 1, by omega⟩
    simp only [bA.l0]
    rw [if_neg (by omega), List.drop_eq_nil_of_le (show vs.length ≤ i by omega), List.drop_eq_nil_of_le (show ts.length ≤ i by omega)]; simp [p8]
  | succ d IH =>
    intro i o ho hi
    have hlt : i < vs.length := by omega
    have hlt' : i < ts.length := by omega
    obtain ⟨⟨K1, e1⟩, hb⟩ := ih i hlt' hlt
    have hm : (o ++ cel n ts[i] vs[i]).length ≤ (i + 1) * B := by rw [List.length_append, Nat.add_mul]; omega
    have hm2 : (i + 1) * B ≤ 4 * B := Nat.mul_le_mul_right _ (by omega)
    obtain ⟨K2, e2⟩ := IH (i + 1) (o ++ cel n ts[i] vs[i]) hm (by omega)
    refine ⟨max K1 K2 + 1, fun k hk => ?_⟩
    obtain ⟨k, rfl⟩ : ∃ j, k = j + 1 := ⟨k - 1, by omega⟩
    have e1' := e1 k (by omega)
    have e2' := e2 k (by omega)
    dsimp only [at2] at e1' e2'
    rw [List.length_append] at hm
    simp only [bA.l0]
    rw [if_pos (by omega), if_pos (by omega), if_pos (by omega), rdT hlt', rdV hlt, e1', Option.bind_some, if_pos (by omega), iJ (by omega), e2', List.append_assoc, List.drop_eq_getElem_cons hlt, List.drop_eq_getElem_cons hlt']
    rfl
theorem rflat_l1 (n : Nat) (x : S24) (m v0 : Int) (hx : Vt n x) (hs : x.f0 = 1 ∨ x.f0 = 2) (vs : List S51) (M : Nat) (hM : m = M) (hM4 : M ≤ 4) (hv : vs.length ≤ M) :
    ∀ (d i : Nat) (o : List Int), o.length ≤ 100 + i → i + d = M → Ev (fun k => bA.l1 k o i 6 0 0 m [x] v0 vs) (o ++ ((vs.drop i).map (fun y => y.f0) ++ List.replicate (M - max i vs.length) (zr x))) := by
  intro d
  induction d with
  | zero =>
    intro i o ho hi
    refine ⟨1, fun k hk => ?_⟩
    obtain ⟨k, rfl⟩ : ∃ j, k = j + 1 := ⟨k - 1, by omega⟩
    simp only [bA.l1]
    rw [if_neg (by omega), List.drop_eq_nil_of_le (by omega), show M - max i vs.length = 0 from by omega]; simp
  | succ d IH =>
    intro i o ho hi
    obtain ⟨K1, e1⟩ := Tn n hx
    have hz : (zv n x).f0 = zr x := by
      cases hx with
      | bool => simp [zv, zr]
      | int _ lo hi h1 h2 h3 => simp [zv]
      | _ => simp at hs
    unfold at_ at e1
    by_cases hlt : i < vs.length
    · obtain ⟨K2, e2⟩ := IH (i + 1) (o ++ [vs[i].f0]) (by rw [List.length_append, List.length_singleton]; omega) (by omega)
      refine ⟨max K1 K2 + 1, fun k hk => ?_⟩
      obtain ⟨k, rfl⟩ : ∃ j, k = j + 1 := ⟨k - 1, by omega⟩
      have e1' := e1 k (by omega)
      have e2' := e2 k (by omega)
      dsimp only at e1' e2'
      simp only [bA.l1]
      rw [if_pos (by omega), if_pos (by simp), rd1, e1', Option.bind_some, if_pos (by omega), if_pos (by omega), if_pos (by omega), rdV hlt, iJ (by omega), e2', List.append_assoc, List.drop_eq_getElem_cons hlt, show max (i + 1) vs.length = max i vs.length from by omega]
      rfl
    · obtain ⟨K2, e2⟩ := IH (i + 1) (o ++ [zr x]) (by rw [List.length_append, List.length_singleton]; omega) (by omega)
      refine ⟨max K1 K2 + 1, fun k hk => ?_⟩
      obtain ⟨k, rfl⟩ : ∃ j, k = j + 1 := ⟨k - 1, by omega⟩
      have e1' := e1 k (by omega)
      have e2' := e2 k (by omega)
      dsimp only at e1' e2'
      simp only [bA.l1]
      rw [if_pos (by omega), if_pos (by simp), rd1, e1', Option.bind_some, if_neg (by omega), if_pos (by omega), hz, iJ (by omega), e2', List.append_assoc, List.drop_eq_nil_of_le (show vs.length ≤ i by omega), List.drop_eq_nil_of_le (show vs.length ≤ i + 1 by omega), show M - max i vs.length = (M - max (i + 1) vs.length) + 1 from by omega, List.replicate_succ]
      rfl
theorem Ib (n : Nat) : ∀ {t : S24} {v : S51} {m : Nat}, n ≤ 10 → Vt n t → Bv m v → n ≤ m → chk n t v = 0 → Ev (at2 bA.f t v) (cel n t v) := by
  induction n with
  | zero => intro t v m _ h; cases h
  | succ n ih =>
    intro t v m hn h hb hm hc
    obtain ⟨m, rfl⟩ : ∃ e, m = e + 1 := ⟨m - 1, by omega⟩
    have leaf : t.f0 ≠ 5 → t.f0 ≠ 6 → Ev (at2 bA.f t v) (cel (n + 1) t v) := by
      intro h5 h6
      refine ⟨1, fun k hk => ?_⟩
      obtain ⟨k, rfl⟩ : ∃ j, k = j + 1 := ⟨k - 1, by omega⟩
      simp only [at2, bA.f, if_neg h5, if_neg h6, cel]
    cases h with
    | bool => exact leaf (by decide) (by decide)
    | int _ lo hi h1 h2 h3 => exact leaf (by simp) (by simp)
    | nat => exact leaf (by decide) (by decide)
    | real => exact leaf (by decide) (by decide)
    | tup _ l h1 h2 h3 h4 =>
      obtain ⟨_, hl, ha⟩ := wu hc
      have hp := pow5 (show n ≤ 9 by omega)
      obtain ⟨K, e⟩ := rflat_l0 n l v.f1 hl.symm h2 v.f0 (5 ^ n) (by omega) (fun i hi hi' => ⟨ih (by omega) (h3 _ (List.getElem_mem hi)) (Vv.bd1 (n := n) hb i hi') (by omega) (ha i hi hi'), by
        rw [uJ n (h3 _ (List.getElem_mem hi)) (ha i hi hi')]; exact (Co n (h3 _ (List.getElem_mem hi))).1⟩) v.f1.length 0 [] (by simp) (by omega)
      rw [show cel (n + 1) ⟨5, 0, 0, 0, l⟩ v = p8 (cel n) l v.f1 from by simp [cel]]
      refine ⟨K + 1, fun k hk => ?_⟩
      obtain ⟨k, rfl⟩ : ∃ j, k = j + 1 := ⟨k - 1, by omega⟩
      have e' := e k (by omega)
      simp only [at2, bA.f]
      simpa using e'
    | lst _ mm x h1 h2 h3 h4 =>
      obtain ⟨_, hl, ha⟩ := wy hc
      obtain ⟨K, e⟩ := rflat_l1 n x mm v.f0 h3 h4 v.f1 mm.toNat (by omega) (by omega) (by omega) mm.toNat 0 [(v.f1.length : Int)] (by simp) (by omega)
      refine ⟨K + 1, fun k hk => ?_⟩
      obtain ⟨k, rfl⟩ : ∃ j, k = j + 1 := ⟨k - 1, by omega⟩
      have e' := e k (by omega)
      have ec : cel (n + 1) ⟨6, 0, 0, mm, [x]⟩ v = (v.f1.length : Int) :: (v.f1.map (fun x => x.f0) ++ List.replicate (mm.toNat - v.f1.length) (zr x)) := by simp [cel, rd1]
      rw [ec]
      simp only [at2, bA.f]
      rw [if_neg (by decide), if_pos trivial]
      rw [show max 0 v.f1.length = v.f1.length from by omega] at e'
      simpa using e'
/-- a value of a valid type is small -/
theorem bv_chk (n : Nat) : ∀ {t : S24} {v : S51}, Vt n t → chk n t v = 0 → Bv n v := by
  induction n with
  | zero => intro t v h; cases h
  | succ n ih =>
    intro t v h hc
    have leaf : t.f0 ≠ 5 → t.f0 ≠ 6 → Bv (n + 1) v := by
      intro h5 h6
      have := (uj h5 h6 hc).1
      exact ⟨by rw [this]; simp, by rw [this]; simp⟩
    cases h with
    | bool => exact leaf (by decide) (by decide)
    | int _ lo hi h1 h2 h3 => exact leaf (by simp) (by simp)
    | nat => exact leaf (by decide) (by decide)
    | real => exact leaf (by decide) (by decide)
    | tup _ l h1 h2 h3 h4 =>
      obtain ⟨_, hl, ha⟩ := wu hc
      refine ⟨by omega, fun x hx => ?_⟩
      obtain ⟨i, hi, rfl⟩ := List.getElem_of_mem hx
      exact ih (h3 _ (List.getElem_mem (show i < l.length by omega))) (ha i (by omega) hi)
    | lst _ m x h1 h2 h3 h4 =>
      obtain ⟨_, hl, ha⟩ := wy hc
      exact ⟨by omega, fun y hy => ih h3 (ha y hy)⟩
/-- the Ee value of some cells -/
def Bc (f : S24 → List Int → S51) (g : S24 → Nat) : List S24 → List Int → List S51
  | [], _ => []
  | t :: ts, l => f t l :: Bc f g ts (l.drop (g t))
def bld : Nat → S24 → List Int → S51
  | 0, _, _ => ⟨0, []⟩
  | n + 1, t, l => if t.f0 = 5 then ⟨0, Bc (bld n) (fun x => (prt n x).length) t.f4 l⟩
    else if t.f0 = 6 then ⟨0, ((l.drop 1).take (min t.f3 (l.getD 0 0)).toNat).map fun c => ⟨c, []⟩⟩
    else ⟨l.getD 0 0, []⟩
theorem Tp (f : S24 → List Int → S51) (g : S24 → Nat) : ∀ (ts : List S24) (l : List Int), (Bc f g ts l).length = ts.length
  | [], _ => rfl
  | t :: ts, l => by simp [Bc, Tp f g ts]
theorem Tq {f : S24 → List Int → S51} {g : S24 → Nat} {P : S51 → Prop} : ∀ {ts : List S24} {l : List Int}, (∀ t ∈ ts, ∀ l, P (f t l)) → ∀ v ∈ Bc f g ts l, P v
  | [], _, _, v, hv => by simp [Bc] at hv
  | t :: ts, l, h, v, hv => by
    simp only [Bc, List.mem_cons] at hv
    rcases hv with rfl | hv
    · exact h t List.mem_cons_self l
    · exact Tq (fun x hx => h x (List.mem_cons_of_mem t hx)) v hv
theorem bv_bld (n : Nat) : ∀ {t : S24} {l : List Int}, Vt n t → Bv n (bld n t l) := by
  induction n with
  | zero => intro t l h; cases h
  | succ n ih =>
    intro t l h
    have leaf : t.f0 ≠ 5 → t.f0 ≠ 6 → Bv (n + 1) (bld (n + 1) t l) := by
      intro h5 h6
      simp only [bld, if_neg h5, if_neg h6]
      exact ⟨by simp, by simp⟩
    cases h with
    | bool => exact leaf (by decide) (by decide)
    | int _ lo hi h1 h2 h3 => exact leaf (by simp) (by simp)
    | nat => exact leaf (by decide) (by decide)
    | real => exact leaf (by decide) (by decide)
    | tup _ ts h1 h2 h3 h4 =>
      simp only [bld, if_pos]
      exact ⟨by rw [Tp]; omega, Tq fun t ht l => ih (h3 t ht)⟩
    | lst _ m x h1 h2 h3 h4 =>
      simp only [bld]
      rw [if_neg (by decide), if_pos trivial]
      refine ⟨by simp only [List.length_map, List.length_take]; omega, fun v hv => ?_⟩
      obtain ⟨c, _, rfl⟩ := List.mem_map.1 hv
      cases n with
      | zero => cases h3
      | succ n => exact ⟨by simp, by simp⟩
theorem YH (n : Nat) (ts : List S24) (h4 : ts.length ≤ 4) (ih : ∀ t ∈ ts, ∀ l : List Int, (prt n t).length ≤ l.length → l.length ≤ 1000 → Ev (fun k => aW.f k t.f0 t.f1 t.f2 t.f3 t.f4 l) ((bld n t l).f0, (bld n t l).f1, l.drop (prt n t).length)) :
    ∀ (d i : Nat) (o : List S51) (l : List Int), o.length ≤ i → i + d = ts.length → ((ts.drop i).map (prt n)).flatten.length ≤ l.length → l.length ≤ 1000 →
    Ev (fun k => aW.l0 k l i 5 0 0 0 ts 0 o) (0, o ++ Bc (bld n) (fun x => (prt n x).length) (ts.drop i) l, l.drop ((ts.drop i).map (prt n)).flatten.length) := by
  intro d
  induction d with
  | zero =>
    intro i o l ho hi hq hl
    refine ⟨1, fun k hk => ?_⟩
    obtain ⟨k, rfl⟩ : ∃ j, k = j + 1 := ⟨k - 1, by omega⟩
    simp only [aW.l0]
    rw [if_neg (by omega), List.drop_eq_nil_of_le (show ts.length ≤ i by omega)]; simp [Bc]
  | succ d IH =>
    intro i o l ho hi hq hl
    have hlt : i < ts.length := by omega
    rw [List.drop_eq_getElem_cons hlt] at hq ⊢
    simp only [List.map_cons, List.flatten_cons, List.length_append] at hq ⊢
    obtain ⟨K1, e1⟩ := ih ts[i] (List.getElem_mem hlt) l (by omega) hl
    obtain ⟨K2, e2⟩ := IH (i + 1) (o ++ [bld n ts[i] l]) (l.drop (prt n ts[i]).length) (by rw [List.length_append, List.length_singleton]; omega) (by omega) (by rw [List.length_drop]; omega) (by rw [List.length_drop]; omega)
    refine ⟨max K1 K2 + 1, fun k hk => ?_⟩
    obtain ⟨k, rfl⟩ : ∃ j, k = j + 1 := ⟨k - 1, by omega⟩
    have e1' := e1 k (by omega)
    have e2' := e2 k (by omega)
    dsimp only at e1' e2'
    simp only [aW.l0]
    rw [if_pos (by omega), if_pos (by omega), rdT hlt, e1', Option.bind_some]
    dsimp only
    rw [if_pos (by omega), iJ (by omega), etaV, e2', List.drop_drop, List.append_assoc]
    simp only [Bc, List.singleton_append, Option.some.injEq, Prod.mk.injEq, true_and]
theorem YI (m : Int) (hm2 : m ≤ 4) (x : S24) (l : List Int) (h0 : 0 < l.length) (hl : 1 + m.toNat ≤ l.length) (hm : 1 ≤ m) (hb : l.length ≤ 1000) :
    ∀ (d i : Nat) (o : List S51), 1 ≤ i → o.length ≤ i → (i : Int) + d = max 1 (min m (l.getD 0 0) + 1) → Ev (fun k => aW.l1 k l i 6 0 0 m [x] 0 o) (0, o ++ ((l.drop i).take d).map (fun c => (⟨c, []⟩ : S51)), l.drop (1 + m.toNat)) := by
  have r0 : rd l 0 = l.getD 0 0 := by simp [rd, List.getD, h0]
  have hw : wrap64 (1 + m) = ((1 + m.toNat : Nat) : Int) := by unfold wrap64; omega
  intro d
  induction d with
  | zero =>
    intro i o h1 ho hi
    refine ⟨1, fun k hk => ?_⟩
    obtain ⟨k, rfl⟩ : ∃ j, k = j + 1 := ⟨k - 1, by omega⟩
    simp only [aW.l1]
    by_cases c : (i : Int) ≤ m
    · rw [if_pos c, if_pos (by omega), r0, if_neg (by omega), hw, if_pos (by omega), if_pos (by omega), Int.toNat_natCast]; simp
    · rw [if_neg c, hw, if_pos (by omega), if_pos (by omega), Int.toNat_natCast]; simp
  | succ d IH =>
    intro i o h1 ho hi
    have hlt : i < l.length := by omega
    obtain ⟨K2, e2⟩ := IH (i + 1) (o ++ [⟨l[i], []⟩]) (by omega) (by rw [List.length_append, List.length_singleton]; omega) (by omega)
    refine ⟨K2 + 1, fun k hk => ?_⟩
    obtain ⟨k, rfl⟩ : ∃ j, k = j + 1 := ⟨k - 1, by omega⟩
    have e2' := e2 k (by omega)
    dsimp only at e2'
    have r1 : rd l (i : Int) = l[i] := by simp [rd, List.getD, hlt]
    simp only [aW.l1]
    rw [if_pos (by omega), if_pos (by omega), r0, if_pos (by omega), if_pos (by omega), if_pos (by omega), if_pos (by omega), r1, iJ (by omega), e2', List.append_assoc, List.drop_eq_getElem_cons hlt, List.take_succ_cons]
    rfl
theorem Rk (n : Nat) : ∀ {t : S24} {l : List Int}, n ≤ 10 → Vt n t → (prt n t).length ≤ l.length → l.length ≤ 1000 → Ev (fun k => aW.f k t.f0 t.f1 t.f2 t.f3 t.f4 l) ((bld n t l).f0, (bld n t l).f1, l.drop (prt n t).length) := by
  induction n with
  | zero => intro t l _ h; cases h
  | succ n ih =>
    intro t l hn h hl hb
    have hpos := (Co (n + 1) h).2
    have r0 : rd l 0 = l.getD 0 0 := by
      have : 0 < l.length := by omega
      simp [rd, List.getD, this]
    have leaf : t.f0 ≠ 5 → t.f0 ≠ 6 → Ev (fun k => aW.f k t.f0 t.f1 t.f2 t.f3 t.f4 l) ((bld (n + 1) t l).f0, (bld (n + 1) t l).f1, l.drop (prt (n + 1) t).length) := by
      intro h5 h6
      refine ⟨1, fun k hk => ?_⟩
      obtain ⟨k, rfl⟩ : ∃ j, k = j + 1 := ⟨k - 1, by omega⟩
      have e1 : (prt (n + 1) t).length = 1 := by
        cases h with
        | tup _ l h1 h2 h3 h4 => exact absurd rfl h5
        | lst _ m x h1 h2 h3 h4 => exact absurd rfl h6
        | _ => simp [prt]
      simp only [aW.f, if_neg h5, if_neg h6, bld]
      rw [if_pos (by omega), if_pos (by omega), r0, e1]
    cases h with
    | bool => exact leaf (by decide) (by decide)
    | int _ lo hi h1 h2 h3 => exact leaf (by simp) (by simp)
    | nat => exact leaf (by decide) (by decide)
    | real => exact leaf (by decide) (by decide)
    | tup _ ts h1 h2 h3 h4 =>
      rw [prt5] at hl ⊢
      obtain ⟨K, e⟩ := YH n ts h2 (fun t ht l h1 h2 => ih (by omega) (h3 t ht) h1 h2) ts.length 0 [] l (by simp) (by omega) (by simpa using hl) hb
      refine ⟨K + 1, fun k hk => ?_⟩
      obtain ⟨k, rfl⟩ : ∃ j, k = j + 1 := ⟨k - 1, by omega⟩
      have e' := e k (by omega)
      simp only [aW.f, bld]
      simpa using e'
    | lst _ m x h1 h2 h3 h4 =>
      have hlen : (prt (n + 1) (⟨6, 0, 0, m, [x]⟩ : S24)).length = 1 + m.toNat := by
        rw [prt6, List.length_cons, J3, Nh h3 h4]; omega
      rw [hlen] at hl ⊢
      obtain ⟨K, e⟩ := YI m h2 x l (by omega) hl h1 hb (min m (l.getD 0 0)).toNat 1 [] (by omega) (by simp) (by omega)
      refine ⟨K + 1, fun k hk => ?_⟩
      obtain ⟨k, rfl⟩ : ∃ j, k = j + 1 := ⟨k - 1, by omega⟩
      have e' := e k (by omega)
      simp only [aW.f, bld]
      rw [if_neg (by decide), if_pos trivial]
      simpa using e'
/-- the cells of a value build that value -/
theorem Rl {n : Nat} : ∀ {ts : List S24} {vs : List S51} {r : List Int}, vs.length = ts.length → (∀ (i : Nat) (h : i < ts.length) (h' : i < vs.length) (r : List Int), bld n ts[i] (cel n ts[i] vs[i] ++ r) = vs[i] ∧ (cel n ts[i] vs[i]).length = (prt n ts[i]).length) → Bc (bld n) (fun x => (prt n x).length) ts (p8 (cel n) ts vs ++ r) = vs
  | [], [], _, _, _ => rfl
  | t :: ts, v :: vs, r, hl, h => by
    obtain ⟨h1, h2⟩ := h 0 (by simp) (by simp) (p8 (cel n) ts vs ++ r)
    simp only [List.getElem_cons_zero] at h1 h2
    simp only [p8, List.append_assoc, Bc]
    rw [h1, ← h2, List.drop_left, Rl (by simpa using hl) (fun i h3 h4 r => h (i + 1) (by simpa using h3) (by simpa using h4) r)]
  | [], _ :: _, _, hl, _ => by simp at hl
  | _ :: _, [], _, hl, _ => by simp at hl
theorem bld_cel (n : Nat) : ∀ {t : S24} {v : S51} (r : List Int), Vt n t → chk n t v = 0 → bld n t (cel n t v ++ r) = v := by
  induction n with
  | zero => intro t v r h; cases h
  | succ n ih =>
    intro t v r h hc
    have leaf : t.f0 ≠ 5 → t.f0 ≠ 6 → bld (n + 1) t (cel (n + 1) t v ++ r) = v := by
      intro h5 h6
      have := (uj h5 h6 hc).1
      simp only [bld, cel, if_neg h5, if_neg h6]
      exact veq (by simp) this.symm
    cases h with
    | bool => exact leaf (by decide) (by decide)
    | int _ lo hi h1 h2 h3 => exact leaf (by simp) (by simp)
    | nat => exact leaf (by decide) (by decide)
    | real => exact leaf (by decide) (by decide)
    | tup _ ts h1 h2 h3 h4 =>
      obtain ⟨hz, hl, ha⟩ := wu hc
      have ec : cel (n + 1) ⟨5, 0, 0, 0, ts⟩ v = p8 (cel n) ts v.f1 := by simp [cel]
      rw [ec]
      simp only [bld, if_pos]
      rw [Rl hl (fun i h1 h2 r => ⟨ih r (h3 _ (List.getElem_mem h1)) (ha i h1 h2), uJ n (h3 _ (List.getElem_mem h1)) (ha i h1 h2)⟩)]
      exact veq hz.symm rfl
    | lst _ m x h1 h2 h3 h4 =>
      obtain ⟨hz, hl, ha⟩ := wy hc
      have ec : cel (n + 1) ⟨6, 0, 0, m, [x]⟩ v = (v.f1.length : Int) :: (v.f1.map (fun x => x.f0) ++ List.replicate (m.toNat - v.f1.length) (zr x)) := by simp [cel, rd1]
      rw [ec]
      simp only [bld]
      rw [if_neg (by decide), if_pos trivial]
      refine veq hz.symm ?_
      have e0 : (min m (((v.f1.length : Int) :: (v.f1.map (fun x => x.f0) ++ List.replicate (m.toNat - v.f1.length) (zr x)) ++ r).getD 0 0)).toNat = v.f1.length := by
        simp only [List.cons_append, List.getD_cons_zero]; omega
      rw [e0]
      simp only [List.cons_append, List.drop_succ_cons, List.drop_zero, List.append_assoc]
      rw [List.take_append_of_le_length (by simp), List.take_of_length_le (by simp), List.map_map]
      refine (List.map_congr_left fun y hy => ?_).trans (List.map_id _)
      have hq := ha y hy
      cases n with
      | zero => cases h3
      | succ n => exact veq rfl (uj (by omega) (by omega) hq).1.symm
/-- any cells are read to some value, or not -/
def RdAny (t : S24) (l : List Int) (n : Nat) : Prop := ∃ (v : S51) (r : List Int) (ok : Bool), Ev (fun k => bJ.f k t.f0 t.f1 t.f2 t.f3 t.f4 l) (v.f0, v.f1, r, ok) ∧ Bv n v ∧ r.length ≤ l.length
theorem LJ (n : Nat) (q : Int) (hq : q = 5 ∨ q = 6) (m : Int) (hm : q = 6 → m ≤ 4) (ts : List S24) (N : Nat) (hN : N ≤ 4) (hNm : q = 6 → (N : Int) ≤ m) (el : ∀ i : Nat, i < N → ∃ x : S24, jH.f q 0 0 m ts (i : Int) = some (x.f0, x.f1, x.f2, x.f3, x.f4) ∧ ∀ l : List Int, l.length ≤ 1000 → RdAny x l n) :
    ∀ (d i : Nat) (o : List S51) (l : List Int), o.length ≤ i → i + d = N → l.length ≤ 1000 → (∀ v ∈ o, Bv n v) → ∃ (v : S51) (r : List Int) (ok : Bool), Ev (fun k => bJ.l0 k l N N i q 0 0 m ts 0 o) (v.f0, v.f1, r, ok) ∧ Bv (n + 1) v ∧ r.length ≤ l.length := by
  intro d
  induction d with
  | zero =>
    intro i o l ho hi hl hv
    rcases hq with rfl | rfl
    · refine ⟨⟨0, o⟩, l, true, ⟨1, fun k hk => ?_⟩, ⟨by show o.length ≤ 1000; omega, hv⟩, Nat.le_refl _⟩
      obtain ⟨k, rfl⟩ : ∃ j, k = j + 1 := ⟨k - 1, by omega⟩
      simp only [bJ.l0]
      rw [if_neg (by omega), if_neg (by decide)]
    · have hNm := hNm rfl
      have hm := hm rfl
      have hw : wrap64 (m - (N : Int)) = ((m.toNat - N : Nat) : Int) := by unfold wrap64; omega
      by_cases c : (l.length : Int) < ((m.toNat - N : Nat) : Int)
      · refine ⟨⟨0, []⟩, [], false, ⟨1, fun k hk => ?_⟩, ⟨by simp, by simp⟩, by simp⟩
        obtain ⟨k, rfl⟩ : ∃ j, k = j + 1 := ⟨k - 1, by omega⟩
        simp only [bJ.l0]
        rw [if_neg (by omega), if_pos trivial, hw, if_pos c]
      · refine ⟨⟨0, o⟩, l.drop (m.toNat - N), true, ⟨1, fun k hk => ?_⟩, ⟨by show o.length ≤ 1000; omega, hv⟩, by rw [List.length_drop]; omega⟩
        obtain ⟨k, rfl⟩ : ∃ j, k = j + 1 := ⟨k - 1, by omega⟩
        simp only [bJ.l0]
        rw [if_neg (by omega), if_pos trivial, hw, if_neg c, if_pos (by omega), if_pos (by omega), Int.toNat_natCast]
  | succ d IH =>
    intro i o l ho hi hl hv
    obtain ⟨x, e0, hx⟩ := el i (by omega)
    obtain ⟨v, r, ok, ⟨K1, e1⟩, hb, hr⟩ := hx l hl
    dsimp only at e1
    cases ok with
    | false =>
      refine ⟨⟨0, []⟩, [], false, ⟨K1 + 1, fun k hk => ?_⟩, ⟨by simp, by simp⟩, by simp⟩
      obtain ⟨k, rfl⟩ : ∃ j, k = j + 1 := ⟨k - 1, by omega⟩
      have e1' := e1 k (by omega)
      simp only [bJ.l0]
      rw [if_pos (by omega), e0, Option.bind_some, e1', Option.bind_some, if_neg (by simp)]
    | true =>
      obtain ⟨v2, r2, ok2, ⟨K2, e2⟩, hb2, hr2⟩ := IH (i + 1) (o ++ [v]) r (by rw [List.length_append, List.length_singleton]; omega) (by omega) (by omega) (by
        intro y hy
        rcases List.mem_append.1 hy with hy | hy
        · exact hv y hy
        · rw [List.mem_singleton] at hy; rw [hy]; exact hb)
      refine ⟨v2, r2, ok2, ⟨max K1 K2 + 1, fun k hk => ?_⟩, hb2, by omega⟩
      obtain ⟨k, rfl⟩ : ∃ j, k = j + 1 := ⟨k - 1, by omega⟩
      have e1' := e1 k (by omega)
      have e2' := e2 k (by omega)
      dsimp only at e2'
      simp only [bJ.l0]
      rw [if_pos (by omega), e0, Option.bind_some, e1', Option.bind_some]
      dsimp only
      rw [if_pos rfl, if_pos (by omega), iJ (by omega), etaV, e2']
theorem read_any (n : Nat) : ∀ {t : S24} {l : List Int}, Vt n t → l.length ≤ 1000 → RdAny t l n := by
  induction n with
  | zero => intro t l h; cases h
  | succ n ih =>
    intro t l h hl
    by_cases h0 : l.length = 0
    · refine ⟨⟨0, []⟩, [], false, ⟨1, fun k hk => ?_⟩, ⟨by simp, by simp⟩, by simp⟩
      obtain ⟨k, rfl⟩ : ∃ j, k = j + 1 := ⟨k - 1, by omega⟩
      simp only [bJ.f]
      rw [if_pos (by omega)]
    have leaf : t.f0 ≠ 5 → t.f0 ≠ 6 → RdAny t l (n + 1) := by
      intro h5 h6
      refine ⟨⟨rd l 0, []⟩, l.drop 1, true, ⟨1, fun k hk => ?_⟩, ⟨by simp, by simp⟩, by rw [List.length_drop]; omega⟩
      obtain ⟨k, rfl⟩ : ∃ j, k = j + 1 := ⟨k - 1, by omega⟩
      simp only [bJ.f]
      rw [if_neg (by omega), if_neg h5, if_neg h6, if_pos (by omega), if_pos (by omega)]
    cases h with
    | bool => exact leaf (by decide) (by decide)
    | int _ lo hi h1 h2 h3 => exact leaf (by simp) (by simp)
    | nat => exact leaf (by decide) (by decide)
    | real => exact leaf (by decide) (by decide)
    | tup _ ts h1 h2 h3 h4 =>
      obtain ⟨v, r, ok, ⟨K, e⟩, hb, hr⟩ := LJ n 5 (.inl rfl) 0 (by omega) ts ts.length h2 (by omega) (fun i hi => ⟨ts[i], Em hi, fun l hl => ih (h3 _ (List.getElem_mem hi)) hl⟩) ts.length 0 [] l (by simp) (by omega) hl (by simp)
      refine ⟨v, r, ok, ⟨K + 2, fun k hk => ?_⟩, hb, hr⟩
      obtain ⟨k, rfl⟩ : ∃ j, k = j + 2 := ⟨k - 2, by omega⟩
      have e' := e k (by omega)
      simp only [bJ.f]
      rw [if_neg (by omega), if_pos trivial]
      simp only [bJ.j0]
      exact e'
    | lst _ m x h1 h2 h3 h4 =>
      have no : ((rd l 0) < 0 ∨ (rd l 0) > m) → RdAny ⟨6, 0, 0, m, [x]⟩ l (n + 1) := by
        intro c
        refine ⟨⟨0, []⟩, [], false, ⟨1, fun k hk => ?_⟩, ⟨by simp, by simp⟩, by simp⟩
        obtain ⟨k, rfl⟩ : ∃ j, k = j + 1 := ⟨k - 1, by omega⟩
        simp only [bJ.f]
        rw [if_neg (by omega), if_neg (by decide), if_pos trivial, if_pos (by omega)]
        by_cases c1 : (rd l 0) < 0
        · rw [if_pos c1]
        · rw [if_neg c1, if_pos (by omega)]
      by_cases c : (rd l 0) < 0 ∨ (rd l 0) > m
      · exact no c
      · obtain ⟨N, hN⟩ : ∃ N : Nat, rd l 0 = N := ⟨(rd l 0).toNat, by omega⟩
        obtain ⟨v, r, ok, ⟨K, e⟩, hb, hr⟩ := LJ n 6 (.inr rfl) m (fun _ => h2) [x] N (by omega) (by omega) (fun i hi => ⟨x, En, fun l hl => ih h3 hl⟩) N 0 [] (l.drop 1) (by simp) (by omega) (by rw [List.length_drop]; omega) (by simp)
        rw [List.length_drop] at hr
        refine ⟨v, r, ok, ⟨K + 2, fun k hk => ?_⟩, hb, by omega⟩
        obtain ⟨k, rfl⟩ : ∃ j, k = j + 2 := ⟨k - 2, by omega⟩
        have e' := e k (by omega)
        simp only [bJ.f]
        rw [if_neg (by omega), if_neg (by decide), if_pos trivial, if_pos (by omega), if_neg (by omega), if_neg (by omega), if_pos (by omega), hN]
        simp only [bJ.j0]
        exact e'
/-- both Ji -/
theorem YJ {t : S24} {l : List Int} (hv : Vt 10 t) (hl : (prt 10 t).length ≤ 24) (h4 : t.f0 ≠ 4) (hb : l.length ≤ 1000) :
    ∃ (v : S51) (e : Int), Ev (fun k => eY.f k t.f0 t.f1 t.f2 t.f3 t.f4 l) (v.f0, v.f1, e) ∧ Ev (fun k => fV.f k t.f0 t.f1 t.f2 t.f3 t.f4 l) (v.f0, v.f1, e) ∧ Bv 10 v := by
  obtain ⟨⟨K1, e1⟩, ⟨K2, e2⟩⟩ := BL hv hl h4
  obtain ⟨K3, e3⟩ := L8 10 (by omega) hv
  unfold at_ at e1 e2 e3
  by_cases hP : ∃ v, chk 10 t v = 0 ∧ cel 10 t v = l
  · obtain ⟨v, hc, rfl⟩ := hP
    have hbv := bv_chk 10 hv hc
    have hlen := uJ 10 hv hc
    refine ⟨v, 0, Tf hv hl h4 hbv (Nat.le_refl _) hc, ?_, hbv⟩
    obtain ⟨K4, e4⟩ := Rk 10 (l := cel 10 t v) (by omega) hv (by omega) hb
    have hbc := bld_cel 10 [] hv hc
    rw [List.append_nil] at hbc
    rw [hbc] at e4
    obtain ⟨K5, e5⟩ := Jh 10 hv h4 hbv (Nat.le_refl _)
    obtain ⟨K6, e6⟩ := Ib 10 (by omega) hv hbv (Nat.le_refl _) hc
    obtain ⟨K7, e7⟩ := Eo (cel 10 t v) (cel 10 t v) (by omega)
    dsimp only [at2] at e4 e5 e6 e7
    simp only [decide_true] at e7
    refine ⟨K2 + K3 + K4 + K5 + K6 + K7, fun k hk => ?_⟩
    simp only [fV.f]
    rw [e2 k (by omega), Option.bind_some, if_pos rfl, e3 k (by omega), Option.bind_some, if_pos (by omega), e4 k (by omega), Option.bind_some]
    dsimp only
    rw [e5 k (by omega), Option.bind_some, if_pos hc, e6 k (by omega), Option.bind_some, e7 k (by omega), Option.bind_some, if_pos rfl]
  · have hne : ∀ v, chk 10 t v = 0 → cel 10 t v ≠ l := fun v h1 h2 => hP ⟨v, h1, h2⟩
    refine ⟨⟨0, []⟩, 2, ?_, ?_, ⟨by simp, by simp⟩⟩
    · obtain ⟨v, r, ok, ⟨K4, e4⟩, hbv, hr⟩ := read_any 10 hv hb
      obtain ⟨K5, e5⟩ := Mq 10 hv h4 hbv (Nat.le_refl _)
      dsimp only [at2] at e4 e5
      cases ok with
      | false =>
        refine ⟨K1 + K4, fun k hk => ?_⟩
        simp only [eY.f]
        rw [e1 k (by omega), Option.bind_some, if_pos rfl, e4 k (by omega), Option.bind_some, if_neg (by simp)]
      | true =>
        by_cases hr0 : (r.length : Int) = 0
        · by_cases hc : chk 10 t v = 0
          · obtain ⟨K6, e6⟩ := H8 10 (by omega) hv hbv (Nat.le_refl _) hc
            obtain ⟨K7, e7⟩ := Te (cel 10 t v) l (by rw [uJ 10 hv hc]; omega)
            dsimp only [at2] at e6 e7
            rw [decide_eq_false (hne v hc)] at e7
            refine ⟨K1 + K4 + K5 + K6 + K7, fun k hk => ?_⟩
            simp only [eY.f]
            rw [e1 k (by omega), Option.bind_some, if_pos rfl, e4 k (by omega), Option.bind_some]
            dsimp only
            rw [if_pos rfl, if_pos hr0, e5 k (by omega), Option.bind_some, if_pos hc, e6 k (by omega), Option.bind_some, e7 k (by omega), Option.bind_some, if_neg (by decide)]
          · refine ⟨K1 + K4 + K5, fun k hk => ?_⟩
            simp only [eY.f]
            rw [e1 k (by omega), Option.bind_some, if_pos rfl, e4 k (by omega), Option.bind_some]
            dsimp only
            rw [if_pos rfl, if_pos hr0, e5 k (by omega), Option.bind_some, if_neg hc]
        · refine ⟨K1 + K4, fun k hk => ?_⟩
          simp only [eY.f]
          rw [e1 k (by omega), Option.bind_some, if_pos rfl, e4 k (by omega), Option.bind_some]
          dsimp only
          rw [if_pos rfl, if_neg hr0]
    · by_cases hq : (l.length : Int) = ((prt 10 t).length : Int)
      · obtain ⟨K4, e4⟩ := Rk 10 (l := l) (by omega) hv (by omega) hb
        have hbv := bv_bld 10 (l := l) hv
        obtain ⟨K5, e5⟩ := Jh 10 hv h4 hbv (Nat.le_refl _)
        dsimp only [at2] at e4 e5
        by_cases hc : chk 10 t (bld 10 t l) = 0
        · obtain ⟨K6, e6⟩ := Ib 10 (by omega) hv hbv (Nat.le_refl _) hc
          obtain ⟨K7, e7⟩ := Eo (cel 10 t (bld 10 t l)) l (by rw [uJ 10 hv hc]; omega)
          dsimp only [at2] at e6 e7
          rw [decide_eq_false (hne _ hc)] at e7
          refine ⟨K2 + K3 + K4 + K5 + K6 + K7, fun k hk => ?_⟩
          simp only [fV.f]
          rw [e2 k (by omega), Option.bind_some, if_pos rfl, e3 k (by omega), Option.bind_some, if_pos hq, e4 k (by omega), Option.bind_some]
          dsimp only
          rw [e5 k (by omega), Option.bind_some, if_pos hc, e6 k (by omega), Option.bind_some, e7 k (by omega), Option.bind_some, if_neg (by decide)]
        · refine ⟨K2 + K3 + K4 + K5, fun k hk => ?_⟩
          simp only [fV.f]
          rw [e2 k (by omega), Option.bind_some, if_pos rfl, e3 k (by omega), Option.bind_some, if_pos hq, e4 k (by omega), Option.bind_some]
          dsimp only
          rw [e5 k (by omega), Option.bind_some, if_neg hc]
      · refine ⟨K2 + K3, fun k hk => ?_⟩
        simp only [fV.f]
        rw [e2 k (by omega), Option.bind_some, if_pos rfl, e3 k (by omega), Option.bind_some, if_neg hq]

end Go.Proofs.YtggelekooacmnaaDoor.Pure
set_option linter.unusedVariables false
set_option linter.unusedSimpArgs false
namespace Go.Proofs.YtggelekooacmnaaDoor.Pure
open Go.RowKit Go.Proofs.YtggelekooacmnaaDoor.Q Go.Proofs.YtggelekooacmnaaDoorW.aJ Go.Proofs.YtggelekooacmnaaDoorW.bu Go.Proofs.YtggelekooacmnaaDoorW.bB
-- the zero of a type is a value of it
theorem bv_zv (n : Nat) : ∀ {t : S24}, Vt n t → Bv n (zv n t) := by
  induction n with
  | zero => intro t h; cases h
  | succ n ih =>
    intro t h
    by_cases k5 : t.f0 = 5
    · cases h with
      | tup _ l h1 h2 h3 h4 =>
        have e : zv (n + 1) ⟨5, 0, 0, 0, l⟩ = ⟨0, l.map (zv n)⟩ := by simp [zv]
        rw [e]
        refine ⟨by simp; omega, fun x hx => ?_⟩
        simp only [List.mem_map] at hx
        obtain ⟨y, hy, rfl⟩ := hx
        exact ih (h3 y hy)
      | _ => simp at k5
    · by_cases k2 : t.f0 = 2
      · rw [show zv (n + 1) t = ⟨zr t, []⟩ from by simp [zv, k2]]; exact ⟨by simp, by simp⟩
      · rw [show zv (n + 1) t = ⟨0, []⟩ from by simp [zv, k2, k5]]; exact ⟨by simp, by simp⟩
theorem Zero_ev {t : S24} (hv : Vt 10 t) (hl : (prt 10 t).length ≤ 24) (h4 : t.f0 ≠ 4) : Ev (at_ oO.f t) ((zv 10 t).f0, (zv 10 t).f1, 0) := by
  obtain ⟨⟨K1, e1⟩, _⟩ := BL hv hl h4
  obtain ⟨K2, e2⟩ := XN 10 hv
  unfold at_ at e1 e2
  refine ⟨K1 + K2, fun k hk => ?_⟩
  simp only [at_, oO.f]
  rw [e1 k (by omega), Option.bind_some, if_pos rfl, e2 k (by omega), Option.bind_some]

end Go.Proofs.YtggelekooacmnaaDoor.Pure
set_option linter.unusedVariables false
set_option linter.unusedSimpArgs false
namespace Go.Proofs.YtggelekooacmnaaDoor.Pure
open Go.RowKit Go.Proofs.YtggelekooacmnaaDoor.Q Go.Proofs.YtggelekooacmnaaDoorW.aJ Go.Proofs.YtggelekooacmnaaDoorW.bu Go.Proofs.YtggelekooacmnaaDoorW.bB
theorem typed_ev {n : Nat} {t : S24} (hn : n ≤ 1000) (hb : Bd n t) : ∃ e, Ev (at_ fO.f t) e ∧ Ev (at_ fu.f t) e ∧ (e = 0 → Vt 10 t ∧ (prt 10 t).length ≤ 24 ∧ t.f0 ≠ 4) := by
  obtain ⟨e, ⟨K1, e1⟩, ⟨K2, e2⟩, hv⟩ := TB hn hb
  unfold at_ at e1 e2
  by_cases he : e = 0
  · by_cases h4 : t.f0 = 4
    · refine ⟨8, ⟨K1, fun k hk => ?_⟩, ⟨K2, fun k hk => ?_⟩, by omega⟩
      · simp only [at_, fO.f]; rw [e1 k hk, Option.bind_some, if_pos he, if_pos h4]
      · simp only [at_, fu.f]; rw [e2 k hk, Option.bind_some, if_pos he, if_pos h4]
    · obtain ⟨h1, h2⟩ := hv he
      refine ⟨0, ⟨K1, fun k hk => ?_⟩, ⟨K2, fun k hk => ?_⟩, fun _ => ⟨h1, h2, h4⟩⟩
      · simp only [at_, fO.f]; rw [e1 k hk, Option.bind_some, if_pos he, if_neg h4]
      · simp only [at_, fu.f]; rw [e2 k hk, Option.bind_some, if_pos he, if_neg h4]
  · refine ⟨e, ⟨K1, fun k hk => ?_⟩, ⟨K2, fun k hk => ?_⟩, fun h => absurd h he⟩
    · simp only [at_, fO.f]; rw [e1 k hk, Option.bind_some, if_neg he]
    · simp only [at_, fu.f]; rw [e2 k hk, Option.bind_some, if_neg he]
theorem sameB {m : Nat} {v : S51} (h : Bv m v) : Ev (fun k => bI.f k v.f0 v.f1 v.f0 v.f1) true := sameV m h
theorem XQ {n m : Nat} {t : S24} {v w : S51} {l : List Int} (hn : n ≤ 1000) (hb : Bd n t) (hm : 10 ≤ m) (hv : Bv m v) (hw : Bv m w) (hl : l.length ≤ 1000) (hv9 : v.f0 ≤ 9223372036854775807) :
    ∃ (z u : S51) (x : List Int) (e e1 e2 e3 c : Int) (s : ByteArray), Bv 10 z ∧ Bv 10 u ∧ x.length ≤ 900 ∧
    Ev (at_ oO.f t) (z.f0, z.f1, e) ∧ Ev (at_ jO.f t) (z.f0, z.f1, e) ∧ Ev (at2 gX.f t v) e1 ∧ Ev (at2 dR.f t v) e1 ∧
    Ev (at2 eZ.f t v) (x, e1) ∧ Ev (at2 fP.f t v) (x, e1) ∧
    Ev (fun k => eY.f k t.f0 t.f1 t.f2 t.f3 t.f4 l) (u.f0, u.f1, e2) ∧ Ev (fun k => fV.f k t.f0 t.f1 t.f2 t.f3 t.f4 l) (u.f0, u.f1, e2) ∧
    Ev (fun k => kI.f k t.f0 t.f1 t.f2 t.f3 t.f4 v.f0 v.f1 w.f0 w.f1) (c, e3) ∧ Ev (fun k => ek.f k t.f0 t.f1 t.f2 t.f3 t.f4 v.f0 v.f1 w.f0 w.f1) (c, e3) ∧
    Ev (at2 lW.f t v) (s, e1) ∧ Ev (at2 iT.f t v) (s, e1) := by
  obtain ⟨e, ⟨K1, e1⟩, ⟨K2, e2⟩, ht⟩ := typed_ev hn hb
  by_cases he : e = 0
  · obtain ⟨hvt, hlen, h4⟩ := ht he
    subst he
    obtain ⟨⟨K3, e3⟩, ⟨K4, e4⟩⟩ := Mr hvt hlen h4 hv hm
    obtain ⟨⟨K5, e5⟩, ⟨K6, e6⟩⟩ := Mr hvt hlen h4 hw hm
    obtain ⟨u, e0, u1, u2, hu⟩ := YJ hvt hlen h4 hl
    obtain ⟨K7, e7⟩ := Tn 10 hvt
    have z1 := Zero_ev hvt hlen h4
    unfold at_ at e2 e7
    dsimp only [at2] at e3 e4 e5 e6
    have z2 : Ev (at_ jO.f t) ((zv 10 t).f0, (zv 10 t).f1, 0) := by
      refine ⟨K2 + K7, fun k hk => ?_⟩
      simp only [at_, jO.f]
      rw [e2 k (by omega), Option.bind_some, if_pos rfl, e7 k (by omega), Option.bind_some]
    by_cases cv : chk 10 t v = 0
    · have f1 := H9 hvt hlen h4 hv hm cv
      obtain ⟨K8, e8⟩ := Ib 10 (by omega) hvt hv hm cv
      dsimp only [at2] at e8
      have f2 : Ev (at2 fP.f t v) (cel 10 t v, 0) := by
        refine ⟨K4 + K8, fun k hk => ?_⟩
        simp only [at2, fP.f]
        rw [e4 k (by omega), Option.bind_some, if_pos cv, e8 k (by omega), Option.bind_some]
      obtain ⟨s, ⟨Ka, ea⟩, ⟨Kb, eb⟩⟩ := YF hvt h4 cv hv9
      dsimp only [at2] at ea eb
      have g1 : Ev (at2 lW.f t v) (s, 0) := by
        refine ⟨K3 + Kb, fun k hk => ?_⟩
        simp only [at2, lW.f]
        rw [e3 k (by omega), Option.bind_some, if_pos cv, eb k (by omega), Option.bind_some]
      have g2 : Ev (at2 iT.f t v) (s, 0) := by
        refine ⟨K4 + Ka, fun k hk => ?_⟩
        simp only [at2, iT.f]
        rw [e4 k (by omega), Option.bind_some, if_pos cv, ea k (by omega), Option.bind_some]
      have hx : (cel 10 t v).length ≤ 900 := by rw [uJ 10 hvt cv]; omega
      have c1 : Ev (at2 gX.f t v) 0 := ⟨K3, fun k hk => by dsimp only [at2]; rw [e3 k hk, cv]⟩
      have c2 : Ev (at2 dR.f t v) 0 := ⟨K4, fun k hk => by dsimp only [at2]; rw [e4 k hk, cv]⟩
      by_cases cw : chk 10 t w = 0
      · obtain ⟨K9, e9⟩ := Ib 10 (by omega) hvt hw hm cw
        obtain ⟨Kc, ec⟩ := rcmp_l0 (cel 10 t v) (cel 10 t w) (by omega) (cel 10 t v).length 0 (by omega) (by omega)
        dsimp only [at2] at e9 ec
        simp only [List.drop_zero] at ec
        rw [show ((0 : Nat) : Int) = 0 from rfl] at ec
        refine ⟨zv 10 t, u, cel 10 t v, 0, 0, e0, 0, _, s, bv_zv 10 hvt, hu, hx, z1, z2, c1, c2, f1, f2, u1, u2, Yk hvt hlen h4 hv hw hm cv cw, ?_, g1, g2⟩
        refine ⟨K4 + K6 + K8 + K9 + Kc, fun k hk => ?_⟩
        simp only [ek.f, bU.f]
        rw [e4 k (by omega), Option.bind_some, if_pos cv, e6 k (by omega), Option.bind_some, if_pos cw, e8 k (by omega), Option.bind_some, e9 k (by omega), Option.bind_some, ec k (by omega), Option.bind_some]
      · refine ⟨zv 10 t, u, cel 10 t v, 0, 0, e0, chk 10 t w, 0, s, bv_zv 10 hvt, hu, hx, z1, z2, c1, c2, f1, f2, u1, u2, ?_, ?_, g1, g2⟩
        · obtain ⟨Kf, ef⟩ := f1
          dsimp only [at2] at ef
          refine ⟨Kf + K5, fun k hk => ?_⟩
          simp only [kI.f]
          rw [ef k (by omega), Option.bind_some, if_pos rfl]
          simp only [eZ.f]
          rw [e5 k (by omega), Option.bind_some, if_neg cw, Option.bind_some, if_neg cw]
        · refine ⟨K4 + K6, fun k hk => ?_⟩
          simp only [ek.f]
          rw [e4 k (by omega), Option.bind_some, if_pos cv, e6 k (by omega), Option.bind_some, if_neg cw]
    · have f1 : Ev (at2 eZ.f t v) ([], chk 10 t v) := ⟨K3, fun k hk => by
        simp only [at2, eZ.f]; rw [e3 k hk, Option.bind_some, if_neg cv]⟩
      have f2 : Ev (at2 fP.f t v) ([], chk 10 t v) := ⟨K4, fun k hk => by
        simp only [at2, fP.f]; rw [e4 k hk, Option.bind_some, if_neg cv]⟩
      refine ⟨zv 10 t, u, [], 0, chk 10 t v, e0, chk 10 t v, 0, ⟨#[]⟩, bv_zv 10 hvt, hu, by simp, z1, z2, ⟨K3, e3⟩, ⟨K4, e4⟩, f1, f2, u1, u2, ?_, ?_, ⟨K3, fun k hk => ?_⟩, ⟨K4, fun k hk => ?_⟩⟩
      · obtain ⟨Kf, ef⟩ := f1
        dsimp only [at2] at ef
        refine ⟨Kf, fun k hk => ?_⟩
        simp only [kI.f]
        rw [ef k (by omega), Option.bind_some, if_neg cv]
      · refine ⟨K4, fun k hk => ?_⟩
        simp only [ek.f]
        rw [e4 k (by omega), Option.bind_some, if_neg cv]
      · simp only [at2, lW.f]; rw [e3 k hk, Option.bind_some, if_neg cv]
      · simp only [at2, iT.f]; rw [e4 k hk, Option.bind_some, if_neg cv]
  · unfold at_ at e1 e2
    have c1 : ∀ v : S51, Ev (at2 gX.f t v) e := fun v => ⟨K1, fun k hk => by simp only [at2, gX.f]; rw [e1 k hk, Option.bind_some, if_neg he]⟩
    have c2 : ∀ v : S51, Ev (at2 dR.f t v) e := fun v => ⟨K2, fun k hk => by simp only [at2, dR.f]; rw [e2 k hk, Option.bind_some, if_neg he]⟩
    obtain ⟨K3, e3⟩ := c1 v
    obtain ⟨K4, e4⟩ := c2 v
    dsimp only [at2] at e3 e4
    refine ⟨⟨0, []⟩, ⟨0, []⟩, [], e, e, e, e, 0, ⟨#[]⟩, ⟨by simp, by simp⟩, ⟨by simp, by simp⟩, by simp, ?_⟩
    refine ⟨⟨K1, fun k hk => ?_⟩, ⟨K2, fun k hk => ?_⟩, c1 v, c2 v, ⟨K3, fun k hk => ?_⟩, ⟨K4, fun k hk => ?_⟩, ⟨K1, fun k hk => ?_⟩, ⟨K2, fun k hk => ?_⟩, ⟨K3, fun k hk => ?_⟩, ⟨K4, fun k hk => ?_⟩, ⟨K3, fun k hk => ?_⟩, ⟨K4, fun k hk => ?_⟩⟩
    · simp only [at_, oO.f]; rw [e1 k hk, Option.bind_some, if_neg he]
    · simp only [at_, jO.f]; rw [e2 k hk, Option.bind_some, if_neg he]
    · simp only [at2, eZ.f]; rw [e3 k hk, Option.bind_some, if_neg he]
    · simp only [at2, fP.f]; rw [e4 k hk, Option.bind_some, if_neg he]
    · simp only [eY.f]; rw [e1 k hk, Option.bind_some, if_neg he]
    · simp only [fV.f]; rw [e2 k hk, Option.bind_some, if_neg he]
    · simp only [kI.f, eZ.f]; rw [e3 k hk, Option.bind_some, if_neg he, Option.bind_some, if_neg he]
    · simp only [ek.f]; rw [e4 k hk, Option.bind_some, if_neg he]
    · simp only [at2, lW.f]; rw [e3 k hk, Option.bind_some, if_neg he]
    · simp only [at2, iT.f]; rw [e4 k hk, Option.bind_some, if_neg he]
theorem Ic {n m : Nat} {t : S24} {v w : S51} {l : List Int} (hn : n ≤ 1000) (hb : Bd n t) (hm : 10 ≤ m) (hv : Bv m v) (hw : Bv m w) (hl : l.length ≤ 1000) (hv9 : v.f0 ≤ 9223372036854775807) :
    Ev (fun k => aQ.f k t.f0 t.f1 t.f2 t.f3 t.f4 v.f0 v.f1 w.f0 w.f1 l) true := by
  obtain ⟨z, u, x, e, e1, e2, e3, c, s, hz, hu, hx, ⟨K1, q1⟩, ⟨K2, q2⟩, ⟨K3, q3⟩, ⟨K4, q4⟩, ⟨K5, q5⟩, ⟨K6, q6⟩, ⟨K7, q7⟩, ⟨K8, q8⟩, ⟨K9, q9⟩, ⟨Ka, qa⟩, ⟨Kb, qb⟩, ⟨Kc, qc⟩⟩ := XQ (w := w) (l := l) hn hb hm hv hw hl hv9
  obtain ⟨Kd, qd⟩ := sameB hz
  obtain ⟨Ke, qe⟩ := sameB hu
  obtain ⟨Kf, qf⟩ := Eo x x (by omega)
  unfold at_ at q1 q2
  dsimp only [at2] at q3 q4 q5 q6 q7 q8 q9 qa qb qc qd qe qf
  simp only [decide_true] at qf
  refine ⟨K1 + K2 + K3 + K4 + K5 + K6 + K7 + K8 + K9 + Ka + Kb + Kc + Kd + Ke + Kf + 4, fun k hk => ?_⟩
  obtain ⟨k, rfl⟩ : ∃ j, k = j + 4 := ⟨k - 4, by omega⟩
  simp only [aQ.f]
  rw [q1 (k + 4) (by omega), Option.bind_some, q2 (k + 4) (by omega), Option.bind_some]
  dsimp only
  rw [if_pos rfl, qd (k + 4) (by omega), Option.bind_some, if_pos rfl, q3 (k + 4) (by omega), Option.bind_some, q4 (k + 4) (by omega), Option.bind_some, bne_self_eq_false]
  simp only [aQ.j0]
  rw [if_neg (by decide), q5 (k + 3) (by omega), Option.bind_some, q6 (k + 3) (by omega), Option.bind_some]
  dsimp only
  rw [if_pos rfl, qf (k + 3) (by omega), Option.bind_some, Bool.not_true]
  simp only [aQ.j1]
  rw [if_neg (by decide), q7 (k + 2) (by omega), Option.bind_some, q8 (k + 2) (by omega), Option.bind_some]
  dsimp only
  rw [if_pos rfl, qe (k + 2) (by omega), Option.bind_some, Bool.not_true]
  simp only [aQ.j2]
  rw [if_neg (by decide), q9 (k + 1) (by omega), Option.bind_some, qa (k + 1) (by omega), Option.bind_some]
  dsimp only
  rw [if_pos rfl, bne_self_eq_false]
  simp only [aQ.j3]
  rw [if_neg (by decide), qb k (by omega), Option.bind_some, qc k (by omega), Option.bind_some]
  dsimp only
  rw [if_pos rfl, beq_self_eq_true]
end Go.Proofs.YtggelekooacmnaaDoor.Pure
