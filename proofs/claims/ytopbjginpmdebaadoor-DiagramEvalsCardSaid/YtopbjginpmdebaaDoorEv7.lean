/- Lemmas for: Proved: the tied card of exactppllaw19.DiagramEvals (for every two lists of numbers the law returns true). Conditions: none beyond the given row. -/
import Derived.SizedLaws
import Derived.ChangeSlices
import Derived.Test.YtopbjginpmdebaaDoorEv5
import Derived.Test.YtopbjginpmdebaaDoorEv6
-- the reference's Eval; outcomes; diagrams that are made
namespace Go.Proofs.YtopbjginpmdebaaDoor.K
open Go.RowKit Go.Maps Go.Proofs.YtopbjginpmdebaaDoorW.PrintWords Go.Proofs.YtopbjginpmdebaaDoorW.PrintLast Go.Proofs.YtopbjginpmdebaaDoorW.PrintMore
set_option linter.unusedVariables false
set_option linter.unusedSimpArgs false
theorem refEval_l0 {l : List Nd} (hg : grB l = true) (o : List Int) : ∀ (i : Nat), i < l.length → ∀ k d, i < k → i < d → exactpplref19_Eval.l0 k o (i : Int) l = some (evK l o d (i : Int)) := by
  intro i
  induction i using Nat.strongRecOn with
  | _ i ih =>
    intro hi k d hk hd
    obtain ⟨k, rfl⟩ : ∃ k', k = k' + 1 := ⟨k - 1, by omega⟩
    obtain ⟨d, rfl⟩ : ∃ d', d = d' + 1 := ⟨d - 1, by omega⟩
    simp only [exactpplref19_Eval.l0, evK]
    rw [if_pos (by omega), if_pos (by omega), rd_nth, exactpplref19_IsBranch.f, Option.bind_some]
    have hf := (gr_fit hg).1 i hi
    rcases gr_nd hg hi with h1 | h1
    · have h2 := (lf_iff.1 h1).1
      rw [show ((nth l (i : Int)).f0 != -1) = false by simp [h2], if_neg (by decide), if_pos (by omega)]
    · have h2 := (br_iff.1 h1).1
      have h2' : (nth l (i : Int)).f0 ≠ -1 := by omega
      rw [show ((nth l (i : Int)).f0 != -1) = true by simp [h2'], if_pos rfl, if_neg (show ¬ (nth l (i : Int)).f0 < 0 by omega)]
      generalize nth l (i : Int) = n at h2 hf ⊢
      by_cases h3 : (o.length : Int) ≤ n.f0
      · rw [if_pos h3, if_pos (.inl h3)]
      · rw [if_neg h3, if_pos (by omega), if_pos (by omega)]
        by_cases h4 : rd o n.f0 < 0
        · rw [if_pos h4, if_pos (.inr (.inl h4))]
        · rw [if_neg h4]
          by_cases h5 : (n.f2.length : Int) ≤ rd o n.f0
          · rw [if_pos h5, if_pos (.inr (.inr h5))]
          · rw [if_neg h5, if_pos (by omega), if_pos (by omega), if_neg (by omega)]
            have hx : (rd o n.f0).toNat < n.f2.length := by omega
            have hc : rd n.f2 (rd o n.f0) ∈ n.f2 := by
              rw [show rd o n.f0 = (((rd o n.f0).toNat : Nat) : Int) by omega, rd_get hx]; exact List.getElem_mem hx
            have hb := hf _ hc
            have := ih (rd n.f2 (rd o n.f0)).toNat (by omega) (by omega) k d (by omega) (by omega)
            rw [show (((rd n.f2 (rd o n.f0)).toNat : Nat) : Int) = rd n.f2 (rd o n.f0) by omega] at this
            exact this
theorem refEval_f (l : List Nd) (o : List Int) (h : ndOk l = true) (k : Nat) (hk : rnd l ≤ k) : exactpplref19_Eval.f k l o = some (evR l o) := by
  unfold exactpplref19_Eval.f evR
  rw [refValidate_f l h k hk, Option.bind_some]
  by_cases h0 : valE l = 0
  · obtain ⟨hg, _, hl⟩ := val_ok h0
    have hp := gr_pos hg
    unfold rnd at hk
    rw [if_pos h0, if_pos h0, w64_id (by omega) (by omega), show (l.length : Int) - 1 = ((l.length - 1 : Nat) : Int) by omega]
    exact refEval_l0 hg o (l.length - 1) (by omega) k (l.length + 1) (by omega) (by omega)
  · rw [if_neg h0, if_neg h0]
/-- the shape of what is made -/
def wd (s : Int) : Nat := (2 + s % 2).toNat
/-- how many nodes at most -/
def bnd : Nat → Nat
  | 0 => 1
  | n + 1 => 3 * bnd n + 1
theorem bnd_le : ∀ n, n ≤ 6 → bnd n ≤ 1093 := by
  intro n hn
  match n, hn with
  | 0, _ => decide
  | 1, _ => decide
  | 2, _ => decide
  | 3, _ => decide
  | 4, _ => decide
  | 5, _ => decide
  | 6, _ => decide
theorem bnd_mono (n : Nat) : bnd n ≤ bnd (n + 1) := by simp only [bnd]; omega
theorem bnd_pos (n : Nat) : 1 ≤ bnd n := by
  cases n with
  | zero => exact Nat.le_refl _
  | succ n => simp only [bnd]; omega
/-- a diagram that was made over the sites from lo to hi -/
structure Dg (lo hi : Int) (n : Nat) (r : List Nd) : Prop where
  gr : grB r = true
  shp : GrS wd r
  can : Can r
  len : r.length ≤ bnd n
  all : AllF (fun x => lo ≤ x ∧ x ≤ hi) r
theorem Dg.const {lo hi : Int} {n : Nat} (v : Int) (h : -1073741824 ≤ v ∧ v ≤ 1073741824) : Dg lo hi n [⟨-1, v, []⟩] := by
  have hs : GrS wd [⟨-1, v, []⟩] := ⟨fun i hi => by
    obtain rfl : i = 0 := by simp at hi; omega
    exact .inl (lf_iff.2 ⟨rfl, rfl, h.1, h.2⟩)⟩
  have hr : Red [⟨-1, v, []⟩] := ⟨fun i hi k hk => by
    obtain rfl : i = 0 := by simp at hi; omega
    simp [nth] at hk, by simp, by simp, by simp, by simp⟩
  refine ⟨hs.gr (by simp), hs, ⟨hr, by simp, ?_⟩, by simpa using bnd_pos n, ?_⟩
  · simp [expo, dfs, fin, upd, nth, mp]
  · intro n hn h0
    simp at hn
    subst hn
    simp at h0
theorem Dg.weaken {lo lo' hi : Int} {n m : Nat} {r : List Nd} (h : Dg lo hi n r) (h1 : lo' ≤ lo) (h2 : bnd n ≤ bnd m) : Dg lo' hi m r := ⟨h.gr, h.shp, h.can, Nat.le_trans h.len h2, fun x hx h0 => ⟨by have := (h.all x hx h0).1; omega, (h.all x hx h0).2⟩⟩
theorem sumL_le {m : Nat} : ∀ (ds : List S31), (∀ d ∈ ds, d.f0.length ≤ m) → sumL ds ≤ ds.length * m
  | [], _ => by simp [sumL]
  | d :: ds, h => by
    have h1 := h d List.mem_cons_self
    have h2 := sumL_le ds (fun e he => h e (List.mem_cons_of_mem _ he))
    simp only [sumL, List.map_cons, List.sum_cons, List.length_cons] at h2 ⊢
    rw [Nat.add_mul]; omega
theorem Dg.join {lo hi : Int} {n : Nat} {ds : List S31} (hd : ∀ d ∈ ds, Dg (lo + 1) hi n d.f0) (hl : ds.length = wd lo) (hlo : 0 ≤ lo ∧ lo ≤ hi) (hhi : hi ≤ 60) (hn : n ≤ 5) : exactpplref19_Join.f lo ds = some (jn lo ds) ∧ Dg lo hi (n + 1) (jn lo ds) := by
  have hw : wd lo = 2 ∨ wd lo = 3 := by unfold wd; omega
  have hne : ds ≠ [] := by intro e; rw [e] at hl; simp at hl; omega
  have hs := sumL_le ds (fun d hd' => (hd d hd').len)
  have hb := bnd_le n (by omega)
  have hs2 : sumL ds ≤ 3 * bnd n := Nat.le_trans hs (Nat.mul_le_mul_right _ (by omega))
  have hd1 : ∀ d ∈ ds, GrS wd d.f0 ∧ d.f0 ≠ [] ∧ AllF (fun x => lo < x) d.f0 := fun d hd' => ⟨(hd d hd').shp, gr_ne (hd d hd').gr, fun m hm h0 => by have := ((hd d hd').all m hm h0).1; omega⟩
  have hj := jn_ok hd1 ⟨hlo.1, by omega⟩ hne hl (by omega)
  have ht := jn_tb hd1 ⟨hlo.1, by omega⟩ hne hl (by omega)
  refine ⟨?_, ⟨hj.2.1, hj.1, hj.2.2.1, by simp only [bnd]; have := hj.2.2.2; omega, jn_all (fun d hd' m hm h0 => ⟨by have := ((hd d hd').all m hm h0).1; omega, ((hd d hd').all m hm h0).2⟩) ⟨Int.le_refl _, hlo.2⟩ ht.1.red.down ht.2.1⟩⟩
  unfold exactpplref19_Join.f
  rw [if_pos ⟨hlo.1, hne, by omega, by omega⟩, if_pos (List.all_eq_true.2 fun d hd' => (hd d hd').gr)]
/-- how a stretch of Diagram ends -/
def DgEnd (L : List Int) (st lo hi : Int) (n : Nat) (f : Nat → Option (List S60 × Int × Int)) : Prop := ∃ k r a', f k = some (r, a', st) ∧ Dg lo hi n r ∧ Src L a'
theorem diag_k {L : List Int} (st hi : Int) (hhi : hi ≤ 60) : ∀ (n : Nat), n ≤ 6 → ∀ (lo a : Int), 0 ≤ lo → hi - lo + 1 ≤ n → Src L a → DgEnd L st lo hi n fun k => exactpplmake_Src_Diagram.f k L a st lo hi := by
  intro n
  induction n with
  | zero =>
    intro hn lo a h0 h1 hS
    obtain ⟨x, a1, e1, hx, h2⟩ := range_f hS st (-2) 3 (by omega) (by omega) (by omega)
    refine ⟨1 + 1, [⟨-1, x, []⟩], a1, ?_, Dg.const x (by omega), h2⟩
    simp only [exactpplmake_Src_Diagram.f, exactpplmake_Src_Diagram.j0]
    rw [if_pos (by omega), if_pos trivial, e1, Option.bind_some, exactpplref19_Const.f, Option.bind_some]
  | succ n ih =>
    intro hn lo a h0 h1 hS
    by_cases hgt : lo > hi
    · obtain ⟨x, a1, e1, hx, h2⟩ := range_f hS st (-2) 3 (by omega) (by omega) (by omega)
      refine ⟨1 + 1, [⟨-1, x, []⟩], a1, ?_, Dg.const x (by omega), h2⟩
      simp only [exactpplmake_Src_Diagram.f, exactpplmake_Src_Diagram.j0]
      rw [if_pos (by omega), if_pos trivial, e1, Option.bind_some, exactpplref19_Const.f, Option.bind_some]
    · obtain ⟨y, a1, e1, hy, h2⟩ := n_f hS st 5 (by omega) (by omega)
      by_cases hy0 : y = 0
      · obtain ⟨x, a2, e2, hx, h3⟩ := range_f h2 st (-2) 3 (by omega) (by omega) (by omega)
        refine ⟨1 + 1, [⟨-1, x, []⟩], a2, ?_, Dg.const x (by omega), h3⟩
        simp only [exactpplmake_Src_Diagram.f, exactpplmake_Src_Diagram.j0]
        rw [if_neg hgt, e1, Option.bind_some]
        simp only
        rw [if_pos (by simpa using hy0), e2, Option.bind_some, exactpplref19_Const.f, Option.bind_some]
      · obtain ⟨z, a2, e2, hz, h3⟩ := n_f h2 st 4 (by omega) (by omega)
        by_cases hz0 : z = 0
        · obtain ⟨k, r, a', e, q1, q2⟩ := ih (by omega) (lo + 1) a2 (by omega) (by omega) h3
          refine ⟨k + 1 + 1, r, a', ?_, q1.weaken (by omega) (bnd_mono n), q2⟩
          simp only [exactpplmake_Src_Diagram.f, exactpplmake_Src_Diagram.j0]
          rw [if_neg hgt, e1, Option.bind_some]
          simp only
          rw [if_neg (by simpa using hy0), e2, Option.bind_some]
          simp only
          have e' : exactpplmake_Src_Diagram.f k L a2 st (lo + 1) hi = some (r, a', st) := e
          rw [if_pos hz0, w64_id (by omega) (by omega), e', Option.bind_some]
        · -- the kids, one by one
          have hw : wd lo = 2 ∨ wd lo = 3 := by unfold wd; omega
          have key : ∀ (c j : Nat) (a : Int) (ds : List S31), wd lo - j ≤ c → j ≤ wd lo → ds.length = j → (∀ d ∈ ds, Dg (lo + 1) hi n d.f0) → Src L a → DgEnd L st lo hi (n + 1) fun k => exactpplmake_Src_Diagram.l0 k lo hi ds (j : Int) L a st := by
            intro c
            induction c with
            | zero =>
              intro j a ds g1 g2 g3 g4 g5
              obtain ⟨j1, j2⟩ := Dg.join g4 (by omega) ⟨h0, by omega⟩ hhi (by omega)
              refine ⟨1, jn lo ds, a, ?_, j2, g5⟩
              simp only [exactpplmake_Src_Diagram.l0]
              rw [width_f lo h0 (by omega), Option.bind_some, if_neg (by unfold wd at g1; omega), j1, Option.bind_some]
            | succ c ihc =>
              intro j a ds g1 g2 g3 g4 g5
              by_cases hj : j < wd lo
              · obtain ⟨k1, r, a', e, q1, q2⟩ := ih (by omega) (lo + 1) a (by omega) (by omega) g5
                obtain ⟨k2, r2, a2', e2', q3, q4⟩ := ihc (j + 1) a' (ds ++ [⟨r⟩]) (by omega) (by omega) (by simp; omega) (fun d hd => (List.mem_append.1 hd).elim (g4 d) (fun e => by rw [List.mem_singleton.1 e]; exact q1)) q2
                refine ⟨k1 + k2 + 1, r2, a2', ?_, q3, q4⟩
                simp only [exactpplmake_Src_Diagram.l0]
                have e' : exactpplmake_Src_Diagram.f (k1 + k2) L a st (lo + 1) hi = some (r, a', st) := mono_le (f := fun k => exactpplmake_Src_Diagram.f k L a st (lo + 1) hi) (fun k => exactpplmake_Src_Diagram.mono L a st (lo + 1) hi k) (show k1 ≤ k1 + k2 by omega) e
                have e2'' := mono_le (f := fun k => exactpplmake_Src_Diagram.l0 k lo hi (ds ++ [⟨r⟩]) ((j + 1 : Nat) : Int) L a' st) (fun k => (exactpplmake_Src_Diagram.mono_l k).2.2 _ _ _ _ _ _ _) (show k2 ≤ k1 + k2 by omega) e2'
                rw [width_f lo h0 (by omega), Option.bind_some, if_pos (by unfold wd at hj; omega), w64_id (x := lo + 1) (by omega) (by omega)]
                rw [e', Option.bind_some]
                simp only
                rw [if_pos (by omega), w64_succ (by omega)]
                exact e2''
              · obtain ⟨j1, j2⟩ := Dg.join g4 (by omega) ⟨h0, by omega⟩ hhi (by omega)
                refine ⟨1, jn lo ds, a, ?_, j2, g5⟩
                simp only [exactpplmake_Src_Diagram.l0]
                rw [width_f lo h0 (by omega), Option.bind_some, if_neg (by unfold wd at hj; omega), j1, Option.bind_some]
          obtain ⟨k, r, a', e, q1, q2⟩ := key 3 0 a2 [] (by omega) (by omega) rfl (by simp) h3
          refine ⟨k + 1 + 1, r, a', ?_, q1, q2⟩
          simp only [exactpplmake_Src_Diagram.f, exactpplmake_Src_Diagram.j0]
          rw [if_neg hgt, e1, Option.bind_some]
          simp only
          rw [if_neg (by simpa using hy0), e2, Option.bind_some]
          simp only
          rw [if_neg hz0]
          exact e
theorem diag_f {L : List Int} {a : Int} (h : Src L a) (st lo hi : Int) (h0 : 0 ≤ lo) (h1 : hi ≤ 5) : ∃ K r a', (∀ k, K ≤ k → exactpplmake_Src_Diagram.f k L a st lo hi = some (r, a', st)) ∧ Dg lo hi 6 r ∧ Src L a' := by
  obtain ⟨k, r, a', e, q1, q2⟩ := diag_k (L := L) st hi (by omega) 6 (by omega) lo a h0 (by omega) h
  exact ⟨k, r, a', fun k' hk => mono_le (f := fun k => exactpplmake_Src_Diagram.f k L a st lo hi) (fun k => exactpplmake_Src_Diagram.mono L a st lo hi k) hk e, q1, q2⟩
theorem Dg.ok {lo hi : Int} {r : List Nd} (h : Dg lo hi 6 r) : ndOk r = true := gr_ok h.gr (by have := h.len; have := bnd_le 6 (by omega); omega)
theorem Dg.len' {lo hi : Int} {r : List Nd} (h : Dg lo hi 6 r) : r.length ≤ 1093 := Nat.le_trans h.len (bnd_le 6 (by omega))
/-- Outcomes -/
theorem outs_l0 {L : List Int} (st : Int) (n : Int) (hn : n ≤ 60) : ∀ (c j : Nat) (a : Int) (o : List Int), n - j ≤ c → o.length = j → (j : Int) ≤ n → Src L a → (∀ i : Nat, i < j → 0 ≤ rd o (i : Int) ∧ rd o (i : Int) < wd i) →
    ∃ k r a', exactpplmake_Src_Outcomes.l0 k n o (j : Int) L a st = some (r, a', st) ∧ (r.length : Int) = n ∧ (∀ i : Nat, (i : Int) < n → 0 ≤ rd r (i : Int) ∧ rd r (i : Int) < wd i) ∧ Src L a' := by
  intro c
  induction c with
  | zero =>
    intro j a o h1 h2 h3 hS h4
    refine ⟨1, o, a, ?_, by omega, fun i hi => h4 i (by omega), hS⟩
    simp only [exactpplmake_Src_Outcomes.l0]
    rw [if_neg (by omega)]
  | succ c ih =>
    intro j a o h1 h2 h3 hS h4
    by_cases hj : (j : Int) < n
    · obtain ⟨x, a1, e1, hx, h5⟩ := n_f hS st (2 + (j : Int) % 2) (by omega) (by omega)
      obtain ⟨k, r, a', e, q1, q2, q3⟩ := ih (j + 1) a1 (o ++ [x]) (by omega) (by simp; omega) (by omega) h5 (fun i hi => by
        rcases Nat.lt_or_ge i j with h6 | h6
        · have e2 : rd (o ++ [x]) (i : Int) = rd o (i : Int) := by rw [rd_get (by simp; omega), rd_get (by omega), List.getElem_append_left (by omega)]
          rw [e2]; exact h4 i h6
        · obtain rfl : i = j := by omega
          have e2 : rd (o ++ [x]) (i : Int) = x := by rw [rd_get (by simp; omega), List.getElem_append_right (by omega)]; simp
          rw [e2]; unfold wd; omega)
      refine ⟨k + 1, r, a', ?_, q1, q2, q3⟩
      simp only [exactpplmake_Src_Outcomes.l0]
      rw [if_pos hj, width_f (j : Int) (by omega) (by omega), Option.bind_some, e1, Option.bind_some]
      simp only
      rw [if_pos (by omega), w64_succ (by omega)]
      exact e
    · refine ⟨1, o, a, ?_, by omega, fun i hi => h4 i (by omega), hS⟩
      simp only [exactpplmake_Src_Outcomes.l0]
      rw [if_neg (by omega)]
theorem outs_f {L : List Int} {a : Int} (h : Src L a) (st n : Int) (h0 : 0 ≤ n) (hn : n ≤ 60) : ∃ K r a', (∀ k, K ≤ k → exactpplmake_Src_Outcomes.f k L a st n = some (r, a', st)) ∧ (r.length : Int) = n ∧ (∀ i : Nat, (i : Int) < n → 0 ≤ rd r (i : Int) ∧ rd r (i : Int) < wd i) ∧ Src L a' := by
  obtain ⟨k, r, a', e, q1, q2, q3⟩ := outs_l0 (L := L) st n hn n.toNat 0 a [] (by omega) rfl (by omega) h (fun i hi => by omega)
  exact ⟨k, r, a', fun k' hk => mono_le (f := fun k => exactpplmake_Src_Outcomes.f k L a st n) (fun k => exactpplmake_Src_Outcomes.mono L a st n k) hk e, q1, q2, q3⟩
end Go.Proofs.YtopbjginpmdebaaDoor.K
-- the plain law of DiagramEvals
namespace Go.Proofs.YtopbjginpmdebaaDoor.Pure
open Go.RowKit Go.Proofs.YtopbjginpmdebaaDoor.K Go.Proofs.YtopbjginpmdebaaDoorW.PrintWords Go.Proofs.YtopbjginpmdebaaDoorW.PrintLast
theorem ev_same (l : List Nd) (o : List Int) (h : ndOk l = true) (ho : o.length ≤ 17592186044000) (k : Nat) (hk : rnd l ≤ k) : (diagram_Eval.f l o).bind (fun a => (exactpplref19_Eval.f k l o).bind fun b => (if a.2 = b.2 then (if a.1 = b.1 then ((exactppllaw19_awake.f).bind fun t => (some t)) else (some false)) else (some false))) = some true := by
  have hE : diagram_Eval.f l o = some (evR l o) := by unfold diagram_Eval.f; rw [if_pos h, if_pos ho]
  rw [hE, Option.bind_some, refEval_f l o h k hk, Option.bind_some, if_pos rfl, if_pos rfl]
  rfl
theorem DiagramEvals : exactppllaw19_DiagramEvals.Pure := by
  intro l o _ _ hw _ hol hwo
  obtain ⟨L, e1, h1⟩ := new_f l (wf_of hw)
  obtain ⟨K1, d, a1, e2, hd, h2⟩ := diag_f h1 0 0 3 (by omega) (by omega)
  obtain ⟨x, a2, e3, hx, h3⟩ := n_f h2 0 8 (by omega) (by omega)
  obtain ⟨K2, r, a3, e4, g1, g2, _⟩ := nodes_f h3 0
  obtain ⟨n, a4, e5, hn, h4⟩ := range_f h3 0 2 5 (by omega) (by omega) (by omega)
  obtain ⟨K3, o2, a5, e6, g3, _, _⟩ := outs_f h4 0 n (by omega) (by omega)
  have hok := NdG.ok g1 (by omega)
  refine ⟨K1 + K2 + K3 + rnd d + rnd r + 1, ?_⟩
  unfold exactppllaw19_DiagramEvals.f
  rw [e1, Option.bind_some]
  simp only
  rw [e2 _ (by omega), Option.bind_some]
  simp only
  rw [e3, Option.bind_some]
  simp only
  by_cases h0 : x = 0
  · rw [if_pos h0, e4 _ (by omega), Option.bind_some]
    exact ev_same r o hok (by omega) _ (by omega)
  · rw [if_neg h0]
    have hj : ∀ b : Bool, exactppllaw19_DiagramEvals.j0 (K1 + K2 + K3 + rnd d + rnd r + 1) o b L a2 0 d = some true := by
      intro b
      simp only [exactppllaw19_DiagramEvals.j0]
      cases b with
      | true =>
        rw [if_pos rfl, e5, Option.bind_some]
        simp only
        rw [e6 _ (by omega), Option.bind_some]
        exact ev_same d o2 hd.ok (by omega) _ (by omega)
      | false =>
        rw [if_neg (by decide)]
        exact ev_same d o hd.ok (by omega) _ (by omega)
    by_cases h1 : x = 1
    · rw [if_pos h1]; exact hj _
    · rw [if_neg h1]
      by_cases h2 : x = 2
      · rw [if_pos h2]; exact hj _
      · rw [if_neg h2]
        by_cases h3 : x = 3
        · rw [if_pos h3]; exact hj _
        · rw [if_neg h3]; exact hj _
end Go.Proofs.YtopbjginpmdebaaDoor.Pure
namespace Go.Proofs.YtopbjginpmdebaaDoorW.PrintWords
open Go.ChangeShapes Go.WideShapes
theorem sized_ints {H : Type} {enc : TypeId × Value → H} {P : Program} {W : World} {base : Nat} {spare : Nat → Bool} {held : Bool} {t e : TypeId} {k : IntKind} {a : Option Addr} {len cap : Nat} {d : DataW H} {ps : List MemPlace} {ts : List TypeId} {ds : List (DataW H)} {j : Nat}
    (hsz : (DataW.weightsEach P ts ds).all (· ≤ reachBytes) = true) (ht : ts[j]? = some t) (hd : ds[j]? = some d) (hu : P.underlying t = some (.slice e)) (he : P.underlying e = some (.int k)) (hc : P.cellsOf e = 1) {B : Nat} (hB : P.bytesOf e = B)
    (h : DataW.Trod enc P W base spare held t (.slice a len cap) d ps) : len * B ≤ 140737488351232 := by
  obtain ⟨fuel, hf⟩ := h
  rcases open_ints hu he hc hf with ⟨hcs, _⟩ | ⟨x, l, c, zs, hcs, _, hl, _, hz, hx, _, _⟩
  · simp [Value.cells] at hcs
    obtain ⟨rfl, rfl, rfl⟩ := hcs
    simp
  · simp [Value.cells] at hcs
    obtain ⟨rfl, rfl, rfl⟩ := hcs
    obtain ⟨hx, _⟩ := Prod.mk.inj hx
    subst hx
    have z := sized_slice hsz ht hd hu
    rw [hB] at z
    have hl2 : len ≤ zs.length := by
      rw [hz]
      split
      · exact hl
      · exact Nat.le_refl _
    have h1 : (lits (H := H) k (zs.take len)).length + (lits (H := H) k (zs.drop len)).length = zs.length := by
      simp [lits]
      omega
    rw [h1] at z
    exact Nat.le_trans (Nat.mul_le_mul_right _ hl2) z
end Go.Proofs.YtopbjginpmdebaaDoorW.PrintWords
