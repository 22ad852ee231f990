/- Lemmas for: Proved: the tied card of exactppllaw19.DiagramBranches (for every list and site the law returns true). Conditions: none beyond the given row. -/
import Derived.BigRegion
import Derived.StillTailTactics
import Derived.Test.YtopbjginpmdebaaDoorBr2
import Derived.Test.YtopbjginpmdebaaDoorBr3
-- graph.Table.Export: what its loop keeps
namespace Go.Proofs.YtopbjginpmdebaaDoor.K
open Go.RowKit Go.Maps Go.Proofs.YtopbjginpmdebaaDoorW.PrintWords Go.Proofs.YtopbjginpmdebaaDoorW.PrintLast Go.Proofs.YtopbjginpmdebaaDoorW.PrintMore
set_option linter.unusedVariables false
set_option linter.unusedSimpArgs false
/-- a map from numbers to numbers -/
def IMap (W : World) (mp n : Nat) (g : PM) : Prop := ∃ D : DataW Unit, W.ownsMap Tryd.prog 3 (plainElem Tryd.prog 3) mp n D ∧
  ∀ x : Int, Maps.has D (.int .i64 x) = (g x).isSome ∧ D.atKey (.int .i64 x) (.lit (.int .i64 0)) = .lit (.int .i64 ((g x).getD 0))
theorem IMap.move {W W' : World} {mp n : Nat} {g : PM} (h : IMap W mp n g) (hm : W'.heap[mp]? = W.heap[mp]?) : IMap W' mp n g := by
  obtain ⟨D, ⟨es, c, h1, h2⟩, h3⟩ := h
  exact ⟨D, ⟨es, c, hm.trans h1, h2⟩, h3⟩
theorem IMap.lt {W : World} {mp n : Nat} {g : PM} (h : IMap W mp n g) : mp < W.heap.size := by obtain ⟨D, h, _⟩ := h; exact h.lt
theorem IMap.made (w : World) : IMap (w.alloc (.map #[] 0)) w.heap.size 0 (fun _ => none) := ⟨.map [], World.ownsMap_made w Tryd.prog 3 _, fun x => ⟨by simp [Maps.has], rfl⟩⟩
theorem intKey_inj {x y : Int} (h : (Lit.int .i64 x) = Lit.int .i64 y) : x = y := by injection h
theorem IMap.put {W' : World} {mp n : Nat} {g : PM} {D : DataW Unit} (hD : ∀ x : Int, Maps.has D (.int .i64 x) = (g x).isSome ∧ D.atKey (.int .i64 x) (.lit (.int .i64 0)) = .lit (.int .i64 ((g x).getD 0))) (hm : IsMap D) {i a : Int}
    (h : W'.ownsMap Tryd.prog 3 (plainElem Tryd.prog 3) mp (n + 1) (D.put (.int .i64 i) (.lit (.int .i64 a)))) : IMap W' mp (n + 1) (upd g i a) := by
  refine ⟨_, h, fun x => ?_⟩
  unfold upd
  by_cases e : x = i
  · subst e
    have hl : WideAt.IsKeyLit (Lit.int .i64 x) := trivial
    rw [has_put_same hm hl, atKey_put_same hm hl, if_pos rfl]
    exact ⟨rfl, rfl⟩
  · rw [has_put_other (fun h' => e (intKey_inj h')), atKey_put_other (fun h' => e (intKey_inj h')), if_neg e]
    exact hD x
/-- the stack's cells -/
def flat (l : List (Int × Int)) : List Value := (l.map fun p => [Value.int .i64 p.1, Value.int .i64 p.2]).flatten
theorem flat_snoc (l : List (Int × Int)) (p : Int × Int) : flat (l ++ [p]) = flat l ++ [.int .i64 p.1, .int .i64 p.2] := by simp [flat]
theorem flat_len (l : List (Int × Int)) : (flat l).length = l.length * 2 := by
  induction l with
  | nil => rfl
  | cons p l ih => simp [flat] at ih ⊢; omega
/-- the stack, its top first -/
def Stk (W : World) (b : Nat) (v : Value) (st : List (Int × Int)) : Prop := W.ownsRow b 85 2 v st.length (flat st.reverse)
theorem Stk.move {W W' : World} {b : Nat} {v : Value} {st : List (Int × Int)} (h : Stk W b v st) (hm : ∀ k, v.ownBlock = some k → W'.heap[k]? = W.heap[k]?) : Stk W' b v st := own_move h hm
theorem Stk.top {W : World} {b : Nat} {v : Value} {i j : Int} {st : List (Int × Int)} (h : Stk W b v ((i, j) :: st)) :
    ∃ (g cap : Nat) (cur : Array Value), v = .slice (some ⟨g, 0, none⟩) (st.length + 1) cap ∧ b ≤ g ∧ W.heap[g]? = some (.cells cur 85 (0, 0)) ∧ cur[st.length * 2]? = some (.int .i64 i) ∧ cur[st.length * 2 + 1]? = some (.int .i64 j) := by
  obtain ⟨g, cap, cur, e, hb, hh, hc⟩ := own_obj h (by simp)
  refine ⟨g, cap, cur, e, hb, hh, hc _ _ ?_, hc _ _ ?_⟩
  · rw [List.reverse_cons, flat_snoc, List.getElem?_append_right (by rw [flat_len]; simp), flat_len]; simp
  · rw [List.reverse_cons, flat_snoc, List.getElem?_append_right (by rw [flat_len]; simp), flat_len]; simp
theorem Stk.next {W : World} {b g cap : Nat} {i j : Int} {st : List (Int × Int)} (h : Stk W b (.slice (some ⟨g, 0, none⟩) (st.length + 1) cap) ((i, j) :: st)) (j' : Int) :
    Stk (W.setCell ⟨g, st.length * 2 + 1, none⟩ (.int .i64 j')) b (.slice (some ⟨g, 0, none⟩) (st.length + 1) cap) ((i, j') :: st) := by
  have := (World.ownsRow.stored (g := g) (cap := cap) (n := st.length + 1) h (st.length * 2 + 1) (.int .i64 j')).1
  unfold Stk at h ⊢
  rw [List.reverse_cons, flat_snoc] at this ⊢
  rw [List.set_append_right _ _ (by rw [flat_len]; simp), flat_len] at this
  simpa using this
theorem Stk.pop {W : World} {b cap : Nat} {A : Option Addr} {p : Int × Int} {st : List (Int × Int)} (h : Stk W b (.slice A (st.length + 1) cap) (p :: st)) : Stk W b (.slice A st.length cap) st := by
  have := own_take (m := st.length) h (by simp)
  rw [List.reverse_cons, flat_snoc, List.take_append_of_le_length (by rw [flat_len]; simp), List.take_of_length_le (by rw [flat_len]; simp)] at this
  exact this
theorem Stk.first (W : World) (b : Nat) (i : Int) (hb : b ≤ W.heap.size) : Stk (W.alloc (.cells #[.int .i64 i, .int .i64 0] 85)) b (.slice (some ⟨W.heap.size, 0, none⟩) 1 1) [(i, 0)] := by
  have h := World.ownsRow_lit (base := b) (e := 85) (size := 2) W #[.int .i64 i, .int .i64 0] 1 hb (by decide) (by simp)
  simpa [Stk, flat] using h
/-- strictly rising numbers below n are at most n -/
theorem asc_len : ∀ (l : List Int) (n : Nat), l.Pairwise (· < ·) → (∀ x ∈ l, 0 ≤ x ∧ x < (n : Int)) → l.length ≤ n := by
  have key : ∀ (l : List Int) (lo : Int), l.Pairwise (· < ·) → ∀ n : Int, (∀ x ∈ l, lo ≤ x ∧ x < n) → lo ≤ n → (l.length : Int) ≤ n - lo := by
    intro l
    induction l with
    | nil => intro lo _ n _ h; simp; omega
    | cons a l ih =>
      intro lo hp n hb hlo
      rw [List.pairwise_cons] at hp
      have ha := hb a List.mem_cons_self
      have := ih (a + 1) hp.2 n (fun x hx => ⟨by have := hp.1 x hx; omega, (hb x (List.mem_cons_of_mem _ hx)).2⟩) (by omega)
      rw [List.length_cons]; omega
  intro l n hp hb
  have := key l 0 hp n hb (by omega)
  omega
/-- what may stand on the stack -/
structure StOk (u : List Nd) (st : List (Int × Int)) : Prop where
  inr : ∀ p ∈ st, 0 ≤ p.1 ∧ p.1 < (u.length : Int) ∧ 0 ≤ p.2 ∧ p.2 ≤ ((nth u p.1).f2.length : Int)
  asc : st.Pairwise fun a b => a.1 < b.1
theorem StOk.len {u : List Nd} {st : List (Int × Int)} (h : StOk u st) : st.length ≤ u.length := by
  have := asc_len (st.map (·.1)) u.length (by rw [List.pairwise_map]; exact h.asc) (by intro x hx; obtain ⟨p, hp, rfl⟩ := List.mem_map.1 hx; exact ⟨(h.inr p hp).1, (h.inr p hp).2.1⟩)
  simpa using this
theorem StOk.next {u : List Nd} {i j : Int} {st : List (Int × Int)} (h : StOk u ((i, j) :: st)) (hj : j < ((nth u i).f2.length : Int)) : StOk u ((i, j + 1) :: st) := by
  refine ⟨fun p hp => ?_, ?_⟩
  · rcases List.mem_cons.1 hp with rfl | hp
    · have := h.inr (i, j) List.mem_cons_self
      exact ⟨this.1, this.2.1, by have := this.2.2.1; simp only at this ⊢; omega, by simp only; omega⟩
    · exact h.inr p (List.mem_cons_of_mem _ hp)
  · have := h.asc
    rw [List.pairwise_cons] at this ⊢
    exact this
theorem StOk.push {u : List Nd} (hu : Down u) {i j k : Int} {st : List (Int × Int)} (h : StOk u ((i, j) :: st)) (hk : k ∈ (nth u i).f2) : StOk u ((k, 0) :: (i, j) :: st) := by
  have hi := h.inr (i, j) List.mem_cons_self
  simp only at hi
  have hd := hu i.toNat (by omega) k (by rw [show ((i.toNat : Nat) : Int) = i by omega]; exact hk)
  refine ⟨fun p hp => ?_, ?_⟩
  · rcases List.mem_cons.1 hp with rfl | hp
    · exact ⟨hd.1, by simp only; omega, by simp only; omega, by simp⟩
    · exact h.inr p hp
  · rw [List.pairwise_cons]
    refine ⟨fun p hp => ?_, h.asc⟩
    rcases List.mem_cons.1 hp with rfl | hp
    · simp only; omega
    · have := h.asc
      rw [List.pairwise_cons] at this
      have := this.1 p hp
      simp only at this ⊢; omega
theorem StOk.pop {u : List Nd} {p : Int × Int} {st : List (Int × Int)} (h : StOk u (p :: st)) : StOk u st :=
  ⟨fun q hq => h.inr q (List.mem_cons_of_mem _ hq), by have := h.asc; rw [List.pairwise_cons] at this; exact this.2⟩
/-- between two rounds of Export -/
structure ExSt (w W : World) (mp : Nat) (u : List Nd) (g : PM) (out : List Nd) (st : List (Int × Int)) (vo vs : Value) : Prop where
  below : Below w.heap.size w W
  mpw : w.heap.size ≤ mp
  outs : k60.R 60 W w.heap.size (fun k => k ≠ mp) vo out
  stk : Stk W w.heap.size vs st
  map : IMap W mp out.length g
  olen : out.length ≤ 20000
  ok : StOk u st
  gval : ∀ x a, g x = some a → 0 ≤ a ∧ a < (out.length : Int)
theorem ExSt.on {w W W' : World} {mp : Nat} {u : List Nd} {g : PM} {out : List Nd} {st : List (Int × Int)} {vo vs : Value} (h : ExSt w W mp u g out st vo vs) (hb : Below W.heap.size W W') : ExSt w W' mp u g out st vo vs :=
  ⟨h.below.trans (hb.mono h.below.size), h.mpw, Kd.R_below h.outs hb, h.stk.move (fun k hk => hb.block k (own_lt h.stk k hk)), h.map.move (hb.block _ h.map.lt), h.olen, h.ok, h.gval⟩
theorem below_drew2 {n : Nat} {a b : World} (h : Below n a b) (q : Nat) : Below n a (b.drewN q) := h.trans ⟨rfl, rfl, rfl, Nat.le_refl _, fun _ _ => rfl⟩
theorem map_set {W : World} {mp n gs o : Nat} {D : DataW Unit} (h : W.ownsMap Tryd.prog 3 (plainElem Tryd.prog 3) mp n D) (hne : mp ≠ gs) (u : Value) : (W.setCell ⟨gs, o, none⟩ u).ownsMap Tryd.prog 3 (plainElem Tryd.prog 3) mp n D := by
  obtain ⟨es, c, h1, h2⟩ := h
  exact ⟨es, c, (Below.heap_setCell W ⟨gs, o, none⟩ u mp hne).trans h1, h2⟩
theorem IMap.ne {W : World} {mp n gs : Nat} {g : PM} {cur : Array Value} {t : TypeId} {f : Nat × Nat} (h : IMap W mp n g) (hc : W.heap[gs]? = some (.cells cur t f)) : mp ≠ gs := by
  rintro rfl
  obtain ⟨D, ⟨es, c, h1, _⟩, _⟩ := h
  rw [hc] at h1; cases h1
theorem ExSt.bump {w W : World} {mp gs cap : Nat} {u : List Nd} {g : PM} {out : List Nd} {i j : Int} {st : List (Int × Int)} {vo : Value} {cur : Array Value} (h : ExSt w W mp u g out ((i, j) :: st) vo (.slice (some ⟨gs, 0, none⟩) (st.length + 1) cap)) (hj : j < ((nth u i).f2.length : Int))
    (hg : w.heap.size ≤ gs) (hc : W.heap[gs]? = some (.cells cur 85 (0, 0))) : ExSt w (W.setCell ⟨gs, st.length * 2 + 1, none⟩ (.int .i64 (j + 1))) mp u g out ((i, j + 1) :: st) vo (.slice (some ⟨gs, 0, none⟩) (st.length + 1) cap) :=
  ⟨h.below.setCell (p := ⟨gs, st.length * 2 + 1, none⟩) hg _, h.mpw, Kd.R_set h.outs hc (by decide) _ _, h.stk.next _, h.map.move (Below.heap_setCell W _ _ mp (h.map.ne hc)), h.olen, h.ok.next hj, h.gval⟩
theorem ExSt.push {w W W1 : World} {mp gs cap : Nat} {u : List Nd} (hu : Down u) {g : PM} {out : List Nd} {i j k : Int} {st : List (Int × Int)} {vo v1 : Value} {cur : Array Value} (h : ExSt w W mp u g out ((i, j) :: st) vo (.slice (some ⟨gs, 0, none⟩) (st.length + 1) cap)) (hk : k ∈ (nth u i).f2)
    (hc : W.heap[gs]? = some (.cells cur 85 (0, 0))) (hown : W1.ownsRow w.heap.size 85 2 v1 (st.length + 1 + 1) (flat ((i, j) :: st).reverse ++ [.int .i64 k, .int .i64 0])) (hb : Below w.heap.size w W1) (hgr : W.grownBy W1 (some gs)) : ExSt w W1 mp u g out ((k, 0) :: (i, j) :: st) vo v1 := by
  refine ⟨hb, h.mpw, ?_, ?_, h.map.move (hgr.block _ h.map.lt (fun e => h.map.ne hc (by injection e))), h.olen, h.ok.push hu hk, h.gval⟩
  · exact Kd.R_mono (Kd.R_grown (Kd.R_types h.outs hc (by decide)) hgr (fun k hk e => hk.2 (by injection e))) (fun k hk => hk.1)
  · unfold Stk
    rw [List.reverse_cons, flat_snoc]
    exact hown
/-- the new node, while its kids are laid -/
structure NdSt (wo W : World) (a b : Int) (l : List Int) (v : Value) : Prop where
  below : Below wo.heap.size wo W
  box : W.heap[wo.heap.size]? = some (.cells #[.int .i64 a, .int .i64 b, v] 60 (0, 0))
  row : (Kd.int .i64).R 3 W (wo.heap.size + 1) (fun k => wo.heap.size < k) v l
theorem NdSt.first (wo : World) (a b : Int) : NdSt wo (wo.alloc (.cells #[.int .i64 a, .int .i64 b, .slice none 0 0] 60)) a b [] (.slice none 0 0) :=
  ⟨(Below.refl _ wo).alloc (Nat.le_refl _) _, heap_alloc_new wo _, Kd.R_nil _ _ _ _ _⟩
theorem NdSt.next {wo W W1 : World} {a b x : Int} {l : List Int} {v v1 : Value} (h : NdSt wo W a b l v) (hR : (Kd.int .i64).R 3 W1 (wo.heap.size + 1) (fun k => wo.heap.size < k) v1 (l ++ [x])) (hb : Below (wo.heap.size + 1) W W1) :
    NdSt wo (W1.setCell ⟨wo.heap.size, 2, none⟩ v1) a b (l ++ [x]) v1 := by
  have hbx := (hb.block wo.heap.size (by omega)).trans h.box
  exact ⟨(h.below.trans (hb.mono (by omega))).setCell (p := ⟨wo.heap.size, 2, none⟩) (Nat.le_refl _) _, blk_set hbx 2 v1, Kd.R_far (p := ⟨wo.heap.size, 2, none⟩) hR (fun k hk => by simp only; omega) _⟩
theorem NdSt.node {w wo W Wm : World} {a b : Int} {l : List Int} {v : Value} {mp : Nat} (h : NdSt wo W a b l v) (hgm : W.grownBy Wm (some mp)) (hmp : mp < wo.heap.size) (hw : w.heap.size ≤ wo.heap.size) : k60.M Wm w.heap.size (fun k => wo.heap.size < k) ⟨a, b, l⟩ [.int .i64 a, .int .i64 b, v] :=
  k60.M_lower (by omega) (k60_mkM Wm (wo.heap.size + 1) _ ⟨a, b, l⟩ (Kd.R_grown h.row hgm (fun k hk e => by injection e with e; omega)))
theorem outs_ne {W : World} {b k : Nat} {ok : Nat → Prop} {vo : Value} {out : List Nd} {cs : Array Value} {t : TypeId} (h : k60.R 60 W b ok vo out) (hk : W.heap[k]? = some (.cells cs t (0, 0))) (ht : 60 ≠ t) : some k ≠ vo.ownBlock := by
  obtain ⟨inner, ho⟩ := Kd.R_own h
  exact own_ne ho hk ht
theorem ExSt.done {w W Wm W1 : World} {mp cap : Nat} {A : Option Addr} {u : List Nd} {g : PM} {out : List Nd} {i j : Int} {st : List (Int × Int)} {vo v1 : Value} {nd : Nd} (h : ExSt w W mp u g out ((i, j) :: st) vo (.slice A (st.length + 1) cap)) (hm : IMap Wm mp (out.length + 1) (upd g i out.length)) (hgm : W.grownBy Wm (some mp))
    (hR : k60.R 60 W1 w.heap.size (fun k => k ≠ mp) v1 (out ++ [nd])) (hb : Below w.heap.size w W1) (hg : Wm.grownBy W1 vo.ownBlock) (hlt : out.length < 20000) : ExSt w W1 mp u (upd g i out.length) (out ++ [nd]) st v1 (.slice A st.length cap) := by
  have hne : some mp ≠ vo.ownBlock := fun e => (h.outs.1 mp e.symm) rfl
  refine ⟨hb, h.mpw, hR, h.stk.pop.move (fun k hk => ?_), ?_, by simp; omega, h.ok.pop, fun x a e => ?_⟩
  · obtain ⟨cs, hc⟩ := own_typed h.stk.pop k hk
    have h1 := own_lt h.stk.pop k hk
    have h2 := hgm.block k h1 (fun e => h.map.ne hc (by injection e with e; exact e.symm))
    exact (hg.block k (Nat.lt_of_lt_of_le h1 hgm.size) (outs_ne h.outs hc (by decide))).trans h2
  · rw [List.length_append, List.length_singleton]
    exact hm.move (hg.block mp (hm.lt) hne)
  · rw [List.length_append, List.length_singleton]
    unfold upd at e
    split at e
    · injection e with e
      omega
    · have := h.gval x a e
      omega
theorem ExSt.box {w W Wm W1 : World} {mp bk : Nat} {u : List Nd} {g : PM} {out : List Nd} {st : List (Int × Int)} {vo vs : Value} {cs : Array Value} (h : ExSt w W mp u g out st vo vs) (hbx : W.heap[bk]? = some (.cells cs 31 (0, 0))) (hgm : W.grownBy Wm (some mp)) (hg : Wm.grownBy W1 vo.ownBlock) : W1.heap[bk]? = some (.cells cs 31 (0, 0)) := by
  have h1 := blk_lt hbx
  have h2 := hgm.block bk h1 (fun e => h.map.ne hbx (by injection e with e; exact e.symm))
  exact (hg.block bk (Nat.lt_of_lt_of_le h1 hgm.size) (outs_ne h.outs hbx (by decide))).trans (h2.trans hbx)
theorem idx_int {D : DataW Unit} {x c y : Int} (h : D.atKey (.int .i64 x) (.lit (.int .i64 0)) = .lit (.int .i64 y)) (hat : D.atKey (.int .i64 x) (.lit (.int .i64 0)) = .lit (.int .i64 c)) : c = y := by
  have e := hat.symm.trans h
  injection e with e
  injection e
theorem mp_succ (g : PM) (l : List Int) (k : Nat) (h : k < l.length) : mp g (l.take (k + 1)) = mp g (l.take k) ++ [(g (l.getD k 0)).getD 0] := by
  unfold mp
  rw [List.take_succ_eq_append_getElem h, List.map_append, List.getD_eq_getElem?_getD, List.getElem?_eq_getElem h]
  rfl
end Go.Proofs.YtopbjginpmdebaaDoor.K
-- graph.Table.Export
namespace Go.Proofs.YtopbjginpmdebaaDoor.K
open Go.RowKit Go.Maps Go.Proofs.YtopbjginpmdebaaDoorW.PrintWords Go.Proofs.YtopbjginpmdebaaDoorW.PrintLast Go.Proofs.YtopbjginpmdebaaDoorW.PrintMore
set_option linter.unusedVariables false
set_option linter.unusedSimpArgs false
/-- how Export ends -/
def ExPost (w : World) (res : Option (List Nd)) (e : Ending) (w' : World) : Prop := Below w.heap.size w w' ∧
  match res with
  | some out => ∃ vo, e = .returned (.tuple #[.agg #[vo], .bool true]) ∧ k60.R 60 w' w.heap.size (fun _ => True) vo out
  | none => e = .returned (.tuple #[.agg #[.slice none 0 0], .bool false])
theorem info85 : (Tryd.prog.info? 85).map (fun i => (i.zero, i.size, i.bytes)) = some (some (.agg #[(.int .i64 0), (.int .i64 0)]), 2, 16) := by kernel_rfl
set_option maxHeartbeats 16000000 in
set_option maxRecDepth 100000 in
theorem export_calls (fuel base t mb : Nat) (ok : Nat → Prop) (u : List Nd) (root : Nat) (w : World) (res : Option (List Nd)) (hT : TabS w base t mb ok u) (hu : Down u) (hr : root < u.length) (hex : exL u 20000 fuel (fun _ => none) [] [((root : Int), 0)] = some res)
    (hul : (u.length + 1) * 40 ≤ 140737488355328) (hkl : ∀ n ∈ u, n.f2.length ≤ 1073741824) :
    Calls Tryd.prog 47 #[.pointer (some ⟨t, 0, none⟩), .int .i64 (root : Nat)] w (ExPost w res) := by
  have hmm := @run_makeMap Tryd.prog
  obtain ⟨vT, ht, hR, hS⟩ := hT
  obtain ⟨AT, cT, rfl, hcT, hCT⟩ := Kd.R_reads hR
  have htl := blk_lt ht
  have HTB := Lib.hid ht
  have HTC := Lib.hid hCT
  have HEX := Lib.hid hex
  have HKL := Lib.hid hkl
  clear ht hR hS hCT hex hkl
  have h0 : ExSt w (((w.alloc (.cells #[.slice none 0 0] 31)).alloc (.map #[] 0)).alloc (.cells #[.int .i64 (root : Nat), .int .i64 0] 85)) (w.heap.size + 1) u (fun _ => none) [] [((root : Int), 0)] (.slice none 0 0) (.slice (some ⟨w.heap.size + 1 + 1, 0, none⟩) 1 1) := by
    have e1 : (w.alloc (.cells #[.slice none 0 0] 31)).heap.size = w.heap.size + 1 := by simp
    have e2 : ((w.alloc (.cells #[.slice none 0 0] 31)).alloc (.map #[] 0)).heap.size = w.heap.size + 1 + 1 := by simp
    refine ⟨(((Below.refl _ w).alloc (Nat.le_refl _) _).alloc (by simp) _).alloc (by simp; omega) _, by omega, Kd.R_nil _ _ _ _ _, ?_, ?_, by simp, ⟨?_, by simp⟩, fun x a h => by cases h⟩
    · have := Stk.first ((w.alloc (.cells #[.slice none 0 0] 31)).alloc (.map #[] 0)) w.heap.size (root : Nat) (by rw [e2]; omega)
      rwa [e2] at this
    · have := IMap.made (w.alloc (.cells #[.slice none 0 0] 31))
      rw [e1] at this
      exact this.move (Below.heap_alloc _ _ _ (by rw [e2]; omega))
    · intro p hp
      rw [List.mem_singleton.1 hp]
      exact ⟨by omega, by simp only; omega, by simp, by simp⟩
  have H0 := Lib.hid h0
  clear h0
  have HBX := Lib.hid (show (((w.alloc (.cells #[.slice none 0 0] 31)).alloc (.map #[] 0)).alloc (.cells #[.int .i64 (root : Nat), .int .i64 0] 85)).heap[w.heap.size]? = some (.cells #[.slice none 0 0] 31 (0, 0)) from
    (Below.heap_alloc _ _ _ (by simp; omega)).trans ((Below.heap_alloc _ _ _ (by simp)).trans (heap_alloc_new w _)))
  go_enter Tryd.func47, Tryd.ntmps47
  go_wp2
  go_loopg [7, 8] fuel (fun q s7 s8 wr => ∃ (vo vs : Value) (g : PM) (out : List Nd) (st : List (Int × Int)), vo = s7 ∧ vs = s8 ∧ Aside0 (exL u 20000 q g out st = some res) ∧ ExSt w wr (w.heap.size + 1) u g out st vo vs ∧ wr.heap[w.heap.size]? = some (.cells #[.slice none 0 0] 31 (0, 0)))
  case atStart => exact ⟨_, _, _, _, _, rfl, rfl, ⟨HEX.out⟩, H0.out, HBX.out⟩
  case round =>
    obtain ⟨vo, vs, g, out, st, rfl, rfl, hx, hst, hbx⟩ := hrel
    obtain ⟨Ao, co, rfl⟩ := Kd.R_slice hst.outs
    cases gk with
    | zero => exact absurd hx.out (by simp [exL])
    | succ q =>
      cases st with
      | nil =>
        have hres : some out = res := by have h := hx.out; simp only [exL] at h; injection h
        have HRS := Lib.hid hres
        have HST := Lib.hid hst
        have HB := Lib.hid hbx
        obtain ⟨As, cs, rfl⟩ : ∃ As cs, vs = Value.slice As 0 cs := by
          rcases hst.stk.2 with ⟨h, _⟩ | ⟨g_, cap, cur, h, _⟩
          · exact ⟨_, _, h⟩
          · exact ⟨_, _, h⟩
        have b0 := blk_cell hbx 0
        have f0 := blk_frozen hbx 0
        clear hx hres hst hbx
        go_wp2
        have hb2 := blk_set HB.out 0 (.slice Ao out.length co)
        have q0 := (blk_cell hb2 0).trans rfl
        refine bodyPost_ret (v := .tuple #[.agg #[.slice Ao out.length co], .bool true]) (by simp [results, Tryd.f47, go_sem, q0]) rfl ⟨HST.out.below.setCell (p := ⟨w.heap.size, 0, none⟩) (Nat.le_refl _) _, ?_⟩
        rw [← HRS.out]
        exact ⟨_, rfl, Kd.R_mono (Kd.R_set HST.out.outs HB.out (by decide) 0 _) (fun _ _ => trivial)⟩
      | cons p st =>
        obtain ⟨i, j⟩ := p
        obtain ⟨gs, cap, cur, rfl, hgB, hcur, hc0, hc1⟩ := hst.stk.top
        obtain ⟨hi0, hi1, hj0, hj1⟩ := hst.ok.inr (i, j) List.mem_cons_self
        simp only at hi0 hi1 hj0 hj1
        have hsl := hst.ok.len
        rw [List.length_cons] at hsl
        obtain ⟨iN, rfl⟩ : ∃ iN : Nat, i = iN := ⟨i.toNat, by omega⟩
        have hT2 := (hst.below.block t htl).trans HTB.out
        have t0 := blk_cell hT2 0
        obtain ⟨ad, A2, c2, rfl, d0, d1, d2, l2, g2⟩ := at_T60 (Kd.C_below HTC.out hst.below) (iN : Int) (by omega) (by omega)
        rw [Int.toNat_natCast] at d0 d1 d2
        rw [rd_nth] at d0 d1 d2 l2 g2
        have hdl := World.block_lt_of_cell? _ _ d0
        obtain ⟨n, hn⟩ : ∃ n, n = nth u (iN : Int) := ⟨_, rfl⟩
        rw [← hn] at d0 d1 d2 l2 g2 hj1
        have hnm : n ∈ u := by rw [hn]; exact nth_mem (by omega) hi1
        have hnk := HKL.out n hnm
        obtain ⟨L, hL⟩ : ∃ L, L = st.length := ⟨_, rfl⟩
        rw [← hL] at hc0 hc1 hsl
        have k0 := (blk_cell hcur (L * 2)).trans hc0
        have k1 := (blk_cell hcur (L * 2 + 1)).trans hc1
        have f1 := blk_frozen hcur (L * 2 + 1)
        have hgl := blk_lt hcur
        have htl2 := blk_lt hT2
        have hwB := hst.below.size
        have HN := Lib.hid hn
        have HL := Lib.hid hL
        have HX := Lib.hid hx.out
        have HST := Lib.hid hst
        have HBX2 := Lib.hid hbx
        have HCUR := Lib.hid hcur
        rw [← hL]
        clear hn hL hx hst hbx hcur hT2 hc0 hc1 hnm
        have hLb : L < 4000000000000 := by omega
        obtain ⟨jN, rfl⟩ : ∃ jN : Nat, j = jN := ⟨j.toNat, by omega⟩
        have hidx : (iN : Int) < (u.length : Int) := hi1
        go_wp2
        go_region
        have hb2 : Below wr.heap.size wr (wr.alloc (.cells #[.int .i64 n.f0, .int .i64 n.f1, .slice A2 n.f2.length c2] 60)).drew := ((Below.refl _ wr).alloc (Nat.le_refl _) _).drew
        have hbn : (wr.alloc (.cells #[.int .i64 n.f0, .int .i64 n.f1, .slice A2 n.f2.length c2] 60)).drew.heap[wr.heap.size]? = some (.cells #[.int .i64 n.f0, .int .i64 n.f1, .slice A2 n.f2.length c2] 60 (0, 0)) := heap_alloc_new wr _
        obtain ⟨w2, hw2⟩ : ∃ w2, w2 = (wr.alloc (.cells #[.int .i64 n.f0, .int .i64 n.f1, .slice A2 n.f2.length c2] 60)).drew := ⟨_, rfl⟩
        rw [← hw2] at hb2 hbn ⊢
        clear hw2
        have hst2 := HST.out.on hb2
        have hcur2 := (hb2.block _ hgl).trans HCUR.out
        have hbx2 := (hb2.block _ (blk_lt HBX2.out)).trans HBX2.out
        have g22 := Kd.C_below g2 hb2
        replace k0 := pw_cell_below hb2 k0
        replace k1 := pw_cell_below hb2 k1
        have f1 := blk_frozen hcur2 (L * 2 + 1)
        have n0 := (blk_cell hbn 0).trans rfl
        have n1 := (blk_cell hbn 1).trans rfl
        have n2 := (blk_cell hbn 2).trans rfl
        have HST2 := Lib.hid hst2
        have HCUR2 := Lib.hid hcur2
        have HBX3 := Lib.hid hbx2
        have HBN := Lib.hid hbn
        have hsz2 := hb2.size
        have hbnl := blk_lt hbn
        clear hst2 hcur2 hbx2 hbn hb2 HST HCUR HBX2 d0 d1 d2 t0 g2 hdl
        by_cases hjl : jN < n.f2.length
        · obtain ⟨ad2, rfl, hkc⟩ := reads_at g22 (by intro e; rw [e] at hjl; simp at hjl)
          have e0 := hkc jN hjl
          obtain ⟨kk, hkk⟩ : ∃ kk, kk = n.f2.getD jN 0 := ⟨_, rfl⟩
          rw [← hkk] at e0
          have HKK := Lib.hid hkk
          have hjb : jN < 1073741824 := by omega
          have hji : (jN : Int) < (n.f2.length : Int) := by omega
          clear hkc hkk g22
          obtain ⟨D, hD, hDg⟩ := HST2.out.map
          have hmg := HST2.out.map.ne HCUR2.out
          have HD := Lib.hid hD
          have HNE := Lib.hid (show w.heap.size ≠ gs from by
            intro e
            have h := HBX3.out
            rw [e, HCUR2.out] at h
            cases h)
          have HBUMP := Lib.hid (show ∀ q : Nat, ExSt w ((w2.drewN q).setCell ⟨gs, st.length * 2 + 1, none⟩ (.int .i64 ((jN : Int) + 1))) (w.heap.size + 1) u g out (((iN : Int), (jN : Int) + 1) :: st) (.slice Ao out.length co) (.slice (some ⟨gs, 0, none⟩) (st.length + 1) cap) from fun q =>
            (HST2.out.on (below_drew2 (Below.refl _ w2) q)).bump (by rw [← HN.out]; exact hji) hgB HCUR2.out)
          have hkI : I64 kk := by
            have hd := hu iN (by omega) kk (by rw [← HN.out, HKK.out, List.getD_eq_getElem?_getD, List.getElem?_eq_getElem hjl]; exact List.getElem_mem hjl)
            exact ⟨by omega, by omega⟩
          have hkey := keyOf_int_mk (P := Tryd.prog) (k := 3) Tryd.underlying3 (a := kk) (WalkArith.wf_i64 (by have := hkI.1; have := hkI.2; omega))
          by_cases hg : (g kk).isSome
          · have hhas : Maps.has D (.int .i64 kk) = true := by rw [(hDg kk).1]; exact hg
            have HG := Lib.hid hg
            clear hDg hD hg
            go_wp2
            go_quiet (fail)
            go_wp2
            go_quiet (fail)
            go_wp2_with (at_lookup; refine wpList_lookup_own_ok_int _ rfl _ _ 73 rfl 3 3 .i64 (int_keyed Tryd.underlying3) Tryd.underlying73 Tryd.underlying3 (Tryd.zeroValue3 _) (w.heap.size + 1) out.length D rfl (map_set HD.out hmg _) _ _ rfl hkey ?_; intro c hat hwc; clear hat hwc)
            go_roundg q
            case measure => omega
            case rel =>
              refine ⟨_, _, g, out, ((iN : Int), (jN : Int) + 1) :: st, rfl, rfl, ⟨?_⟩, ?_, ?_⟩
              · have h := HX.out
                simp only [exL] at h
                rw [← HN.out, if_pos hji, Int.toNat_natCast, ← HKK.out, if_pos HG.out] at h
                exact h
              · rw [HL.out]
                exact HBUMP.out _
              · exact (Below.heap_setCell _ _ _ _ HNE.out).trans HBX3.out
          · have hhas : Maps.has D (.int .i64 kk) = false := by rw [(hDg kk).1]; simpa using hg
            have HG := Lib.hid hg
            clear hDg hD hg
            go_wp2
            go_quiet (fail)
            go_wp2
            go_quiet (fail)
            go_wp2_with (first
              | (at_lookup; refine wpList_lookup_own_ok_int _ rfl _ _ 73 rfl 3 3 .i64 (int_keyed Tryd.underlying3) Tryd.underlying73 Tryd.underlying3 (Tryd.zeroValue3 _) (w.heap.size + 1) out.length D rfl (map_set HD.out hmg _) _ _ rfl hkey ?_; intro c hat hwc; clear hat hwc)
              | (at_builtin; refine print_append_cells (w0 := w) (W := (w2.drewN _).setCell ⟨gs, L * 2 + 1, none⟩ (.int .i64 ((jN : Int) + 1))) w.heap.size rfl (.tmp 70) (.tmp 73) 86 85 _ 2 16 rfl Tryd.underlying86 info85 rfl (by decide) (by decide) (.slice (some ⟨gs, 0, none⟩) (L + 1) cap) (L + 1) (flat (((iN : Int), (jN : Int) + 1) :: st).reverse) [.int .i64 kk, .int .i64 0] rfl (by refine (show _ = Value.slice (some ⟨w2.heap.size, 0, none⟩) 1 1 from rfl).trans ?_; simp [World.drewN]) rfl (by simp [Value.oneCell']) (by rw [HL.out]; exact (HBUMP.out _).stk) (by rw [HL.out]; exact (HBUMP.out _).below) (by simp; omega) (by omega) ?_; intro v1 w1 hown1 hb1 hg1 _; refine Hid.out ?_))
            refine Lib.hid ?_
            have HOWN1 := Lib.hid hown1
            have HB1 := Lib.hid hb1
            have HG1 := Lib.hid hg1
            clear hown1 hb1 hg1
            go_wp2
            go_roundg q
            case measure => omega
            case rel =>
              refine ⟨_, _, g, out, (kk, 0) :: ((iN : Int), (jN : Int) + 1) :: st, rfl, rfl, ⟨?_⟩, ?_, ?_⟩
              · have h := HX.out
                simp only [exL] at h
                rw [← HN.out, if_pos hji, Int.toNat_natCast, ← HKK.out, if_neg HG.out] at h
                exact h
              · have hk : kk ∈ (nth u (iN : Int)).f2 := by rw [← HN.out, HKK.out, List.getD_eq_getElem?_getD, List.getElem?_eq_getElem hjl]; exact List.getElem_mem hjl
                have hown := HOWN1.out
                rw [HL.out] at hown
                have hg1 := HG1.out
                rw [HL.out] at hg1
                exact ExSt.push hu (HBUMP.out _) hk (blk_set HCUR2.out _ _) hown HB1.out hg1
              · exact (HG1.out.block _ (by simp [World.drewN]; omega) (fun e => HNE.out (by injection e))).trans ((Below.heap_setCell _ _ _ _ HNE.out).trans HBX3.out)
        · have hje : jN = n.f2.length := by omega
          have hol := HST2.out.olen
          have hnl : ¬ ((jN : Int) < (n.f2.length : Int)) := by omega
          have hcap : L + 1 ≤ cap := by rw [HL.out]; exact own_le HST2.out.stk
          have b0 := blk_cell HBX3.out 0
          have fb0 := blk_frozen HBX3.out 0
          by_cases hfull : out.length = 20000
          · have hres : res = none := by
              have h := HX.out
              simp only [exL] at h
              rw [← HN.out, if_neg hnl, if_pos hfull] at h
              injection h with h
              exact h.symm
            subst hres
            go_wp2
            go_quiet (fail)
            obtain ⟨w3, hw3⟩ : ∃ w3, w3 = w2.drewN nq := ⟨_, rfl⟩
            rw [← hw3]
            have hb3 : Below w2.heap.size w2 w3 := by rw [hw3]; exact below_drew2 (Below.refl _ w2) nq
            have hs3 : w2.heap.size ≤ w3.heap.size := hb3.size
            have hbn3 : wr.heap.size < w3.heap.size := by omega
            have hgs3 : gs < w3.heap.size := by omega
            clear hw3
            replace k0 := pw_cell_below hb3 k0
            replace k1 := pw_cell_below hb3 k1
            replace n0 := pw_cell_below hb3 (n0.trans rfl)
            replace n1 := pw_cell_below hb3 (n1.trans rfl)
            replace n2 := pw_cell_below hb3 (n2.trans rfl)
            have HST3 := Lib.hid (HST2.out.on hb3)
            have HCUR3 := Lib.hid ((hb3.block _ (blk_lt HCUR2.out)).trans HCUR2.out)
            have HBX4 := Lib.hid ((hb3.block _ (blk_lt HBX3.out)).trans HBX3.out)
            replace b0 := pw_cell_below hb3 b0
            have fb0 := blk_frozen HBX4.out 0
            clear f1 hb3 g22
            go_wp2
            have hb2 := blk_set HBX4.out 0 (.slice none 0 0)
            have q0 := (blk_cell hb2 0).trans rfl
            refine bodyPost_ret (v := .tuple #[.agg #[.slice none 0 0], .bool false]) (by simp [results, Tryd.f47, go_sem, q0]) rfl ⟨HST3.out.below.setCell (p := ⟨w.heap.size, 0, none⟩) (Nat.le_refl _) _, rfl⟩
          · have hfb : ((out.length : Int) == 20000) = false := by simp; omega
            go_wp2
            go_quiet (fail)
            obtain ⟨w3, hw3⟩ : ∃ w3, w3 = w2.drewN nq := ⟨_, rfl⟩
            rw [← hw3]
            have hb3 : Below w2.heap.size w2 w3 := by rw [hw3]; exact below_drew2 (Below.refl _ w2) nq
            have hs3 : w2.heap.size ≤ w3.heap.size := hb3.size
            have hbn3 : wr.heap.size < w3.heap.size := by omega
            have hgs3 : gs < w3.heap.size := by omega
            clear hw3
            replace k0 := pw_cell_below hb3 k0
            replace k1 := pw_cell_below hb3 k1
            replace n0 := pw_cell_below hb3 (n0.trans rfl)
            replace n1 := pw_cell_below hb3 (n1.trans rfl)
            replace n2 := pw_cell_below hb3 (n2.trans rfl)
            have HST3 := Lib.hid (HST2.out.on hb3)
            have HCUR3 := Lib.hid ((hb3.block _ (blk_lt HCUR2.out)).trans HCUR2.out)
            have HBX4 := Lib.hid ((hb3.block _ (blk_lt HBX3.out)).trans HBX3.out)
            have HG22 := Lib.hid (Kd.C_below g22 hb3)
            have HFULL := Lib.hid hfull
            clear f1 fb0 b0 hb3 g22
            have hwl : w.heap.size < w3.heap.size := by have := blk_lt HBX4.out; exact this
            go_wp2
            obtain ⟨wq, rfl⟩ : ∃ wq : World, wq = wr := ⟨_, rfl⟩
            go_loopw [92] (fun i W => ∃ (k : Nat) (v : Value), i = .int .i64 k ∧ k ≤ n.f2.length ∧ NdSt w3 W n.f0 n.f1 (mp g (n.f2.take k)) v) (fun i _ => n.f2.length - (intOf i).toNat)
            case atStart => exact ⟨0, _, rfl, Nat.zero_le _, NdSt.first w3 n.f0 n.f1⟩
            case round =>
              obtain ⟨k, v, rfl, hk, hnd⟩ := hrel
              obtain ⟨l, hl⟩ : ∃ l, l = mp g (n.f2.take k) := ⟨_, rfl⟩
              rw [← hl] at hnd
              have hll : l.length = k := by rw [hl]; simp [mp]; omega
              obtain ⟨Av, cv, rfl⟩ := Kd.R_slice hnd.row
              have hbW := hnd.below
              have hsW := hbW.size
              have hmW := blk_lt hnd.box
              have HST4 := Lib.hid (HST3.out.on hbW)
              have bm2 := (blk_cell hnd.box 2).trans rfl
              have HND := Lib.hid hnd
              have HBW := Lib.hid hbW
              have HLL := Lib.hid hl
              have HLK := Lib.hid hll
              have hlb : l.length ≤ 1073741824 := by omega
              obtain ⟨D, hD, hDg⟩ := HST4.out.map
              have HD := Lib.hid hD
              have HDG := Lib.hid hDg
              have hkb : k ≤ 1073741824 := by omega
              clear hl hll hnd hbW hD hDg
              by_cases hkl : k < n.f2.length
              · obtain ⟨ad2, rfl, hkc⟩ := reads_at (Kd.C_below HG22.out HBW.out) (by intro e; rw [e] at hkl; simp at hkl)
                have e0 := hkc k hkl
                obtain ⟨kk, hkk⟩ : ∃ kk, kk = n.f2.getD k 0 := ⟨_, rfl⟩
                rw [← hkk] at e0
                have HKK := Lib.hid hkk
                have hki : (k : Int) < (n.f2.length : Int) := by omega
                have hkI : I64 kk := by
                  have hd := hu iN (by omega) kk (by rw [← HN.out, HKK.out, List.getD_eq_getElem?_getD, List.getElem?_eq_getElem hkl]; exact List.getElem_mem hkl)
                  exact ⟨by omega, by omega⟩
                have hkey := keyOf_int_mk (P := Tryd.prog) (k := 3) Tryd.underlying3 (a := kk) (WalkArith.wf_i64 (by have := hkI.1; have := hkI.2; omega))
                clear hkk hkc
                go_wp2_with (first
                  | (at_lookup; refine wpList_lookup_own_int wr rfl _ _ 73 rfl 3 3 .i64 (int_keyed Tryd.underlying3) Tryd.underlying73 Tryd.underlying3 (Tryd.zeroValue3 _) (w.heap.size + 1) out.length D rfl HD.out _ _ rfl hkey ?_; intro c hat hwc; have HC := Lib.hid (idx_int (HDG.out kk).2 hat); clear hat hwc)
                  | (at_builtin; refine Kd.R_append (Kd.int .i64) (w0 := wr) (W := wr) (w3.heap.size + 1) rfl (.tmp 97) (.tmp 101) 22 3 (.int .i64 0) 8 rfl Tryd.underlying22 info3 rfl (by decide) (by decide) (.slice Av l.length cv) l _ [.int .i64 _] (fun k => w3.heap.size < k) (fun _ => False) rfl rfl rfl (fun _ h => h.elim) (fun k hk => by omega) HND.out.row (Below.refl _ _) (by omega) (by omega) ?_; intro v1 w1 hR1 hB1 hg1 _; obtain ⟨A1, c1, rfl⟩ := Kd.R_slice hR1; rw [List.length_append, List.length_singleton] at hR1; have hbx1 := (hB1.block w3.heap.size (by omega)).trans HND.out.box; have q1 := blk_cell hbx1 2; have q2 := blk_frozen hbx1 2; have HR1 := Lib.hid hR1; have HB1 := Lib.hid hB1; clear hR1 hB1 hg1 hbx1; refine Hid.out ?_))
                refine Lib.hid ?_
                go_wp2
                go_roundw
                case rel =>
                  refine ⟨k + 1, .slice A1 (l.length + 1) c1, by go_num, hkl, ?_⟩
                  rw [mp_succ _ _ _ hkl, ← HLL.out, ← HKK.out, ← HC.out]
                  exact HND.out.next HR1.out HB1.out
                case measure => simp [intOf]; omega
              · have hke : k = n.f2.length := by omega
                have HKE := Lib.hid hke
                have hki : ¬ ((k : Int) < (n.f2.length : Int)) := by omega
                clear hke
                have hkeyi := keyOf_int_mk (P := Tryd.prog) (k := 3) Tryd.underlying3 (a := (iN : Int)) (WalkArith.wf_i64 (by omega))
                replace k0 := pw_cell_below HBW.out k0
                have holt : out.length < 20000 := by have := HFULL.out; omega
                have hwfl : (Lit.int .i64 (out.length : Int)).wf = true := WalkArith.wf_i64 (by omega)
                clear bm2
                go_wp2_with (first
                  | (at_mapUpdate; refine wpList_mapUpdate_own wr rfl _ _ _ 73 rfl 3 3 (int_keyed Tryd.underlying3) Tryd.underlying73 _ (w.heap.size + 1) out.length D rfl HD.out (by unfold maxLen; omega) _ _ _ rfl rfl hkeyi _ [] (plainElem_int Tryd.underlying3 hwfl) ?_; intro wm hownm hgm; refine Hid.out ?_))
                refine Lib.hid ?_
                have hbxm := (hgm.block w3.heap.size hmW (by intro e; injection e with e; omega)).trans HND.out.box
                have m0 := blk_cell hbxm 0
                have m1 := blk_cell hbxm 1
                have m2 := blk_cell hbxm 2
                have HOM := Lib.hid hownm
                have HGM := Lib.hid hgm
                have hszm := hgm.size
                have HM := Lib.hid (HND.out.node (w := w) (mp := w.heap.size + 1) hgm (by omega) (by omega))
                have HVO := Lib.hid (show ∀ j, w3.heap.size < j → j ≠ w.heap.size + 1 ∧ some j ≠ (Value.slice Ao out.length co).ownBlock from fun j hj => ⟨by omega, fun e => by have := Kd.R_lt HST3.out.outs j e.symm; omega⟩)
                have HBM := Lib.hid (show Below w.heap.size w wm from HST4.out.below.grown hgm (by omega) (fun j e => by injection e with e; omega))
                have HRM := Lib.hid (Kd.R_grown HST4.out.outs hgm (fun j hj e => hj (by injection e)))
                clear hbxm hownm hgm
                go_wp2_with (first
                  | (at_builtin; refine Hid.out ?_))
                refine Lib.hid ?_
                refine Kd.R_append k60 (w0 := w) (W := wm) w.heap.size rfl (.tmp 112) (.tmp 114) 24 60 (.agg #[(.int .i64 0), (.int .i64 0), (.slice none 0 0)]) 40 rfl Tryd.underlying24 info60 rfl (by decide) (by decide) (.slice Ao out.length co) out ⟨n.f0, n.f1, l⟩ [.int .i64 n.f0, .int .i64 n.f1, .slice Av l.length cv] (fun j => j ≠ w.heap.size + 1) (fun j => w3.heap.size < j) rfl rfl HM.out HVO.out (fun j hj => by omega) HRM.out HBM.out (by omega) (by omega) ?_
                intro v5 w5 hR5 hB5 hg5 _
                obtain ⟨A5, c5, rfl⟩ := Kd.R_slice hR5
                rw [List.length_append, List.length_singleton] at hR5
                have HR5 := Lib.hid hR5
                have HB5 := Lib.hid hB5
                have HG5 := Lib.hid hg5
                clear hR5 hB5 hg5
                go_wp2
                go_roundg q
                case measure => omega
                case rel =>
                  refine ⟨_, _, upd g (iN : Int) out.length, out ++ [⟨n.f0, n.f1, l⟩], st, rfl, rfl, ⟨?_⟩, ?_, ?_⟩
                  · have h := HX.out
                    simp only [exL, fin] at h
                    rw [← HN.out, if_neg (show ¬ ((jN : Int) < (n.f2.length : Int)) by omega), if_neg HFULL.out] at h
                    rw [HLL.out, HKE.out, List.take_length]
                    exact h
                  · rw [HL.out]
                    exact HST4.out.done (IMap.put HDG.out (World.ownsMap.isMap HD.out) HOM.out) HGM.out HR5.out HB5.out HG5.out holt
                  · exact HST4.out.box ((HBW.out.block _ (blk_lt HBX4.out)).trans HBX4.out) HGM.out HG5.out
end Go.Proofs.YtopbjginpmdebaaDoor.K
-- graph.Shapes
namespace Go.Proofs.YtopbjginpmdebaaDoor.K
open Go.RowKit Go.Maps Go.Proofs.YtopbjginpmdebaaDoorW.PrintWords Go.Proofs.YtopbjginpmdebaaDoorW.PrintLast Go.Proofs.YtopbjginpmdebaaDoorW.PrintMore
set_option linter.unusedVariables false
set_option linter.unusedSimpArgs false
/-- what Shapes notes -/
def shp : PM → List Nd → Option PM
  | g, [] => some g
  | g, n :: l => if n.f0 < 0 then shp g l else
      if (g n.f0).isSome = true ∧ (g n.f0).getD 0 ≠ (n.f2.length : Int) then none else shp (upd g n.f0 (n.f2.length : Int)) l
theorem shp_snoc : ∀ (l : List Nd) (g : PM) (n : Nd), shp g (l ++ [n]) = (shp g l).bind fun g' => shp g' [n]
  | [], g, n => rfl
  | a :: l, g, n => by
    simp only [List.cons_append, shp]
    split
    · exact shp_snoc l g n
    · split
      · rfl
      · exact shp_snoc l _ n
theorem shp_none : ∀ (l r : List Nd) (g : PM), shp g l = none → shp g (l ++ r) = none
  | [], r, g, h => by cases h
  | a :: l, r, g, h => by
    simp only [List.cons_append, shp] at h ⊢
    split
    · rename_i h1; rw [if_pos h1] at h; exact shp_none l r g h
    · rename_i h1; rw [if_neg h1] at h
      split
      · rfl
      · rename_i h2; rw [if_neg h2] at h; exact shp_none l r _ h
theorem shp_take {l : List Nd} {g : PM} {k : Nat} (h : shp g (l.take k) = none) : shp g l = none := by
  have := shp_none (l.take k) (l.drop k) g h
  rwa [List.take_append_drop] at this
/-- between two rounds of Shapes -/
structure ShSt (w W : World) (mp m0 : Nat) (g : PM) (nodes : List Nd) (k : Nat) (gk : PM) (m : Nat) : Prop where
  shp : shp g (nodes.take k) = some gk
  map : IMap W mp m gk
  room : m ≤ m0 + k
  grown : w.grownBy W (some mp)
theorem grown_below {base mp : Nat} {w W : World} (h : w.grownBy W (some mp)) (hb : base ≤ w.heap.size) (hm : base ≤ mp) : Below base w W := (Below.refl base w).grown h hb (fun j e => by injection e with e; omega)
theorem grown_of {w W : World} (hb : Below w.heap.size w W) (mp : Nat) : w.grownBy W (some mp) := ⟨hb.os, hb.tape, hb.output, hb.size, fun j hj _ => hb.block j hj⟩
theorem ShSt.skip {w W W1 : World} {mp m0 k m : Nat} {g gk : PM} {nodes : List Nd} (h : ShSt w W mp m0 g nodes k gk m) (hk : k < nodes.length) (hn : (nth nodes (k : Int)).f0 < 0) (hb : Below W.heap.size W W1) : ShSt w W1 mp m0 g nodes (k + 1) gk m :=
  ⟨by rw [take_snoc' hk, shp_snoc, h.shp]; simp only [Option.bind, Go.Proofs.YtopbjginpmdebaaDoor.K.shp]; rw [if_pos hn], h.map.move (hb.block _ h.map.lt), by have := h.room; omega, World.grownBy.trans h.grown ⟨hb.os, hb.tape, hb.output, hb.size, fun j hj _ => hb.block j hj⟩⟩
theorem ShSt.put {w W W1 W2 : World} {mp m0 k m : Nat} {g gk : PM} {nodes : List Nd} (h : ShSt w W mp m0 g nodes k gk m) (hk : k < nodes.length) (hn : ¬ (nth nodes (k : Int)).f0 < 0) (hg : ¬ ((gk (nth nodes (k : Int)).f0).isSome = true ∧ (gk (nth nodes (k : Int)).f0).getD 0 ≠ ((nth nodes (k : Int)).f2.length : Int))) (hb : Below W.heap.size W W1)
    (hm : IMap W2 mp (m + 1) (upd gk (nth nodes (k : Int)).f0 ((nth nodes (k : Int)).f2.length : Int))) (h2 : W1.grownBy W2 (some mp)) : ShSt w W2 mp m0 g nodes (k + 1) (upd gk (nth nodes (k : Int)).f0 ((nth nodes (k : Int)).f2.length : Int)) (m + 1) :=
  ⟨by rw [take_snoc' hk, shp_snoc, h.shp]; simp only [Option.bind, Go.Proofs.YtopbjginpmdebaaDoor.K.shp]; rw [if_neg hn, if_neg hg], hm, by have := h.room; omega, World.grownBy.trans (World.grownBy.trans h.grown ⟨hb.os, hb.tape, hb.output, hb.size, fun j hj _ => hb.block j hj⟩) h2⟩
theorem ShSt.bad {w W : World} {mp m0 k m : Nat} {g gk : PM} {nodes : List Nd} (h : ShSt w W mp m0 g nodes k gk m) (hk : k < nodes.length) (hn : ¬ (nth nodes (k : Int)).f0 < 0) (hg : (gk (nth nodes (k : Int)).f0).isSome = true ∧ (gk (nth nodes (k : Int)).f0).getD 0 ≠ ((nth nodes (k : Int)).f2.length : Int)) : Go.Proofs.YtopbjginpmdebaaDoor.K.shp g nodes = none := by
  refine shp_take (k := k + 1) ?_
  rw [take_snoc' hk, shp_snoc, h.shp]
  simp only [Option.bind, Go.Proofs.YtopbjginpmdebaaDoor.K.shp]
  rw [if_neg hn, if_pos hg]
set_option maxHeartbeats 16000000 in
set_option maxRecDepth 100000 in
theorem shapes_calls (base mp m0 : Nat) (g : PM) (nodes : List Nd) (A : Option Addr) (c : Nat) (w : World) (hbs : base ≤ w.heap.size) (hmp : base ≤ mp) (hM : IMap w mp m0 g)
    (hC : ∀ W, Below base w W → k60.C W A nodes.length nodes) (hc : nodes.length ≤ c) (hI : ∀ n ∈ nodes, I64 n.f0 ∧ I64 n.f1 ∧ n.f2.length ≤ 1073741824) (hroom : m0 + nodes.length < 4000000000000) :
    Calls Tryd.prog 60 #[.slice A nodes.length c, .map (some mp)] w fun e w' => w.grownBy w' (some mp) ∧ e = .returned (.bool (shp g nodes).isSome) ∧ ∀ g', shp g nodes = some g' → ∃ m, IMap w' mp m g' ∧ m ≤ m0 + nodes.length := by
  obtain ⟨N, hN⟩ : ∃ N, N = nodes.length := ⟨_, rfl⟩
  have HN := Lib.hid hN
  rw [← hN]
  rw [← hN] at hroom hc
  clear hN
  have hml := hM.lt
  have HM := Lib.hid hM
  clear hM
  go_enter Tryd.func60, Tryd.ntmps60
  go_wp2
  go_loopw [11] (fun i wr => ∃ (k : Nat) (gk : PM) (m : Nat), i = .int .i64 k ∧ k ≤ N ∧ ShSt w wr mp m0 g nodes k gk m) (fun i _ => N - (intOf i).toNat)
  case atStart => exact ⟨0, g, m0, rfl, Nat.zero_le _, ⟨rfl, HM.out, Nat.le_refl _, World.grownBy.refl _ _⟩⟩
  case round =>
    obtain ⟨k, gk, m, rfl, hk, hst⟩ := hrel
    by_cases hlt : k < N
    · have hkn : k < nodes.length := by have := HN.out; omega
      have hnm : nth nodes k ∈ nodes := by rw [nth_lt hkn]; exact List.getElem_mem hkn
      have hB := grown_below hst.grown hbs hmp
      obtain ⟨ad, A2, c2, rfl, d0, d1, d2, l2, g2⟩ := at_T60 (hC wr hB) (k : Int) (by omega) (by omega)
      rw [Int.toNat_natCast] at d0 d1 d2
      rw [rd_nth] at d0 d1 d2 l2 g2
      obtain ⟨n, hn⟩ : ∃ n, n = nth nodes (k : Int) := ⟨_, rfl⟩
      rw [← hn] at d0 d1 d2 l2 g2 hnm
      obtain ⟨hI0, hI1, hI2⟩ := hI n hnm
      have hkb : k < 4000000000000 := by omega
      have hb1 : Below wr.heap.size wr (wr.alloc (.cells #[.int .i64 n.f0, .int .i64 n.f1, .slice A2 n.f2.length c2] 60)) := (Below.refl _ wr).alloc (Nat.le_refl _) _
      have hml2 := hst.map.lt
      obtain ⟨D, hD, hDg⟩ := hst.map.move (hb1.block _ hst.map.lt)
      have HD := Lib.hid hD
      have HDG := Lib.hid hDg
      have HST := Lib.hid hst
      have HB1 := Lib.hid hb1
      have HNN := Lib.hid hn
      have hmr := hst.room
      clear hst hn hnm hD hDg hb1 g2
      by_cases hneg : n.f0 < 0
      · go_wp2
        go_roundw
        case rel => exact ⟨k + 1, gk, m, by go_num, hlt, HST.out.skip hkn (by rw [← HNN.out]; omega) HB1.out⟩
        case measure => simp [intOf]; omega
      · have hkey := keyOf_int_mk (P := Tryd.prog) (k := 3) Tryd.underlying3 (a := n.f0) (WalkArith.wf_i64 (by have := hI0.1; have := hI0.2; omega))
        have hwfl : (Lit.int .i64 (n.f2.length : Int)).wf = true := WalkArith.wf_i64 (by omega)
        by_cases hg : (gk n.f0).isSome = true
        · have hhas : Maps.has D (.int .i64 n.f0) = true := by rw [(HDG.out _).1]; exact hg
          by_cases hv : (gk n.f0).getD 0 = (n.f2.length : Int)
          · go_wp2_with (first
              | (at_lookup; refine wpList_lookup_own_ok_int _ rfl _ _ 73 rfl 3 3 .i64 (int_keyed Tryd.underlying3) Tryd.underlying73 Tryd.underlying3 (Tryd.zeroValue3 _) mp m D rfl HD.out _ _ rfl hkey ?_; intro c hat hwc; obtain rfl := (idx_int (HDG.out n.f0).2 hat).trans hv; clear hat hwc)
              | (at_mapUpdate; refine wpList_mapUpdate_own _ rfl _ _ _ 73 rfl 3 3 (int_keyed Tryd.underlying3) Tryd.underlying73 _ mp m D rfl HD.out (by unfold maxLen; omega) _ _ _ rfl rfl hkey _ [] (plainElem_int Tryd.underlying3 hwfl) ?_; intro wm hownm hgm; have HOM := Lib.hid hownm; have HGM := Lib.hid hgm; have hwm := hgm.size; clear hownm hgm; refine Hid.out ?_))
            refine Lib.hid ?_
            go_wp2
            go_roundw
            case rel =>
              refine ⟨k + 1, upd gk n.f0 (n.f2.length : Int), m + 1, by go_num, hlt, ?_⟩
              have hn := HNN.out
              rw [hn]
              exact HST.out.put hkn (by rw [← hn]; omega) (by rw [← hn]; exact fun h => h.2 hv) HB1.out (by rw [← hn]; exact IMap.put HDG.out (World.ownsMap.isMap HD.out) HOM.out) HGM.out
            case measure => simp [intOf]; omega
          · go_wp2_with (first
              | (at_lookup; refine wpList_lookup_own_ok_int _ rfl _ _ 73 rfl 3 3 .i64 (int_keyed Tryd.underlying3) Tryd.underlying73 Tryd.underlying3 (Tryd.zeroValue3 _) mp m D rfl HD.out _ _ rfl hkey ?_; intro c hat hwc; obtain rfl := idx_int (HDG.out n.f0).2 hat; clear hat hwc))
            go_ret
            have hb := HST.out.bad hkn (by rw [← HNN.out]; omega) (by rw [← HNN.out]; exact ⟨hg, hv⟩)
            exact ⟨World.grownBy.trans HST.out.grown (grown_of HB1.out mp), by rw [hb]; rfl, fun g' e => by rw [hb] at e; cases e⟩
        · have hhas : Maps.has D (.int .i64 n.f0) = false := by rw [(HDG.out _).1]; simpa using hg
          go_wp2_with (first
              | (at_lookup; refine wpList_lookup_own_ok_int _ rfl _ _ 73 rfl 3 3 .i64 (int_keyed Tryd.underlying3) Tryd.underlying73 Tryd.underlying3 (Tryd.zeroValue3 _) mp m D rfl HD.out _ _ rfl hkey ?_; intro c hat hwc; clear hat hwc)
              | (at_mapUpdate; refine wpList_mapUpdate_own _ rfl _ _ _ 73 rfl 3 3 (int_keyed Tryd.underlying3) Tryd.underlying73 _ mp m D rfl HD.out (by unfold maxLen; omega) _ _ _ rfl rfl hkey _ [] (plainElem_int Tryd.underlying3 hwfl) ?_; intro wm hownm hgm; have HOM := Lib.hid hownm; have HGM := Lib.hid hgm; have hwm := hgm.size; clear hownm hgm; refine Hid.out ?_))
          refine Lib.hid ?_
          go_wp2
          go_roundw
          case rel =>
            refine ⟨k + 1, upd gk n.f0 (n.f2.length : Int), m + 1, by go_num, hlt, ?_⟩
            have hn := HNN.out
            rw [hn]
            exact HST.out.put hkn (by rw [← hn]; omega) (by rw [← hn]; exact fun h => hg h.1) HB1.out (by rw [← hn]; exact IMap.put HDG.out (World.ownsMap.isMap HD.out) HOM.out) HGM.out
          case measure => simp [intOf]; omega
    · have hke : k = N := by omega
      have HST := Lib.hid hst
      clear hst
      go_wp2
      go_ret
      have hs := HST.out.shp
      rw [hke, HN.out, List.take_length] at hs
      exact ⟨HST.out.grown, by rw [hs]; rfl, fun g' e => by rw [hs] at e; injection e with e; subst e; exact ⟨m, HST.out.map, by have := HST.out.room; omega⟩⟩
end Go.Proofs.YtopbjginpmdebaaDoor.K
-- what leaf, branch, isGraph say
namespace Go.Proofs.YtopbjginpmdebaaDoor.K
open Go.RowKit Go.Maps Go.Proofs.YtopbjginpmdebaaDoorW.PrintWords Go.Proofs.YtopbjginpmdebaaDoorW.PrintLast Go.Proofs.YtopbjginpmdebaaDoorW.PrintMore
set_option linter.unusedVariables false
set_option linter.unusedSimpArgs false
/-- a leaf -/
def lfB (n : Nd) : Bool := decide (n.f0 = -1 ∧ n.f2 = [] ∧ -1073741824 ≤ n.f1 ∧ n.f1 ≤ 1073741824)
/-- a child -/
def okK (nodes : List Nd) (i s k : Int) : Bool := decide (0 ≤ k ∧ k < i) && !(decide (0 ≤ (nth nodes k).f0 ∧ (nth nodes k).f0 ≤ s))
/-- a branch -/
def brB (nodes : List Nd) (i : Int) (n : Nd) : Bool := decide (0 ≤ n.f0 ∧ n.f0 < 64 ∧ n.f1 = 0 ∧ 1 ≤ n.f2.length ∧ n.f2.length ≤ 16) && n.f2.all (okK nodes i n.f0)
theorem lf_f (n : Nd) : diagram_leaf.f n.f0 n.f1 n.f2 = some (lfB n) := by
  unfold diagram_leaf.f lfB
  have h0 : ((n.f2.length : Int) = 0) ↔ n.f2 = [] := by rw [← List.length_eq_zero_iff]; omega
  by_cases h1 : n.f0 = -1
  · by_cases h2 : n.f2 = []
    · by_cases h3 : -1073741824 ≤ n.f1
      · simp [h1, h2, h3]
      · simp [h1, h2, h3]
    · rw [if_pos h1, if_neg (fun h => h2 (h0.1 h))]; simp [h2]
  · simp [h1]
theorem br_l0 (nodes : List Nd) (i : Int) (hi : i ≤ nodes.length) (ks : List Int) (hk : ks.length < 4611686018427387904) (s v : Int) (l : List Int) : ∀ (m j fuel : Nat), ks.length - j ≤ m → j ≤ ks.length → m < fuel →
    diagram_branch.l0 fuel nodes i ks (ks.length : Int) (j : Int) s v l = some ((ks.drop j).all (okK nodes i s)) := by
  intro m
  induction m with
  | zero =>
    intro j fuel h1 h2 h3
    obtain ⟨f, rfl⟩ : ∃ f, fuel = f + 1 := ⟨fuel - 1, by omega⟩
    have e : j = ks.length := by omega
    subst e
    simp [diagram_branch.l0]
  | succ m ih =>
    intro j fuel h1 h2 h3
    obtain ⟨f, rfl⟩ : ∃ f, fuel = f + 1 := ⟨fuel - 1, by omega⟩
    by_cases hj : j < ks.length
    · have hw : wrap64 ((j : Int) + 1) = ((j + 1 : Nat) : Int) := by unfold wrap64; omega
      have hr : rd ks (j : Int) = ks[j] := by unfold rd; rw [Int.toNat_natCast, List.getD_eq_getElem?_getD, List.getElem?_eq_getElem hj]; rfl
      have ih' := ih (j + 1) f (by omega) (by omega) (by omega)
      rw [List.drop_eq_getElem_cons hj, List.all_cons]
      simp only [diagram_branch.l0]
      rw [if_pos (by omega), if_pos (by omega), if_pos (by omega), hw, hr, ih']
      unfold okK
      show _ = some ((decide (0 ≤ ks[j] ∧ ks[j] < i) && !decide (0 ≤ (rd_T60 nodes ks[j]).f0 ∧ (rd_T60 nodes ks[j]).f0 ≤ s)) && _)
      by_cases h4 : ks[j] < 0
      · rw [if_pos h4]
        have : ¬ (0 ≤ ks[j] ∧ ks[j] < i) := by omega
        simp [this]
      · rw [if_neg h4]
        by_cases h5 : ks[j] ≥ i
        · rw [if_pos h5]
          have : ¬ (0 ≤ ks[j] ∧ ks[j] < i) := by omega
          simp [this]
        · rw [if_neg h5, if_pos (by omega), if_pos (by omega)]
          have : 0 ≤ ks[j] ∧ ks[j] < i := by omega
          by_cases h6 : (rd_T60 nodes ks[j]).f0 ≥ 0
          · rw [if_pos h6]
            by_cases h7 : (rd_T60 nodes ks[j]).f0 ≤ s
            · rw [if_pos h7]; simp [h6, h7]
            · rw [if_neg h7]; simp [this, h7]
          · rw [if_neg h6]; simp [this, h6]
    · have e : j = ks.length := by omega
      subst e
      simp [diagram_branch.l0]
theorem br_f (nodes : List Nd) (i : Nat) (hi : i < nodes.length) (hk : (nth nodes (i : Int)).f2.length < 4611686018427387904) (k : Nat) (hf : (nth nodes (i : Int)).f2.length + 2 ≤ k) : diagram_branch.f k nodes (i : Int) = some (brB nodes i (nth nodes (i : Int))) := by
  obtain ⟨f, rfl⟩ : ∃ f, k = f + 1 := ⟨k - 1, by omega⟩
  obtain ⟨n, hn⟩ : ∃ n, n = nth nodes (i : Int) := ⟨_, rfl⟩
  have hr : rd_T60 nodes (i : Int) = n := hn.symm
  unfold diagram_branch.f brB
  rw [if_pos (by omega), if_pos (by omega), hr, ← hn]
  rw [← hn] at hk hf
  have hl := br_l0 nodes (i : Int) (by omega) n.f2 hk n.f0 n.f1 n.f2 n.f2.length 0 f (by omega) (by omega) (by omega)
  rw [List.drop_zero] at hl
  simp only [diagram_branch.j0, if_true]
  by_cases h1 : n.f0 < 0
  · have : ¬ (0 ≤ n.f0) := by omega
    simp [h1, this]
  · by_cases h2 : n.f0 ≥ 64
    · have : ¬ (n.f0 < 64) := by omega
      rw [if_neg h1, if_pos h2]; simp [this]
    · rw [if_neg h1, if_neg h2]
      by_cases h3 : n.f1 = 0
      · rw [if_pos h3]
        by_cases h4 : (n.f2.length : Int) < 1
        · have : ¬ (1 ≤ n.f2.length) := by omega
          rw [if_pos h4]; simp [this]
        · rw [if_neg h4]
          by_cases h5 : (n.f2.length : Int) > 16
          · have : ¬ (n.f2.length ≤ 16) := by omega
            simp [h5, this]
          · have h6 : 0 ≤ n.f0 ∧ n.f0 < 64 ∧ n.f1 = 0 ∧ 1 ≤ n.f2.length ∧ n.f2.length ≤ 16 := by omega
            rw [decide_eq_false h5]
            rw [if_neg (by simp)]
            rw [show ((0 : Nat) : Int) = 0 from rfl] at hl
            rw [hl, decide_eq_true h6]; simp
      · rw [if_neg h3]; simp [h3]
/-- isGraph -/
def grB (nodes : List Nd) : Bool := ((List.range nodes.length).all fun i => lfB (nth nodes (i : Int)) || brB nodes (i : Int) (nth nodes (i : Int))) && (decide (0 < nodes.length) && (shp (fun _ => none) nodes).isSome)
end Go.Proofs.YtopbjginpmdebaaDoor.K
-- diagram.isGraph
namespace Go.Proofs.YtopbjginpmdebaaDoor.K
open Go.RowKit Go.Maps Go.Proofs.YtopbjginpmdebaaDoorW.PrintWords Go.Proofs.YtopbjginpmdebaaDoorW.PrintLast Go.Proofs.YtopbjginpmdebaaDoorW.PrintMore
set_option linter.unusedVariables false
set_option linter.unusedSimpArgs false
theorem grB_of {nodes : List Nd} (h : ∀ j : Nat, j < nodes.length → (lfB (nth nodes (j : Int)) || brB nodes (j : Int) (nth nodes (j : Int))) = true) : grB nodes = (decide (0 < nodes.length) && (shp (fun _ => none) nodes).isSome) := by
  unfold grB
  rw [List.all_eq_true.2 (fun j hj => h j (List.mem_range.1 hj)), Bool.true_and]
theorem grB_bad {nodes : List Nd} {k : Nat} (hk : k < nodes.length) (h : (lfB (nth nodes (k : Int)) || brB nodes (k : Int) (nth nodes (k : Int))) = false) : grB nodes = false := by
  unfold grB
  rw [show ((List.range nodes.length).all fun i => lfB (nth nodes (i : Int)) || brB nodes (i : Int) (nth nodes (i : Int))) = false from List.all_eq_false.2 ⟨k, List.mem_range.2 hk, by rw [h]; simp⟩, Bool.false_and]
theorem all_succ {nodes : List Nd} {k : Nat} (h : ∀ j : Nat, j < k → (lfB (nth nodes (j : Int)) || brB nodes (j : Int) (nth nodes (j : Int))) = true) (hk : (lfB (nth nodes (k : Int)) || brB nodes (k : Int) (nth nodes (k : Int))) = true) : ∀ j : Nat, j < k + 1 → (lfB (nth nodes (j : Int)) || brB nodes (j : Int) (nth nodes (j : Int))) = true := by
  intro j hj
  rcases Nat.lt_or_ge j k with h1 | h1
  · exact h j h1
  · obtain rfl : j = k := by omega
    exact hk
set_option maxHeartbeats 16000000 in
set_option maxRecDepth 100000 in
theorem isGraph_calls (nodes : List Nd) (A : Option Addr) (c : Nat) (w : World)
    (hC : k60.C w A nodes.length nodes) (hc : nodes.length ≤ c) (hI : ∀ n ∈ nodes, I64 n.f0 ∧ I64 n.f1 ∧ n.f2.length ≤ 1073741824) (hroom : nodes.length < 4000000000000) :
    Calls Tryd.prog 45 #[.slice A nodes.length c] w fun e w' => e = .returned (.bool (grB nodes)) ∧ Below w.heap.size w w' := by
  have hmm := @run_makeMap Tryd.prog
  obtain ⟨N, hN⟩ : ∃ N, N = nodes.length := ⟨_, rfl⟩
  have HN := Lib.hid hN
  rw [← hN]
  rw [← hN] at hroom hc
  clear hN
  have HC := Lib.hid hC
  clear hC
  go_enter Tryd.func45, Tryd.ntmps45
  go_wp2
  go_loopw [7] (fun i wr => ∃ (k : Nat), i = .int .i64 k ∧ k ≤ N ∧ Below w.heap.size w wr ∧ (∀ j : Nat, j < k → (lfB (nth nodes (j : Int)) || brB nodes (j : Int) (nth nodes (j : Int))) = true)) (fun i _ => N - (intOf i).toNat)
  case atStart => exact ⟨0, rfl, Nat.zero_le _, Below.refl _ _, fun j hj => absurd hj (Nat.not_lt_zero _)⟩
  case round =>
    obtain ⟨k, rfl, hk, hB, hall⟩ := hrel
    have HALL := Lib.hid hall
    have HB := Lib.hid hB
    have hsz := hB.size
    clear hall
    by_cases hlt : k < N
    · have hkn : k < nodes.length := by have := HN.out; omega
      have hnm : nth nodes k ∈ nodes := by rw [nth_lt hkn]; exact List.getElem_mem hkn
      obtain ⟨ad, A2, c2, rfl, d0, d1, d2, l2, g2⟩ := at_T60 (Kd.C_below HC.out hB) (k : Int) (by omega) (by omega)
      rw [Int.toNat_natCast] at d0 d1 d2
      rw [rd_nth] at d0 d1 d2 l2 g2
      obtain ⟨n, hn⟩ : ∃ n, n = nth nodes (k : Int) := ⟨_, rfl⟩
      rw [← hn] at d0 d1 d2 l2 g2 hnm
      obtain ⟨hI0, hI1, hI2⟩ := hI n hnm
      have hkb : k < 4000000000000 := by omega
      have hb1 : Below wr.heap.size wr (wr.alloc (.cells #[.int .i64 n.f0, .int .i64 n.f1, .slice A2 n.f2.length c2] 60)) := (Below.refl _ wr).alloc (Nat.le_refl _) _
      have hL := diagram_leaf.calls n.f0 n.f1 A2 c2 n.f2 (lfB n) (wr.alloc (.cells #[.int .i64 n.f0, .int .i64 n.f1, .slice A2 n.f2.length c2] 60)) (Kd.C_below g2 hb1) l2 (lf_f n)
      have HBR := Lib.hid (fun (W : World) (hW : Below wr.heap.size wr W) => diagram_branch.calls (n.f2.length + 2) (some ad) c nodes (k : Int) (brB nodes (k : Int) n) W (Kd.C_below HC.out (hB.trans (hW.mono hsz))) (by rw [← HN.out]; exact hc) (by rw [hn]; exact br_f nodes k hkn (by rw [← hn]; omega) _ (by rw [← hn]; omega)))
      rw [← HN.out] at HBR
      have HB1 := Lib.hid hb1
      have HNN := Lib.hid hn
      clear hb1 hn hnm g2 hB
      by_cases hl : lfB n = true
      · rw [hl] at hL
        go_wp2_with (go_at_call 56; refine hL.mono ?_; clear hL; rintro e w2 ⟨rfl, hb2⟩; have HB2 := Lib.hid (HB1.out.trans (hb2.mono (by simp))); clear hb2)
        go_roundw
        case rel => exact ⟨k + 1, by go_num, hlt, HB.out.trans (HB2.out.mono hsz), all_succ HALL.out (by rw [← HNN.out, hl]; rfl)⟩
        case measure => simp [intOf]; omega
      · have hlf : lfB n = false := by simpa using hl
        rw [hlf] at hL
        by_cases hr : brB nodes (k : Int) n = true
        · go_wp2_with (first
            | (go_at_call 56; refine hL.mono ?_; clear hL; rintro e w2 ⟨rfl, hb2⟩; have HB2 := Lib.hid (HB1.out.trans (hb2.mono (by simp))); clear hb2)
            | (go_at_call 69; refine (HBR.out _ HB2.out).mono ?_; rintro e w3 ⟨rfl, hb3⟩; rw [hr]; have HB3 := Lib.hid hb3; clear hb3))
          go_roundw
          case rel => exact ⟨k + 1, by go_num, hlt, HB.out.trans ((HB2.out.trans (HB3.out.mono HB2.out.size)).mono hsz), all_succ HALL.out (by rw [← HNN.out, hr]; simp)⟩
          case measure => simp [intOf]; omega
        · have hrf : brB nodes (k : Int) n = false := by simpa using hr
          go_wp2_with (first
            | (go_at_call 56; refine hL.mono ?_; clear hL; rintro e w2 ⟨rfl, hb2⟩; have HB2 := Lib.hid (HB1.out.trans (hb2.mono (by simp))); clear hb2)
            | (go_at_call 69; refine (HBR.out _ HB2.out).mono ?_; rintro e w3 ⟨rfl, hb3⟩; rw [hrf]; have HB3 := Lib.hid hb3; clear hb3))
          go_ret
          exact ⟨by rw [grB_bad hkn (by rw [← HNN.out, hlf, hrf]; rfl)]; rfl, HB.out.trans ((HB2.out.trans (HB3.out.mono HB2.out.size)).mono hsz)⟩
    · have hke : k = N := by omega
      have hg : grB nodes = (decide (0 < nodes.length) && (shp (fun _ => none) nodes).isSome) := grB_of (fun j hj => HALL.out j (by have := HN.out; omega))
      rw [← HN.out] at hg
      have HG := Lib.hid hg
      clear hg
      by_cases h0 : N = 0
      · go_wp2
        go_ret
        exact ⟨by rw [HG.out, h0]; rfl, HB.out⟩
      · have hb1 : Below wr.heap.size wr (wr.alloc (.map #[] 0)) := (Below.refl _ wr).alloc (Nat.le_refl _) _
        have hpos : 0 < N := by omega
        have hS := shapes_calls wr.heap.size wr.heap.size 0 (fun _ => none) nodes A c (wr.alloc (.map #[] 0)) (by simp) (Nat.le_refl _) (IMap.made wr) (fun W hW => Kd.C_below HC.out (HB.out.trans ((hb1.trans hW).mono hsz))) (by rw [← HN.out]; exact hc) hI (by have := HN.out; omega)
        rw [← HN.out] at hS
        have HB1 := Lib.hid hb1
        clear hb1 hB
        go_wp2_with (go_at_call 60; refine hS.mono ?_; clear hS; rintro e w2 ⟨hg2, rfl, -⟩; have HB2 := Lib.hid (HB1.out.trans (grown_below hg2 (by simp) (Nat.le_refl _))); clear hg2)
        go_ret
        exact ⟨by rw [HG.out]; simp [hpos], HB.out.trans (HB2.out.mono hsz)⟩
end Go.Proofs.YtopbjginpmdebaaDoor.K
-- diagram.Reduce
namespace Go.Proofs.YtopbjginpmdebaaDoor.K
open Go.RowKit Go.Maps Go.Proofs.YtopbjginpmdebaaDoorW.PrintWords Go.Proofs.YtopbjginpmdebaaDoorW.PrintLast Go.Proofs.YtopbjginpmdebaaDoorW.PrintMore
set_option linter.unusedVariables false
set_option linter.unusedSimpArgs false
theorem gr_nd {nodes : List Nd} (h : grB nodes = true) {i : Nat} (hi : i < nodes.length) : lfB (nth nodes (i : Int)) = true ∨ brB nodes (i : Int) (nth nodes (i : Int)) = true := by
  unfold grB at h
  rw [Bool.and_eq_true, List.all_eq_true] at h
  have := h.1 i (List.mem_range.2 hi)
  simpa using this
theorem gr_pos {nodes : List Nd} (h : grB nodes = true) : 0 < nodes.length := by
  unfold grB at h
  simp only [Bool.and_eq_true, decide_eq_true_eq] at h
  exact h.2.1
theorem lf_iff {n : Nd} : lfB n = true ↔ n.f0 = -1 ∧ n.f2 = [] ∧ -1073741824 ≤ n.f1 ∧ n.f1 ≤ 1073741824 := by unfold lfB; simp
theorem br_iff {nodes : List Nd} {i : Int} {n : Nd} : brB nodes i n = true ↔ (0 ≤ n.f0 ∧ n.f0 < 64 ∧ n.f1 = 0 ∧ 1 ≤ n.f2.length ∧ n.f2.length ≤ 16) ∧ ∀ k ∈ n.f2, (0 ≤ k ∧ k < i) ∧ ¬ (0 ≤ (nth nodes k).f0 ∧ (nth nodes k).f0 ≤ n.f0) := by
  unfold brB okK
  simp only [Bool.and_eq_true, decide_eq_true_eq, List.all_eq_true, Bool.not_eq_true', decide_eq_false_iff_not]
theorem mem_nth {nodes : List Nd} {n : Nd} (h : n ∈ nodes) : ∃ i : Nat, i < nodes.length ∧ nth nodes (i : Int) = n := by
  obtain ⟨i, hi, e⟩ := List.getElem_of_mem h
  exact ⟨i, hi, by rw [nth_lt hi]; exact e⟩
theorem gr_fit {nodes : List Nd} (h : grB nodes = true) : Fit nodes := by
  refine ⟨fun i hi k hk => ?_, fun n hn h0 => ?_⟩
  · rcases gr_nd h hi with h1 | h1
    · rw [(lf_iff.1 h1).2.1] at hk; cases hk
    · exact ((br_iff.1 h1).2 k hk).1
  · obtain ⟨i, hi, rfl⟩ := mem_nth hn
    rcases gr_nd h hi with h1 | h1
    · have := (lf_iff.1 h1).1; omega
    · intro e
      have := (br_iff.1 h1).1
      rw [e] at this
      simp at this
theorem gr_ne {nodes : List Nd} (h : grB nodes = true) : nodes ≠ [] := fun e => by have := gr_pos h; rw [e] at this; simp at this
theorem gr_kids {nodes : List Nd} (h : grB nodes = true) : ∀ n ∈ nodes, n.f2.length ≤ 16 := by
  intro n hn
  obtain ⟨i, hi, rfl⟩ := mem_nth hn
  rcases gr_nd h hi with h1 | h1
  · rw [(lf_iff.1 h1).2.1]; simp
  · exact (br_iff.1 h1).1.2.2.2.2
theorem place0_kids {m : Nat} {u : List Nd} {n : Nd} (h : ∀ x ∈ u, x.f2.length ≤ m) (hn : n.f2.length ≤ m) : ∀ x ∈ (place0 u n).1, x.f2.length ≤ m := by
  unfold place0
  split
  · exact h
  · intro x hx
    rcases List.mem_append.1 hx with h1 | h1
    · exact h x h1
    · rw [List.mem_singleton.1 h1]; exact hn
theorem place1_kids {m : Nat} {u : List Nd} {at_ : List Int} {n : Nd} (h : ∀ x ∈ u, x.f2.length ≤ m) (hn : n.f2.length ≤ m) : ∀ x ∈ (place1 u at_ n).1, x.f2.length ≤ m := by
  unfold place1 placeB
  split
  · exact place0_kids h (by simp)
  · split
    · exact h
    · exact place0_kids h (by simpa using hn)
theorem imp_kids {m : Nat} : ∀ (ns : List Nd) (u : List Nd) (at_ : List Int), (∀ x ∈ u, x.f2.length ≤ m) → (∀ n ∈ ns, n.f2.length ≤ m) → ∀ x ∈ (imp u at_ ns).1, x.f2.length ≤ m
  | [], u, at_, h, _ => h
  | n :: ns, u, at_, h, hn => by
    simp only [imp]
    exact imp_kids ns _ _ (place1_kids h (hn n List.mem_cons_self)) (fun x hx => hn x (List.mem_cons_of_mem _ hx))
/-- where the last node of a graph is in an empty table -/
def rtN (nodes : List Nd) : Nat := (lk (imp [] [] nodes).2 ((nodes.length - 1 : Nat) : Int)).toNat
/-- the canonical nodes of a graph -/
def cn (nodes : List Nd) : List Nd := expo (imp [] [] nodes).1 (rtN nodes)
theorem gr_tbl {nodes : List Nd} (h : grB nodes = true) : Tbl (imp [] [] nodes).1 (imp [] [] nodes).2 ∧ (imp [] [] nodes).1.length ≤ nodes.length := by
  have := imp_tbl (gr_fit h) tbl_nil nodes.length (Nat.le_refl _)
  rw [List.take_length] at this
  exact ⟨this.1, by simpa using this.2.1⟩
theorem gr_root {nodes : List Nd} (h : grB nodes = true) : lk (imp [] [] nodes).2 ((nodes.length - 1 : Nat) : Int) = (rtN nodes : Int) ∧ rtN nodes < (imp [] [] nodes).1.length := by
  have hp := gr_pos h
  have h1 : (imp [] [] nodes).2.length = nodes.length := by rw [imp_len]; simp
  have h2 := (gr_tbl h).1.at_lt _ (lk_mem (at_ := (imp [] [] nodes).2) (c := ((nodes.length - 1 : Nat) : Int)) (by omega) (by omega))
  unfold rtN
  omega
/-- Reduce's error -/
def redE (nodes : List Nd) : Int := if grB nodes = true then (if (cn nodes).length ≤ 20000 then 0 else 9) else 2
/-- Reduce's nodes -/
def redL (nodes : List Nd) : List Nd := if redE nodes = 0 then cn nodes else []
/-- how a function ends that returns a diagram and an error -/
def DgPost (w : World) (l : List Nd) (er : Int) (e : Ending) (w' : World) : Prop := Below w.heap.size w w' ∧ ∃ vo, e = .returned (.tuple #[.agg #[vo], .int .i64 er]) ∧ k60.R 60 w' w.heap.size (fun _ => True) vo l
set_option maxHeartbeats 16000000 in
set_option maxRecDepth 100000 in
theorem reduce_calls (nodes : List Nd) (A : Option Addr) (c : Nat) (w : World)
    (hC : k60.C w A nodes.length nodes) (hc : nodes.length ≤ c) (hI : ∀ n ∈ nodes, I64 n.f0 ∧ I64 n.f1 ∧ n.f2.length ≤ 1073741824) (hroom : (nodes.length + 1) * 40 ≤ 140737488355328) (htab : PowTab w.heap.size w) :
    Calls Tryd.prog 19 #[.slice A nodes.length c] w (DgPost w (redL nodes) (redE nodes)) := by
  have hb0 : Below w.heap.size w (w.alloc (.cells #[.slice none 0 0] 31)) := (Below.refl _ w).alloc (Nat.le_refl _) _
  have hG := isGraph_calls nodes A c (w.alloc (.cells #[.slice none 0 0] 31)) (Kd.C_below hC hb0) hc hI (by omega)
  have HBX := Lib.hid (heap_alloc_new w (.cells #[.slice none 0 0] 31))
  have HB0 := Lib.hid hb0
  have HC := Lib.hid hC
  have HI := Lib.hid hI
  obtain ⟨N, hN⟩ : ∃ N, N = nodes.length := ⟨_, rfl⟩
  have HN := Lib.hid hN
  rw [← hN] at hG hroom hc ⊢
  clear hb0 hC hI hN
  by_cases hg : grB nodes = true
  · obtain ⟨hr1, hr2⟩ := gr_root hg
    obtain ⟨htb, hul⟩ := gr_tbl hg
    have hnk := imp_kids nodes [] [] (m := 16) (by simp) (gr_kids hg)
    obtain ⟨fuel, hfu⟩ := exL_root htb.down 20000 (rtN nodes) hr2
    have hfu0 := hfu 0
    rw [Nat.zero_add] at hfu0
    obtain ⟨u, hu⟩ : ∃ u, u = (imp [] [] nodes).1 := ⟨_, rfl⟩
    have hcn : cn nodes = expo u (rtN nodes) := by rw [hu]; rfl
    rw [← hu] at hr2 htb hul hnk hfu0
    rw [← hcn] at hfu0
    have HPUB := Lib.hid (And.intro htb.down (And.intro hr2 (And.intro hul hnk)))
    have HU := Lib.hid hu
    rw [← HN.out] at hr1
    have HR1 := Lib.hid hr1
    have HFU := Lib.hid hfu0
    have HFIT := Lib.hid (And.intro (gr_fit hg) (gr_ne hg))
    rw [hg] at hG
    have hE : redE nodes = if (cn nodes).length ≤ 20000 then 0 else 9 := by unfold redE; rw [if_pos hg]
    clear htb hr2 hul hnk hfu hfu0 hu hr1 hg hcn
    have HTAB := Lib.hid htab
    clear htab
    by_cases hle : (cn nodes).length ≤ 20000
    · have hL : redL nodes = cn nodes := by unfold redL; rw [if_pos (by rw [hE, if_pos hle])]
      rw [hL, hE, if_pos hle]
      have HF2 := Lib.hid (show exL u 20000 fuel (fun _ => none) [] [((rtN nodes : Nat), 0)] = some (some (cn nodes)) from by have := HFU.out; rw [if_pos hle] at this; exact this)
      clear hE hL HFU
      go_enter Tryd.func19, Tryd.ntmps19
      go_wp2_with (first
        | (go_at_call 45; refine hG.mono ?_; clear hG; rintro e w1 ⟨rfl, hb1⟩; have HB1 := Lib.hid hb1; have HBX1 := Lib.hid ((hb1.block w.heap.size (by simp)).trans HBX.out); have hs1 := hb1.size; clear hb1)
        | (go_at_call 46; refine (new_calls w1).mono ?_; rintro e w2 ⟨rfl, hb2, hs2, hT2⟩; have HB2 := Lib.hid hb2; have HBX2 := Lib.hid ((hb2.block _ (blk_lt HBX1.out)).trans HBX1.out); have HS2 := Lib.hid hs2; have HT2 := Lib.hid (hT2 w1.heap.size (Nat.le_refl _)); clear hb2 hs2 hT2)
        | (go_at_call 48; have hA := (root_calls w1.heap.size (w1.heap.size + 1) w1.heap.size _ [] nodes A c w2 HT2.out (okNew_ok w1.heap.size (Nat.le_refl _) HS2.out) (by have := HS2.out; omega) (by have := HS2.out; omega) (by have := HS2.out; omega) (fun W hW => Kd.C_below HC.out (HB0.out.trans ((HB1.out.trans ((HB2.out.trans hW).mono hs1)).mono (by simp)))) (by rw [← HN.out]; exact hc) HFIT.out.1 HFIT.out.2 tbl_nil HI.out (by rw [← HN.out]; simp; omega) (PowTab.up (HTAB.out.on (HB0.out.trans ((HB1.out.trans (HB2.out.mono hs1)).mono (by simp)))) (by have := hs1; simp at this; omega))); rw [← HN.out] at hA; refine hA.mono ?_; clear hA; rintro e w3 ⟨rfl, hT3, hTc⟩; rw [HR1.out]; have HT3 := Lib.hid hT3; have hb3 := hTc.below (by have := HS2.out; omega) (okNew_ok w1.heap.size (Nat.le_refl _) HS2.out); have HB3 := Lib.hid hb3; have HBX3 := Lib.hid ((hb3.block _ (blk_lt HBX1.out)).trans HBX2.out); have hs3 := hb3.size; clear hT3 hTc hb3)
        | (go_at_call 47; refine (export_calls fuel w1.heap.size (w1.heap.size + 1) w1.heap.size _ u (rtN nodes) w3 _ (by rw [HU.out]; exact HT3.out) HPUB.out.1 HPUB.out.2.1 HF2.out (by have := HPUB.out.2.2.1; have := HN.out; omega) (fun n hn => Nat.le_trans (HPUB.out.2.2.2 n hn) (by decide))).mono ?_; rintro e w4 ⟨hb4, hm⟩; obtain ⟨vo, rfl, hR⟩ := hm; obtain ⟨A5, c5, rfl⟩ := Kd.R_slice hR; have hbx4 := (hb4.block _ (blk_lt HBX3.out)).trans HBX3.out; have HBX4 := Lib.hid hbx4; have b0 := blk_cell hbx4 0; have f0 := blk_frozen hbx4 0; have hlt4 := blk_lt hbx4; clear hbx4; have HB4 := Lib.hid hb4; have HR4 := Lib.hid hR; clear hb4 hR))
      have HB5 := HB0.out.trans ((HB1.out.trans ((HB2.out.trans (HB3.out.trans (HB4.out.mono (by have := HB2.out.size; omega)))).mono hs1)).mono (by simp))
      have hb6 := (HB5.setCell (p := ⟨w.heap.size, 0, none⟩) (Nat.le_refl _) (.slice A5 (cn nodes).length c5)).alloc (by simp; omega) (.cells #[.slice A5 (cn nodes).length c5] 31)
      have hb2 := blk_set HBX4.out 0 (.slice A5 (cn nodes).length c5)
      have hbx5 := (Below.heap_alloc (w4.setCell ⟨w.heap.size, 0, none⟩ (.slice A5 (cn nodes).length c5)) (.cells #[.slice A5 (cn nodes).length c5] 31) _ (blk_lt hb2)).trans hb2
      have q0 := (blk_cell hbx5 0).trans rfl
      refine bodyPost_ret (v := .tuple #[.agg #[.slice A5 (cn nodes).length c5], .int .i64 0]) (by simp [results, Tryd.f19, go_sem, q0]) rfl ⟨hb6, _, rfl, ?_⟩
      exact Kd.R_below (Kd.R_set (Kd.R_lower (base' := w.heap.size) HR4.out (by have := HB2.out.size; simp at hs1; omega)) HBX4.out (by decide) 0 _) ((Below.refl _ _).alloc (Nat.le_refl _) _)
    · have hL : redL nodes = [] := by unfold redL; rw [if_neg (by rw [hE, if_neg hle]; decide)]
      rw [hL, hE, if_neg hle]
      have HF2 := Lib.hid (show exL u 20000 fuel (fun _ => none) [] [((rtN nodes : Nat), 0)] = some none from by have := HFU.out; rw [if_neg hle] at this; exact this)
      clear hE hL HFU
      go_enter Tryd.func19, Tryd.ntmps19
      go_wp2_with (first
        | (go_at_call 45; refine hG.mono ?_; clear hG; rintro e w1 ⟨rfl, hb1⟩; have HB1 := Lib.hid hb1; have HBX1 := Lib.hid ((hb1.block w.heap.size (by simp)).trans HBX.out); have hs1 := hb1.size; clear hb1)
        | (go_at_call 46; refine (new_calls w1).mono ?_; rintro e w2 ⟨rfl, hb2, hs2, hT2⟩; have HB2 := Lib.hid hb2; have HBX2 := Lib.hid ((hb2.block _ (blk_lt HBX1.out)).trans HBX1.out); have HS2 := Lib.hid hs2; have HT2 := Lib.hid (hT2 w1.heap.size (Nat.le_refl _)); clear hb2 hs2 hT2)
        | (go_at_call 48; have hA := (root_calls w1.heap.size (w1.heap.size + 1) w1.heap.size _ [] nodes A c w2 HT2.out (okNew_ok w1.heap.size (Nat.le_refl _) HS2.out) (by have := HS2.out; omega) (by have := HS2.out; omega) (by have := HS2.out; omega) (fun W hW => Kd.C_below HC.out (HB0.out.trans ((HB1.out.trans ((HB2.out.trans hW).mono hs1)).mono (by simp)))) (by rw [← HN.out]; exact hc) HFIT.out.1 HFIT.out.2 tbl_nil HI.out (by rw [← HN.out]; simp; omega) (PowTab.up (HTAB.out.on (HB0.out.trans ((HB1.out.trans (HB2.out.mono hs1)).mono (by simp)))) (by have := hs1; simp at this; omega))); rw [← HN.out] at hA; refine hA.mono ?_; clear hA; rintro e w3 ⟨rfl, hT3, hTc⟩; rw [HR1.out]; have HT3 := Lib.hid hT3; have hb3 := hTc.below (by have := HS2.out; omega) (okNew_ok w1.heap.size (Nat.le_refl _) HS2.out); have HB3 := Lib.hid hb3; have HBX3 := Lib.hid ((hb3.block _ (blk_lt HBX1.out)).trans HBX2.out); have hs3 := hb3.size; clear hT3 hTc hb3)
        | (go_at_call 47; refine (export_calls fuel w1.heap.size (w1.heap.size + 1) w1.heap.size _ u (rtN nodes) w3 _ (by rw [HU.out]; exact HT3.out) HPUB.out.1 HPUB.out.2.1 HF2.out (by have := HPUB.out.2.2.1; have := HN.out; omega) (fun n hn => Nat.le_trans (HPUB.out.2.2.2 n hn) (by decide))).mono ?_; rintro e w4 ⟨hb4, hm⟩; obtain rfl := hm; have hbx4 := (hb4.block _ (blk_lt HBX3.out)).trans HBX3.out; have HBX4 := Lib.hid hbx4; have b0 := blk_cell hbx4 0; have f0 := blk_frozen hbx4 0; have hlt4 := blk_lt hbx4; clear hbx4; have HB4 := Lib.hid hb4; clear hb4))
      have HB5 := HB0.out.trans ((HB1.out.trans ((HB2.out.trans (HB3.out.trans (HB4.out.mono (by have := HB2.out.size; omega)))).mono hs1)).mono (by simp))
      have hb6 := (HB5.setCell (p := ⟨w.heap.size, 0, none⟩) (Nat.le_refl _) (.slice none 0 0)).alloc (by simp; omega) (.cells #[.slice none 0 0] 31)
      have hb2 := blk_set HBX4.out 0 (.slice none 0 0)
      have hbx5 := (Below.heap_alloc (w4.setCell ⟨w.heap.size, 0, none⟩ (.slice none 0 0)) (.cells #[.slice none 0 0] 31) _ (blk_lt hb2)).trans hb2
      have q0 := (blk_cell hbx5 0).trans rfl
      refine bodyPost_ret (v := .tuple #[.agg #[.slice none 0 0], .int .i64 9]) (by simp [results, Tryd.f19, go_sem, q0]) rfl ⟨hb6, _, rfl, Kd.R_nil _ _ _ _ _⟩
  · have hgf : grB nodes = false := by simpa using hg
    have hE : redE nodes = 2 := by unfold redE; rw [if_neg hg]
    have hL : redL nodes = [] := by unfold redL; rw [if_neg (by rw [hE]; decide)]
    rw [hE, hL]
    rw [hgf] at hG
    clear hg hgf hE hL
    go_enter Tryd.func19, Tryd.ntmps19
    go_wp2_with (go_at_call 45; refine hG.mono ?_; clear hG; rintro e w1 ⟨rfl, hb1⟩; have hbx1 := (hb1.block w.heap.size (by simp)).trans HBX.out; have b0 := blk_cell hbx1 0; have f0 := blk_frozen hbx1 0; have HB1 := Lib.hid hb1; have HBX1 := Lib.hid hbx1; clear hb1 hbx1)
    have hb2 := blk_set HBX1.out 0 (.slice none 0 0)
    have q0 := (blk_cell hb2 0).trans rfl
    refine bodyPost_ret (v := .tuple #[.agg #[.slice none 0 0], .int .i64 2]) (by simp [results, Tryd.f19, go_sem, q0]) rfl ⟨(HB0.out.trans (HB1.out.mono (by simp))).setCell (p := ⟨w.heap.size, 0, none⟩) (Nat.le_refl _) _, _, rfl, Kd.R_nil _ _ _ _ _⟩
end Go.Proofs.YtopbjginpmdebaaDoor.K
-- diagram.Validate
namespace Go.Proofs.YtopbjginpmdebaaDoor.K
open Go.RowKit Go.Maps Go.Proofs.YtopbjginpmdebaaDoorW.PrintWords Go.Proofs.YtopbjginpmdebaaDoorW.PrintLast Go.Proofs.YtopbjginpmdebaaDoorW.PrintMore
set_option linter.unusedVariables false
set_option linter.unusedSimpArgs false
theorem eq_getD {xs ys : List Int} (hl : xs.length = ys.length) (h : ∀ j, j < xs.length → xs.getD j 0 = ys.getD j 0) : xs = ys := by
  apply List.ext_getElem hl
  intro i h1 h2
  have := h i h1
  rw [List.getD_eq_getElem?_getD, List.getD_eq_getElem?_getD, List.getElem?_eq_getElem h1, List.getElem?_eq_getElem h2] at this
  exact this
set_option maxHeartbeats 8000000 in
set_option maxRecDepth 100000 in
theorem eqInts (xs ys : List Int) (A1 A2 : Option Addr) (c1 c2 : Nat) (w : World) (h1 : (Kd.int .i64).C w A1 xs.length xs) (h2 : (Kd.int .i64).C w A2 ys.length ys) (hl : xs.length ≤ 1073741824) (hl2 : ys.length ≤ 1073741824) :
    Calls Tryd.prog 51 #[.slice A1 xs.length c1, .slice A2 ys.length c2] w fun e w' => e = .returned (.bool (decide (xs = ys))) ∧ Below w.heap.size w w' := by
  have H1 := Lib.hid h1
  have H2 := Lib.hid h2
  clear h1 h2
  by_cases hlen : xs.length = ys.length
  · obtain ⟨N, hN⟩ : ∃ N, N = xs.length := ⟨_, rfl⟩
    rw [← hlen, ← hN]
    have HN := Lib.hid hN
    have HL := Lib.hid hlen
    rw [← hN] at hl
    clear hN hlen hl2
    go_enter Tryd.func51, Tryd.ntmps51
    go_wp2
    go_loopw [13] (fun i wr => ∃ k : Nat, i = .int .i64 k ∧ k ≤ N ∧ Below w.heap.size w wr ∧ ∀ j, j < k → xs.getD j 0 = ys.getD j 0) (fun i _ => N - (intOf i).toNat)
    case atStart => exact ⟨0, rfl, Nat.zero_le _, Below.refl _ _, fun j hj => absurd hj (Nat.not_lt_zero _)⟩
    case round =>
      obtain ⟨k, rfl, hk, hB, hall⟩ := hrel
      have HALL := Lib.hid hall
      have HB := Lib.hid hB
      clear hall
      by_cases hlt : k < N
      · have hx1 : k < xs.length := by have := HN.out; omega
        have hx2 : k < ys.length := by have := HL.out; omega
        obtain ⟨ad1, rfl, r1⟩ := reads_at (Kd.C_below H1.out hB) (by intro e; rw [e] at hx1; simp at hx1)
        obtain ⟨ad2, rfl, r2⟩ := reads_at (Kd.C_below H2.out hB) (by intro e; rw [e] at hx2; simp at hx2)
        have e1 := r1 k hx1
        have e2 := r2 k hx2
        obtain ⟨x, hx⟩ : ∃ x, x = xs.getD k 0 := ⟨_, rfl⟩
        obtain ⟨y, hy⟩ : ∃ y, y = ys.getD k 0 := ⟨_, rfl⟩
        rw [← hx] at e1
        rw [← hy] at e2
        have HX := Lib.hid hx
        have HY := Lib.hid hy
        clear hx hy r1 r2 hB
        have hkb : k < 1073741824 := by omega
        by_cases hxy : x = y
        · go_wp2
          go_quiet (fail)
          go_wp2
          go_roundw
          case rel => exact ⟨k + 1, by go_num, hlt, below_drew2 HB.out _, fun j hj => by
            rcases Nat.lt_or_ge j k with h | h
            · exact HALL.out j h
            · obtain rfl : j = k := by omega
              rw [← HX.out, ← HY.out]; exact hxy⟩
          case measure => simp [intOf]; omega
        · go_wp2
          go_quiet (fail)
          go_wp2
          go_ret
          exact ⟨by rw [decide_eq_false (fun e => hxy (by rw [HX.out, HY.out, e]))]; rfl, below_drew2 HB.out _⟩
      · go_wp2
        go_ret
        exact ⟨by rw [decide_eq_true (eq_getD HL.out (fun j hj => HALL.out j (by have := HN.out; omega)))]; rfl, HB.out⟩
  · have hne : ((xs.length : Int) != (ys.length : Int)) = true := by simp; omega
    go_enter Tryd.func51, Tryd.ntmps51
    go_wp2
    go_ret
    exact ⟨by rw [decide_eq_false (fun e => hlen (by rw [e]))]; rfl, Below.refl _ _⟩
set_option maxHeartbeats 8000000 in
set_option maxRecDepth 100000 in
theorem same1 (a b : Nd) (Aa Ab : Option Addr) (ca cb : Nat) (w : World) (ha : (Kd.int .i64).C w Aa a.f2.length a.f2) (hb : (Kd.int .i64).C w Ab b.f2.length b.f2) (hl : a.f2.length ≤ 1073741824) (hl2 : b.f2.length ≤ 1073741824) :
    Calls Tryd.prog 50 #[.agg #[.int .i64 a.f0, .int .i64 a.f1, .slice Aa a.f2.length ca], .agg #[.int .i64 b.f0, .int .i64 b.f1, .slice Ab b.f2.length cb]] w fun e w' => e = .returned (.bool (decide (a = b))) ∧ Below w.heap.size w w' := by
  obtain ⟨a0, a1, al⟩ := a
  obtain ⟨b0, b1, bl⟩ := b
  simp only at ha hb hl hl2 ⊢
  have HA := Lib.hid ha
  have HBB := Lib.hid hb
  have HL1 := Lib.hid hl
  have HL2 := Lib.hid hl2
  clear ha hb hl hl2
  have hb1 : Below w.heap.size w ((w.alloc (.cells #[.int .i64 a0, .int .i64 a1, .slice Aa al.length ca] 60)).alloc (.cells #[.int .i64 b0, .int .i64 b1, .slice Ab bl.length cb] 60)) := ((Below.refl _ w).alloc (Nat.le_refl _) _).alloc (by simp) _
  have HB1 := Lib.hid hb1
  have hE := eqInts al bl Aa Ab ca cb _ (Kd.C_below HA.out hb1) (Kd.C_below HBB.out hb1) HL1.out HL2.out
  clear hb1
  by_cases h0 : a0 = b0
  · subst h0
    by_cases h1 : a1 = b1
    · subst h1
      have hd : decide ((⟨a0, a1, al⟩ : Nd) = ⟨a0, a1, bl⟩) = decide (al = bl) := by simp
      rw [hd]
      obtain ⟨r, hr⟩ : ∃ r, r = decide (al = bl) := ⟨_, rfl⟩
      rw [← hr] at hE ⊢
      clear hr hd
      cases r
      · go_enter Tryd.func50, Tryd.ntmps50
        go_wp2_with (go_at_call 51; refine hE.mono ?_; clear hE; rintro e w2 ⟨rfl, hb2⟩; have HB2 := Lib.hid hb2; clear hb2)
        go_ret
        exact ⟨rfl, HB1.out.trans (HB2.out.mono (by simp; omega))⟩
      · go_enter Tryd.func50, Tryd.ntmps50
        go_wp2_with (go_at_call 51; refine hE.mono ?_; clear hE; rintro e w2 ⟨rfl, hb2⟩; have HB2 := Lib.hid hb2; clear hb2)
        go_ret
        exact ⟨rfl, HB1.out.trans (HB2.out.mono (by simp; omega))⟩
    · have hd : decide ((⟨a0, a1, al⟩ : Nd) = ⟨a0, b1, bl⟩) = false := decide_eq_false (fun e => h1 (by injection e))
      rw [hd]
      clear hE hd
      go_enter Tryd.func50, Tryd.ntmps50
      go_wp2
      go_ret
      exact ⟨rfl, HB1.out⟩
  · have hd : decide ((⟨a0, a1, al⟩ : Nd) = ⟨b0, b1, bl⟩) = false := decide_eq_false (fun e => h0 (by injection e))
    rw [hd]
    clear hE hd
    go_enter Tryd.func50, Tryd.ntmps50
    go_wp2
    go_ret
    exact ⟨rfl, HB1.out⟩
end Go.Proofs.YtopbjginpmdebaaDoor.K
-- slices.EqualFunc
namespace Go.Proofs.YtopbjginpmdebaaDoor.K
open Go.RowKit Go.Maps Go.Proofs.YtopbjginpmdebaaDoorW.PrintWords Go.Proofs.YtopbjginpmdebaaDoorW.PrintLast Go.Proofs.YtopbjginpmdebaaDoorW.PrintMore
set_option linter.unusedVariables false
set_option linter.unusedSimpArgs false
theorem nths_eq {l r : List Nd} (hl : l.length = r.length) (h : ∀ j : Nat, j < l.length → nth l (j : Int) = nth r (j : Int)) : l = r := by
  apply List.ext_getElem hl
  intro i h1 h2
  have := h i h1
  rwa [nth_lt h1, nth_lt h2] at this
set_option maxHeartbeats 8000000 in
set_option maxRecDepth 100000 in
theorem eqf_calls (l r : List Nd) (Al Ar : Option Addr) (cl cr : Nat) (w : World) (h1 : k60.C w Al l.length l) (h2 : k60.C w Ar r.length r) (hc1 : l.length ≤ cl) (hc2 : r.length ≤ cr) (hL : l.length ≤ 4000000000000) (hR : r.length ≤ 4000000000000)
    (hI1 : ∀ n ∈ l, n.f2.length ≤ 1073741824) (hI2 : ∀ n ∈ r, n.f2.length ≤ 1073741824) :
    Calls Tryd.prog 52 #[.slice Al l.length cl, .slice Ar r.length cr, .func (.func 50) #[] #[]] w fun e w' => e = .returned (.bool (decide (l = r))) ∧ Below w.heap.size w w' := by
  have H1 := Lib.hid h1
  have H2 := Lib.hid h2
  have HI1 := Lib.hid hI1
  have HI2 := Lib.hid hI2
  clear h1 h2 hI1 hI2
  by_cases hlen : l.length = r.length
  · obtain ⟨N, hN⟩ : ∃ N, N = l.length := ⟨_, rfl⟩
    rw [← hlen, ← hN]
    rw [← hlen] at hc2
    rw [← hN] at hc1 hc2 hL
    have HN := Lib.hid hN
    have HL := Lib.hid hlen
    clear hN hlen hR
    go_enter Tryd.func52, Tryd.ntmps52
    go_wp2
    go_loopw [17] (fun i wr => ∃ k : Nat, i = .int .i64 k ∧ k ≤ N ∧ Below w.heap.size w wr ∧ ∀ j : Nat, j < k → nth l (j : Int) = nth r (j : Int)) (fun i _ => N - (intOf i).toNat)
    case atStart => exact ⟨0, rfl, Nat.zero_le _, Below.refl _ _, fun j hj => absurd hj (Nat.not_lt_zero _)⟩
    case round =>
      obtain ⟨k, rfl, hk, hB, hall⟩ := hrel
      have HALL := Lib.hid hall
      have HB := Lib.hid hB
      have hsz := hB.size
      clear hall
      by_cases hlt : k < N
      · have hx1 : k < l.length := by have := HN.out; omega
        have hx2 : k < r.length := by have := HL.out; omega
        obtain ⟨ad, A2, c2, rfl, d0, d1, d2, l2, g2⟩ := at_T60 (Kd.C_below H1.out hB) (k : Int) (by omega) (by omega)
        obtain ⟨bd, B2, b2, rfl, e0, e1, e2, m2, k2⟩ := at_T60 (Kd.C_below H2.out hB) (k : Int) (by omega) (by omega)
        rw [Int.toNat_natCast] at d0 d1 d2 e0 e1 e2
        rw [rd_nth] at d0 d1 d2 l2 g2 e0 e1 e2 m2 k2
        obtain ⟨n, hn⟩ : ∃ n, n = nth l (k : Int) := ⟨_, rfl⟩
        obtain ⟨m, hm⟩ : ∃ m, m = nth r (k : Int) := ⟨_, rfl⟩
        rw [← hn] at d0 d1 d2 l2 g2
        rw [← hm] at e0 e1 e2 m2 k2
        have hbl := World.block_lt_of_cell? _ _ e0
        have hn1 : n.f2.length ≤ 1073741824 := HI1.out n (by rw [hn, nth_lt hx1]; exact List.getElem_mem hx1)
        have hm1 : m.f2.length ≤ 1073741824 := HI2.out m (by rw [hm, nth_lt hx2]; exact List.getElem_mem hx2)
        have hb1 : Below wr.heap.size wr ((wr.alloc (.cells #[.int .i64 n.f0, .int .i64 n.f1, .slice A2 n.f2.length c2] 60)).alloc (.cells #[.int .i64 m.f0, .int .i64 m.f1, .slice B2 m.f2.length b2] 60)) := ((Below.refl _ wr).alloc (Nat.le_refl _) _).alloc (by simp) _
        have hS := same1 n m A2 B2 c2 b2 _ (Kd.C_below g2 hb1) (Kd.C_below k2 hb1) hn1 hm1
        have HB1 := Lib.hid hb1
        have HX := Lib.hid hn
        have HY := Lib.hid hm
        have hkb : k < 4000000000000 := by omega
        clear hb1 hn hm g2 k2 hB
        by_cases hnm : n = m
        · rw [decide_eq_true hnm] at hS
          have HNM := Lib.hid hnm
          clear hnm
          go_wp2_with (go_at_call 50; refine hS.mono ?_; clear hS; rintro e w2 ⟨rfl, hb2⟩; have HB2 := Lib.hid hb2; clear hb2)
          go_roundw
          case rel => exact ⟨k + 1, by go_num, hlt, HB.out.trans ((HB1.out.trans (HB2.out.mono (by simp; omega))).mono hsz), fun j hj => by
            rcases Nat.lt_or_ge j k with h | h
            · exact HALL.out j h
            · obtain rfl : j = k := by omega
              rw [← HX.out, ← HY.out]; exact HNM.out⟩
          case measure => simp [intOf]; omega
        · rw [decide_eq_false hnm] at hS
          have HNM := Lib.hid hnm
          clear hnm
          go_wp2_with (go_at_call 50; refine hS.mono ?_; clear hS; rintro e w2 ⟨rfl, hb2⟩; have HB2 := Lib.hid hb2; clear hb2)
          go_ret
          exact ⟨by rw [decide_eq_false (fun e => HNM.out (by rw [HX.out, HY.out, e]))]; rfl, HB.out.trans ((HB1.out.trans (HB2.out.mono (by simp; omega))).mono hsz)⟩
      · go_wp2
        go_ret
        exact ⟨by rw [decide_eq_true (nths_eq HL.out (fun j hj => HALL.out j (by have := HN.out; omega)))]; rfl, HB.out⟩
  · have hne : ((l.length : Int) != (r.length : Int)) = true := by simp; omega
    go_enter Tryd.func52, Tryd.ntmps52
    go_wp2
    go_ret
    exact ⟨by rw [decide_eq_false (fun e => hlen (by rw [e]))]; rfl, Below.refl _ _⟩
end Go.Proofs.YtopbjginpmdebaaDoor.K
-- diagram.Validate
namespace Go.Proofs.YtopbjginpmdebaaDoor.K
open Go.RowKit Go.Maps Go.Proofs.YtopbjginpmdebaaDoorW.PrintWords Go.Proofs.YtopbjginpmdebaaDoorW.PrintLast Go.Proofs.YtopbjginpmdebaaDoorW.PrintMore
set_option linter.unusedVariables false
set_option linter.unusedSimpArgs false
/-- Validate -/
def valE (nodes : List Nd) : Int := if redE nodes = 0 then (if cn nodes = nodes then 0 else 2) else redE nodes
theorem redL_kids {nodes : List Nd} : (redL nodes).length ≤ 20000 := by
  unfold redL
  split
  · rename_i h
    unfold redE at h
    split at h
    · split at h
      · assumption
      · cases h
    · cases h
  · simp
set_option maxHeartbeats 8000000 in
set_option maxRecDepth 100000 in
theorem validate_calls (nodes : List Nd) (A : Option Addr) (c : Nat) (w : World)
    (hC : k60.C w A nodes.length nodes) (hc : nodes.length ≤ c) (hI : ∀ n ∈ nodes, I64 n.f0 ∧ I64 n.f1 ∧ n.f2.length ≤ 1073741824) (hroom : (nodes.length + 1) * 40 ≤ 140737488355328) (htab : PowTab w.heap.size w) (hk : ∀ n ∈ redL nodes, n.f2.length ≤ 1073741824) :
    Calls Tryd.prog 21 #[.agg #[.slice A nodes.length c]] w fun e w' => e = .returned (.int .i64 (valE nodes)) ∧ Below w.heap.size w w' := by
  have HI := Lib.hid hI
  have HC := Lib.hid hC
  have HK := Lib.hid hk
  have HRM := Lib.hid hroom
  have hb0 : Below w.heap.size w (w.alloc (.cells #[.slice A nodes.length c] 31)) := (Below.refl _ w).alloc (Nat.le_refl _) _
  have hR := reduce_calls nodes A c (w.alloc (.cells #[.slice A nodes.length c] 31)) (Kd.C_below hC hb0) hc hI hroom (PowTab.up (htab.on hb0) hb0.size)
  have hbx0 := heap_alloc_new w (.cells #[.slice A nodes.length c] 31)
  obtain ⟨N, hN⟩ : ∃ N, N = nodes.length := ⟨_, rfl⟩
  rw [← hN] at hR hc hb0 hbx0 ⊢
  have HB0 := Lib.hid hb0
  have HBX0 := Lib.hid hbx0
  clear hbx0
  have HN := Lib.hid hN
  clear hI hC hk hroom htab hb0 hN
  by_cases h0 : redE nodes = 0
  · have hv : valE nodes = if cn nodes = nodes then 0 else 2 := by unfold valE; rw [if_pos h0]
    have hl : redL nodes = cn nodes := by unfold redL; rw [if_pos h0]
    have hlen : (cn nodes).length ≤ 20000 := by rw [← hl]; exact redL_kids
    rw [h0, hl] at hR
    rw [hl] at HK
    have HLEN := Lib.hid hlen
    clear hl hlen h0
    obtain ⟨L, hL⟩ : ∃ L, L = cn nodes := ⟨_, rfl⟩
    rw [← hL] at hR HK hv HLEN
    clear hL
    by_cases hq : L = nodes
    · rw [hv, if_pos hq]
      have hqb : decide (L = nodes) = true := decide_eq_true hq
      have HQ := Lib.hid hqb
      clear hv hq hqb
      go_enter Tryd.func21, Tryd.ntmps21
      go_wp2_with (first
        | (go_at_call 19; refine hR.mono ?_; clear hR; rintro e w2 ⟨hb2, vo, rfl, hRo⟩; obtain ⟨A5, c5, rfl, hc5, hC5⟩ := Kd.R_reads hRo; have HB2 := Lib.hid hb2; have hbx2 := (hb2.block w.heap.size (by simp)).trans HBX0.out; have b0 := blk_cell hbx2 0; have hlt := blk_lt hbx2; clear hbx2; have HC5 := Lib.hid hC5; have hs2 := hb2.size; clear hb2 hC5 hRo)
        | (go_at_call 52; have hb3 := (Below.refl w2.heap.size w2).alloc (Nat.le_refl _) (.cells #[.slice A5 L.length c5] 31); have hA := eqf_calls L nodes A5 A c5 c _ (Kd.C_below HC5.out hb3) (Kd.C_below HC.out ((HB0.out.trans (HB2.out.mono (show w.heap.size ≤ (w.alloc (.cells #[.slice A N c] 31)).heap.size by simp))).trans (hb3.mono (by simp at hs2; omega)))) hc5 (by rw [← HN.out]; exact hc) (by have := HLEN.out; omega) (by have := HRM.out; omega) HK.out (fun n hn => (HI.out n hn).2.2); rw [HQ.out, ← HN.out] at hA; refine hA.mono ?_; clear hA; rintro e w4 ⟨rfl, hb4⟩; have HBF := Lib.hid (((HB0.out.trans (HB2.out.mono (show w.heap.size ≤ (w.alloc (.cells #[.slice A N c] 31)).heap.size by simp))).trans (hb3.mono (by simp at hs2; omega))).trans (hb4.mono (by simp at hs2; simp; omega))); clear hb3 hb4))
      go_ret
      exact ⟨rfl, HBF.out⟩
    · rw [hv, if_neg hq]
      have hqb : decide (L = nodes) = false := decide_eq_false hq
      have HQ := Lib.hid hqb
      clear hv hq hqb
      go_enter Tryd.func21, Tryd.ntmps21
      go_wp2_with (first
        | (go_at_call 19; refine hR.mono ?_; clear hR; rintro e w2 ⟨hb2, vo, rfl, hRo⟩; obtain ⟨A5, c5, rfl, hc5, hC5⟩ := Kd.R_reads hRo; have HB2 := Lib.hid hb2; have hbx2 := (hb2.block w.heap.size (by simp)).trans HBX0.out; have b0 := blk_cell hbx2 0; have hlt := blk_lt hbx2; clear hbx2; have HC5 := Lib.hid hC5; have hs2 := hb2.size; clear hb2 hC5 hRo)
        | (go_at_call 52; have hb3 := (Below.refl w2.heap.size w2).alloc (Nat.le_refl _) (.cells #[.slice A5 L.length c5] 31); have hA := eqf_calls L nodes A5 A c5 c _ (Kd.C_below HC5.out hb3) (Kd.C_below HC.out ((HB0.out.trans (HB2.out.mono (show w.heap.size ≤ (w.alloc (.cells #[.slice A N c] 31)).heap.size by simp))).trans (hb3.mono (by simp at hs2; omega)))) hc5 (by rw [← HN.out]; exact hc) (by have := HLEN.out; omega) (by have := HRM.out; omega) HK.out (fun n hn => (HI.out n hn).2.2); rw [HQ.out, ← HN.out] at hA; refine hA.mono ?_; clear hA; rintro e w4 ⟨rfl, hb4⟩; have HBF := Lib.hid (((HB0.out.trans (HB2.out.mono (show w.heap.size ≤ (w.alloc (.cells #[.slice A N c] 31)).heap.size by simp))).trans (hb3.mono (by simp at hs2; omega))).trans (hb4.mono (by simp at hs2; simp; omega))); clear hb3 hb4))
      go_ret
      exact ⟨rfl, HBF.out⟩
  · have hv : valE nodes = redE nodes := by unfold valE; rw [if_neg h0]
    rw [hv]
    obtain ⟨er, her⟩ : ∃ er, er = redE nodes := ⟨_, rfl⟩
    rw [← her] at hR h0 ⊢
    clear her hv
    go_enter Tryd.func21, Tryd.ntmps21
    go_wp2_with (go_at_call 19; refine hR.mono ?_; clear hR; rintro e w2 ⟨hb2, vo, rfl, hRo⟩; obtain ⟨A5, c5, rfl⟩ := Kd.R_slice hRo; have HB2 := Lib.hid hb2; clear hb2)
    go_ret
    exact ⟨rfl, ((HB0.out.trans (HB2.out.mono (show w.heap.size ≤ (w.alloc (.cells #[.slice A N c] 31)).heap.size by simp))).alloc (by have := HB2.out.size; simp at this; omega) _)⟩
end Go.Proofs.YtopbjginpmdebaaDoor.K
-- the canonical nodes keep the number of kids
namespace Go.Proofs.YtopbjginpmdebaaDoor.K
open Go.RowKit Go.Maps Go.Proofs.YtopbjginpmdebaaDoorW.PrintWords Go.Proofs.YtopbjginpmdebaaDoorW.PrintLast Go.Proofs.YtopbjginpmdebaaDoorW.PrintMore
set_option linter.unusedVariables false
set_option linter.unusedSimpArgs false
theorem nth_kids {m : Nat} {u : List Nd} (hu : ∀ x ∈ u, x.f2.length ≤ m) (i : Int) : (nth u i).f2.length ≤ m := by
  unfold nth
  by_cases h : i.toNat < u.length
  · rw [List.getD_eq_getElem?_getD, List.getElem?_eq_getElem h]
    exact hu _ (List.getElem_mem h)
  · rw [List.getD_eq_getElem?_getD, List.getElem?_eq_none (by omega)]
    simp
theorem fin_kids {m : Nat} {u : List Nd} (hu : ∀ x ∈ u, x.f2.length ≤ m) (i : Int) (s : St) (hs : ∀ x ∈ s.2, x.f2.length ≤ m) : ∀ x ∈ (fin u i s).2, x.f2.length ≤ m := by
  intro x hx
  unfold fin at hx
  rcases List.mem_append.1 hx with h | h
  · exact hs x h
  · rw [List.mem_singleton.1 h]
    show (mp s.1 (nth u i).f2).length ≤ m
    unfold mp
    rw [List.length_map]
    exact nth_kids hu i
theorem foldl_keeps {α : Type} (P : St → Prop) (f : St → α → St) (hf : ∀ s x, P s → P (f s x)) : ∀ (l : List α) (s : St), P s → P (l.foldl f s)
  | [], _, h => h
  | x :: l, s, h => foldl_keeps P f hf l _ (hf s x h)
theorem dfs_kids {m : Nat} {u : List Nd} (hu : ∀ x ∈ u, x.f2.length ≤ m) : ∀ (d : Nat) (i : Int) (s : St), (∀ x ∈ s.2, x.f2.length ≤ m) → ∀ x ∈ (dfs u d i s).2, x.f2.length ≤ m
  | 0, _, _, h => h
  | d + 1, i, s, h => by
    simp only [dfs]
    split
    · exact h
    · exact fin_kids hu i _ (foldl_keeps (fun s => ∀ x ∈ s.2, x.f2.length ≤ m) _ (fun s c hs => dfs_kids hu d c s hs) _ s h)
theorem cn_kids {nodes : List Nd} (h : grB nodes = true) : ∀ x ∈ cn nodes, x.f2.length ≤ 16 := by
  unfold cn expo
  exact dfs_kids (imp_kids nodes [] [] (by simp) (gr_kids h)) _ _ _ (by simp)
theorem redL_kids16 (nodes : List Nd) : ∀ x ∈ redL nodes, x.f2.length ≤ 16 := by
  unfold redL
  split
  · rename_i h
    by_cases hg : grB nodes = true
    · exact cn_kids hg
    · unfold redE at h
      rw [if_neg hg] at h
      cases h
  · simp
/-- what Eval gives from node i on -/
def evK (nodes : List Nd) (o : List Int) : Nat → Int → Int × Int
  | 0, _ => (0, 0)
  | f + 1, i => if (nth nodes i).f0 < 0 then ((nth nodes i).f1, 0) else
      if (o.length : Int) ≤ (nth nodes i).f0 ∨ rd o (nth nodes i).f0 < 0 ∨ ((nth nodes i).f2.length : Int) ≤ rd o (nth nodes i).f0 then (0, 1) else evK nodes o f (rd (nth nodes i).f2 (rd o (nth nodes i).f0))
end Go.Proofs.YtopbjginpmdebaaDoor.K
-- diagram.Eval
namespace Go.Proofs.YtopbjginpmdebaaDoor.K
open Go.RowKit Go.Maps Go.Proofs.YtopbjginpmdebaaDoorW.PrintWords Go.Proofs.YtopbjginpmdebaaDoorW.PrintLast Go.Proofs.YtopbjginpmdebaaDoorW.PrintMore
set_option linter.unusedVariables false
set_option linter.unusedSimpArgs false
/-- Eval -/
def evR (nodes : List Nd) (o : List Int) : Int × Int := if valE nodes = 0 then evK nodes o (nodes.length + 1) ((nodes.length - 1 : Nat) : Int) else (0, valE nodes)
/-- Eval's loop: n holds node i -/
structure EvSt (w w2 W : World) (nodes : List Nd) (i : Nat) : Prop where
  below : Below w.heap.size w W
  below2 : Below w2.heap.size w2 W
  node : ∃ A2 c2, W.heap[w2.heap.size]? = some (.cells #[.int .i64 (nth nodes (i : Int)).f0, .int .i64 (nth nodes (i : Int)).f1, .slice A2 (nth nodes (i : Int)).f2.length c2] 60 (0, 0)) ∧ (nth nodes (i : Int)).f2.length ≤ c2 ∧ (Kd.int .i64).C W A2 (nth nodes (i : Int)).f2.length (nth nodes (i : Int)).f2
set_option maxHeartbeats 8000000 in
set_option maxRecDepth 100000 in
theorem eval_calls (nodes : List Nd) (o : List Int) (A Ao : Option Addr) (c co : Nat) (w : World)
    (hC : k60.C w A nodes.length nodes) (hc : nodes.length ≤ c) (hI : ∀ n ∈ nodes, I64 n.f0 ∧ I64 n.f1 ∧ n.f2.length ≤ 1073741824) (hroom : (nodes.length + 1) * 40 ≤ 140737488355328) (htab : PowTab w.heap.size w)
    (hO : (Kd.int .i64).C w Ao o.length o) (ho : o.length ≤ 17592186044000) :
    Calls Tryd.prog 26 #[.agg #[.slice A nodes.length c], .slice Ao o.length co] w fun e w' => e = .returned (.tuple #[.int .i64 (evR nodes o).1, .int .i64 (evR nodes o).2]) ∧ Below w.heap.size w w' := by
  have HO := Lib.hid hO
  have HI := Lib.hid hI
  have HC := Lib.hid hC
  have hb0 : Below w.heap.size w (w.alloc (.cells #[.slice A nodes.length c] 31)) := (Below.refl _ w).alloc (Nat.le_refl _) _
  have hV := validate_calls nodes A c (w.alloc (.cells #[.slice A nodes.length c] 31)) (Kd.C_below hC hb0) hc hI hroom (PowTab.up (htab.on hb0) hb0.size) (fun n hn => Nat.le_trans (redL_kids16 nodes n hn) (by decide))
  have hbx0 := heap_alloc_new w (.cells #[.slice A nodes.length c] 31)
  obtain ⟨N, hN⟩ : ∃ N, N = nodes.length := ⟨_, rfl⟩
  rw [← hN] at hV hc hb0 hbx0 ⊢
  have HB0 := Lib.hid hb0
  have HBX0 := Lib.hid hbx0
  have HN := Lib.hid hN
  have HRM := Lib.hid hroom
  clear hI hC hO hroom htab hb0 hbx0 hN
  by_cases h0 : valE nodes = 0
  · have hv : evR nodes o = evK nodes o (nodes.length + 1) ((nodes.length - 1 : Nat) : Int) := by unfold evR; rw [if_pos h0]
    rw [h0] at hV
    have hre : redE nodes = 0 := by
      by_cases h1 : redE nodes = 0
      · exact h1
      · unfold valE at h0; rw [if_neg h1] at h0; exact absurd h0 h1
    have hgr : grB nodes = true := by
      by_cases h1 : grB nodes = true
      · exact h1
      · unfold redE at hre; rw [if_neg h1] at hre; cases hre
    rw [hv]
    obtain ⟨M, hM⟩ : ∃ M, nodes.length = M + 1 := ⟨nodes.length - 1, by have := gr_pos hgr; omega⟩
    have hNM : N = M + 1 := HN.out.trans hM
    subst hNM
    have hMl : nodes.length - 1 = M := by omega
    rw [hMl, hM]
    have HGR := Lib.hid hgr
    have HM := Lib.hid hM
    have hMb : M < 4000000000000 := by have := HRM.out; omega
    clear hv h0 hre hgr hM hMl
    go_enter Tryd.func26, Tryd.ntmps26
    go_wp2_with (go_at_call 21; refine hV.mono ?_; clear hV; rintro e w2 ⟨rfl, hb2⟩; have HB2 := Lib.hid (HB0.out.trans (hb2.mono (show w.heap.size ≤ (w.alloc (.cells #[.slice A (M + 1) c] 31)).heap.size by simp))); have hbx2 := (hb2.block w.heap.size (by simp)).trans HBX0.out; have b0 := blk_cell hbx2 0; have hlt := blk_lt hbx2; have HBX2 := Lib.hid hbx2; clear hbx2 hb2; obtain ⟨ad, A2, c2, rfl, d0, d1, d2, l2, g2⟩ := at_T60 (Kd.C_below HC.out HB2.out) (M : Int) (by omega) (by have := HM.out; omega); rw [Int.toNat_natCast] at d0 d1 d2; rw [rd_nth] at d0 d1 d2 l2 g2; have hadl := World.block_lt_of_cell? _ _ d0; have HG2 := Lib.hid g2; clear g2)
    have hst0 : ∀ X : World, X = w2.alloc (.cells #[.int .i64 (nth nodes (M : Int)).f0, .int .i64 (nth nodes (M : Int)).f1, .slice A2 (nth nodes (M : Int)).f2.length c2] 60) → EvSt w w2 X nodes M := by
      rintro X rfl
      exact ⟨HB2.out.alloc (Nat.le_of_lt hlt) _, (Below.refl _ w2).alloc (Nat.le_refl _) _, ⟨A2, c2, heap_alloc_new w2 _, l2, Kd.C_below HG2.out ((Below.refl _ w2).alloc (Nat.le_refl _) _)⟩⟩
    have H0 := Lib.hid hst0
    clear hst0
    go_loopg [21] (M + 1 + 1) (fun q s21 wr => ∃ i : Nat, i < q ∧ i < M + 1 ∧ Aside0 (evK nodes o q (i : Int) = evK nodes o (M + 1 + 1) (M : Int)) ∧ EvSt w w2 wr nodes i)
    case atStart => exact ⟨M, by omega, by omega, ⟨rfl⟩, H0.out _ rfl⟩
    case round =>
      obtain ⟨i, hiq, hiN, hev, hst⟩ := hrel
      obtain ⟨q, rfl⟩ : ∃ q, gk = q + 1 := ⟨gk - 1, by omega⟩
      obtain ⟨A3, c3, hbn, l3, g3⟩ := hst.node
      obtain ⟨n, hn⟩ : ∃ n, n = nth nodes (i : Int) := ⟨_, rfl⟩
      rw [← hn] at hbn l3 g3
      have n0 : wr.cell? ⟨w2.heap.size, 0, none⟩ = some (.int .i64 n.f0) := (blk_cell hbn 0).trans rfl
      have n1 : wr.cell? ⟨w2.heap.size, 1, none⟩ = some (.int .i64 n.f1) := (blk_cell hbn 1).trans rfl
      have n2 : wr.cell? ⟨w2.heap.size, 2, none⟩ = some (.slice A3 n.f2.length c3) := (blk_cell hbn 2).trans rfl
      have HEV := Lib.hid hev.out
      have HST := Lib.hid hst
      have HNI := Lib.hid hn
      have HBN := Lib.hid hbn
      have HG3 := Lib.hid g3
      clear hev hst hn hbn g3 d0 d1 d2
      by_cases h0 : n.f0 < 0
      · go_wp2
        refine bodyPost_ret (v := .tuple #[.int .i64 n.f1, .int .i64 0]) (by simp [results, Tryd.f26, go_sem]) rfl ⟨?_, HST.out.below⟩
        rw [← HEV.out]
        simp only [evK]
        rw [← HNI.out, if_pos (by omega)]
      · by_cases h1 : (o.length : Int) ≤ n.f0
        · go_wp2
          go_quiet (fail)
          go_wp2
          refine bodyPost_ret (v := .tuple #[.int .i64 0, .int .i64 1]) (by simp [results, Tryd.f26, go_sem]) rfl ⟨?_, below_drew2 HST.out.below _⟩
          rw [← HEV.out]
          simp only [evK]
          rw [← HNI.out, if_neg (by omega), if_pos (by omega)]
        · obtain ⟨fN, hfN⟩ : ∃ fN : Nat, n.f0 = fN := ⟨n.f0.toNat, by omega⟩
          have hfo : fN < o.length := by omega
          have hfoi : (fN : Int) < (o.length : Int) := by omega
          obtain ⟨ao, rfl, ro⟩ := reads_at (Kd.C_below HO.out HST.out.below) (by intro e; rw [e] at hfo; simp at hfo)
          have e0 := ro fN hfo
          obtain ⟨x, hx⟩ : ∃ x, x = o.getD fN 0 := ⟨_, rfl⟩
          rw [← hx] at e0
          have hrd : rd o n.f0 = x := by rw [hfN, hx]; unfold rd; rw [Int.toNat_natCast]
          have HRD := Lib.hid hrd
          replace n0 : wr.cell? ⟨w2.heap.size, 0, none⟩ = some (.int .i64 (fN : Int)) := by rw [n0, hfN]
          have HFN := Lib.hid hfN
          have hfb : fN < 17592186044000 := by omega
          clear hrd hx hfN ro h0 h1
          by_cases h2 : x < 0
          · have q1 : decide (o.length ≤ fN) = false := by simp; omega
            have q2 : decide (x < 0) = true := decide_eq_true h2
            have q3 : (decide (o.length ≤ fN) || decide (x < 0)) = true := by rw [q2]; simp
            go_wp2
            go_quiet (fail)
            go_wp2
            refine bodyPost_ret (v := .tuple #[.int .i64 0, .int .i64 1]) (by simp [results, Tryd.f26, go_sem]) rfl ⟨?_, below_drew2 HST.out.below _⟩
            rw [← HEV.out]
            simp only [evK]
            rw [← HNI.out, if_neg (by rw [HFN.out]; omega), if_pos (by rw [HRD.out]; omega)]
          · by_cases h3 : (n.f2.length : Int) ≤ x
            · go_wp2
              go_quiet (fail)
              go_wp2
              refine bodyPost_ret (v := .tuple #[.int .i64 0, .int .i64 1]) (by simp [results, Tryd.f26, go_sem]) rfl ⟨?_, below_drew2 HST.out.below _⟩
              rw [← HEV.out]
              simp only [evK]
              rw [← HNI.out, if_neg (by rw [HFN.out]; omega), if_pos (by rw [HRD.out]; omega)]
            · obtain ⟨xN, rfl⟩ : ∃ xN : Nat, x = xN := ⟨x.toNat, by omega⟩
              have hxl : xN < n.f2.length := by omega
              obtain ⟨a3, rfl, r3⟩ := reads_at HG3.out (by intro e; rw [e] at hxl; simp at hxl)
              have e3 := r3 xN hxl
              have hmem : n.f2.getD xN 0 ∈ n.f2 := by rw [List.getD_eq_getElem?_getD, List.getElem?_eq_getElem hxl]; exact List.getElem_mem hxl
              have hdn := (gr_fit HGR.out).1 i (by have := HM.out; omega) (n.f2.getD xN 0) (by rw [← HNI.out]; exact hmem)
              obtain ⟨kN, hkN⟩ : ∃ kN : Nat, n.f2.getD xN 0 = kN := ⟨(n.f2.getD xN 0).toNat, by omega⟩
              rw [hkN] at e3 hdn
              have HKN := Lib.hid hkN
              obtain ⟨ad4, A4, c4, had4, d0, d1, d2, l4, g4⟩ := at_T60 HC.out (kN : Int) (by omega) (by have := HM.out; omega)
              injection had4 with had4
              subst had4
              rw [Int.toNat_natCast] at d0 d1 d2
              rw [rd_nth] at d0 d1 d2 l4 g4
              obtain ⟨m, hm⟩ : ∃ m, m = nth nodes (kN : Int) := ⟨_, rfl⟩
              rw [← hm] at d0 d1 d2 l4 g4
              replace d0 := pw_cell_below HST.out.below d0
              replace d1 := pw_cell_below HST.out.below d1
              replace d2 := pw_cell_below HST.out.below d2
              have HMM := Lib.hid hm
              have HG4 := Lib.hid g4
              have hkM : (kN : Int) < (M : Int) + 1 := by omega
              have hkb : kN < 4000000000000 := by omega
              have hxli : (xN : Int) < (n.f2.length : Int) := by omega
              have hkq : kN < q := by omega
              clear hm g4 hdn hmem r3
              go_wp2
              go_quiet (fail)
              have q1 : decide (o.length ≤ fN) = false := by simp; omega
              have q2 : decide ((xN : Int) < 0) = false := by simp
              have q3 : decide (n.f2.length ≤ xN) = false := by simp; omega
              obtain ⟨w3, hw3⟩ : ∃ w3, w3 = wr.drewN nq := ⟨_, rfl⟩
              rw [← hw3]
              have hb3 : Below wr.heap.size wr w3 := by rw [hw3]; exact below_drew2 (Below.refl _ wr) nq
              have hbx3 := (hb3.block _ (by have := HST.out.below2.size; omega)).trans ((HST.out.below2.block _ hlt).trans HBX2.out)
              have b3 : w3.cell? ⟨w.heap.size, 0, none⟩ = some (.slice (some ad) (M + 1) c) := (blk_cell hbx3 0).trans rfl
              replace n0 := pw_cell_below hb3 n0
              replace n1 := pw_cell_below hb3 n1
              replace n2 := pw_cell_below hb3 n2
              replace e0 := pw_cell_below hb3 e0
              replace e3 := pw_cell_below hb3 e3
              replace d0 := pw_cell_below hb3 d0
              replace d1 := pw_cell_below hb3 d1
              replace d2 := pw_cell_below hb3 d2
              have hbn3 := (hb3.block _ (blk_lt HBN.out)).trans HBN.out
              have f7 := blk_frozen hbn3 0
              have f71 := blk_frozen hbn3 1
              have f72 := blk_frozen hbn3 2
              have HBX3 := Lib.hid hbx3
              have HBN3 := Lib.hid hbn3
              have HB3 := Lib.hid hb3
              clear hw3 hb3 hbx3 hbn3 b0
              go_upto_region 8 with (fail)
              go_still_tail 13, (by kernel_rfl)
              change wpList _ _ _ _ _ w3.drew
              go_wp2
              go_roundg q
              case measure => omega
              case rel =>
                have hwm : w.heap.size ≤ w2.heap.size := by omega
                have hbF := ((((HST.out.below.trans (HB3.out.mono (HST.out.below.size))).setCell (p := ⟨w2.heap.size, 0, none⟩) hwm (.int .i64 m.f0)).setCell (p := ⟨w2.heap.size, 1, none⟩) hwm (.int .i64 m.f1)).setCell (p := ⟨w2.heap.size, 2, none⟩) hwm (.slice A4 m.f2.length c4)).drew
                refine ⟨kN, hkq, by omega, ⟨?_⟩, ⟨?_, ?_, A4, c4, ?_, ?_, ?_⟩⟩
                · rw [← HEV.out]
                  conv => rhs; simp only [evK]
                  rw [← HNI.out, if_neg (by rw [HFN.out]; omega), if_neg (by rw [HFN.out] at *; rw [← HFN.out, HRD.out]; omega), HRD.out]
                  congr 1
                  unfold rd
                  rw [Int.toNat_natCast, HKN.out]
                · exact hbF
                · exact ((((HST.out.below2.trans (HB3.out.mono (HST.out.below2.size))).setCell (p := ⟨w2.heap.size, 0, none⟩) (Nat.le_refl _) _).setCell (p := ⟨w2.heap.size, 1, none⟩) (Nat.le_refl _) _).setCell (p := ⟨w2.heap.size, 2, none⟩) (Nat.le_refl _) _).drew
                · rw [← HMM.out]
                  exact blk_set (blk_set (blk_set HBN3.out 0 _) 1 _) 2 _
                · rw [← HMM.out]; exact l4
                · rw [← HMM.out]
                  exact Kd.C_below HG4.out hbF
  · have hv : evR nodes o = (0, valE nodes) := by unfold evR; rw [if_neg h0]
    rw [hv]
    obtain ⟨er, her⟩ : ∃ er, er = valE nodes := ⟨_, rfl⟩
    rw [← her] at hV h0 ⊢
    clear her hv
    go_enter Tryd.func26, Tryd.ntmps26
    go_wp2_with (go_at_call 21; refine hV.mono ?_; clear hV; rintro e w2 ⟨rfl, hb2⟩; have HB2 := Lib.hid hb2; clear hb2)
    refine bodyPost_ret (v := .tuple #[.int .i64 0, .int .i64 er]) (by simp [results, Tryd.f26, go_sem]) rfl ⟨rfl, HB0.out.trans (HB2.out.mono (show w.heap.size ≤ (w.alloc (.cells #[.slice A N c] 31)).heap.size by simp))⟩
end Go.Proofs.YtopbjginpmdebaaDoor.K
-- exactppllaw19.awake
namespace Go.Proofs.YtopbjginpmdebaaDoor.K
open Go.RowKit Go.Maps Go.Proofs.YtopbjginpmdebaaDoorW.PrintWords Go.Proofs.YtopbjginpmdebaaDoorW.PrintLast Go.Proofs.YtopbjginpmdebaaDoorW.PrintMore
set_option linter.unusedVariables false
set_option linter.unusedSimpArgs false
theorem ints_C {W : World} {b : Nat} {xs : List Int} {cs : Array Value} (h : W.heap[b]? = some (.cells cs 3 (0, 0))) (hl : xs.length ≤ 1073741824) (hcs : ∀ j, j < xs.length → cs[j]? = some (.int .i64 (xs.getD j 0))) : (Kd.int .i64).C W (some ⟨b, 0, none⟩) xs.length xs := by
  refine ⟨rfl, by omega, fun _ => ⟨_, rfl, fun j p hp => ⟨[.int .i64 p], rfl, rfl, fun i u hi => ?_⟩⟩⟩
  have hj : j < xs.length := by
    rcases Nat.lt_or_ge j xs.length with h1 | h1
    · exact h1
    · rw [List.getElem?_eq_none h1] at hp; cases hp
  have hi0 : i = 0 := by
    rcases i with _ | i
    · rfl
    · simp at hi
  subst hi0
  have hu : u = .int .i64 p := by simpa using hi.symm
  subst hu
  have h1 := blk_cell h j
  rw [hcs j hj] at h1
  rw [List.getD_eq_getElem?_getD, hp] at h1
  have e : (Addr.add ⟨b, 0, none⟩ (j * 1 + 0)) = ⟨b, j, none⟩ := by simp [Addr.add]; intro h; simp [h]
  show W.cell? (Addr.add ⟨b, 0, none⟩ (j * 1 + 0)) = _
  rw [e, h1]; rfl
theorem nodes_C {W : World} {b : Nat} {xs : List Nd} {cs : Array Value} (h : W.heap[b]? = some (.cells cs 60 (0, 0))) (hl : xs.length ≤ 1073741824)
    (hx : ∀ j p, xs[j]? = some p → ∃ A c, cs[j * 3]? = some (.int .i64 p.f0) ∧ cs[j * 3 + 1]? = some (.int .i64 p.f1) ∧ cs[j * 3 + 2]? = some (.slice A p.f2.length c) ∧ p.f2.length ≤ c ∧ (Kd.int .i64).C W A p.f2.length p.f2) : k60.C W (some ⟨b, 0, none⟩) xs.length xs := by
  refine ⟨rfl, by omega, fun _ => ⟨_, rfl, fun j p hp => ?_⟩⟩
  obtain ⟨A, c, c0, c1, c2, l2, g2⟩ := hx j p hp
  refine ⟨_, rfl, k60_mk W p l2 g2, fun i u hi => ?_⟩
  have h1 := blk_cell h (j * 3 + i)
  have e : ∀ n, (Addr.add ⟨b, 0, none⟩ n) = ⟨b, n, none⟩ := fun n => by simp [Addr.add]; intro h; simp [h]
  show W.cell? (Addr.add ⟨b, 0, none⟩ (j * 3 + i)) = some u
  rw [e, h1]
  rcases i with _ | _ | _ | i
  · rw [← hi]; exact c0
  · rw [← hi]; exact c1
  · rw [← hi]; exact c2
  · simp at hi
/-- awake's list -/
def awL : List Nd := [⟨-1, 0, []⟩, ⟨-1, 1, []⟩, ⟨2, 0, [1, 1]⟩, ⟨0, 0, [0, 2]⟩]
def awM : List Nd := [⟨-1, 0, []⟩, ⟨-1, 1, []⟩, ⟨0, 0, [0, 1]⟩]
theorem aw_red : redE awL = 0 := by kernel_rfl
theorem aw_redL : redL awL = awM := by kernel_rfl
theorem aw_ev : evR awM [1] = (1, 0) := by kernel_rfl
theorem aw_C {W : World} {b k1 k2 : Nat} (h : W.heap[b]? = some (.cells #[.int .i64 (-1), .int .i64 0, .slice none 0 0, .int .i64 (-1), .int .i64 1, .slice none 0 0, .int .i64 2, .int .i64 0, .slice (some ⟨k1, 0, none⟩) 2 2, .int .i64 0, .int .i64 0, .slice (some ⟨k2, 0, none⟩) 2 2] 60 (0, 0)))
    (h1 : W.heap[k1]? = some (.cells #[.int .i64 1, .int .i64 1] 3 (0, 0))) (h2 : W.heap[k2]? = some (.cells #[.int .i64 0, .int .i64 2] 3 (0, 0))) : k60.C W (some ⟨b, 0, none⟩) 4 awL := by
  refine nodes_C (xs := awL) h (by decide) fun j p hp => ?_
  rcases j with _ | _ | _ | _ | j
  · obtain rfl : (⟨-1, 0, []⟩ : Nd) = p := by simpa [awL] using hp
    exact ⟨none, 0, rfl, rfl, rfl, Nat.le_refl _, Kd.C_nil _ _⟩
  · obtain rfl : (⟨-1, 1, []⟩ : Nd) = p := by simpa [awL] using hp
    exact ⟨none, 0, rfl, rfl, rfl, Nat.le_refl _, Kd.C_nil _ _⟩
  · obtain rfl : (⟨2, 0, [1, 1]⟩ : Nd) = p := by simpa [awL] using hp
    exact ⟨_, 2, rfl, rfl, rfl, Nat.le_refl _, ints_C h1 (by decide) (fun j hj => by rcases j with _ | _ | j; rfl; rfl; simp at hj; omega)⟩
  · obtain rfl : (⟨0, 0, [0, 2]⟩ : Nd) = p := by simpa [awL] using hp
    exact ⟨_, 2, rfl, rfl, rfl, Nat.le_refl _, ints_C h2 (by decide) (fun j hj => by rcases j with _ | _ | j; rfl; rfl; simp at hj; omega)⟩
  · simp [awL] at hp
theorem awL_I : ∀ n ∈ awL, I64 n.f0 ∧ I64 n.f1 ∧ n.f2.length ≤ 1073741824 := by
  intro n hn
  simp only [awL, List.mem_cons, List.not_mem_nil, or_false] at hn
  rcases hn with rfl | rfl | rfl | rfl <;> exact ⟨⟨by decide, by decide⟩, ⟨by decide, by decide⟩, by decide⟩
theorem awM_I : ∀ n ∈ awM, I64 n.f0 ∧ I64 n.f1 ∧ n.f2.length ≤ 1073741824 := by
  intro n hn
  simp only [awM, List.mem_cons, List.not_mem_nil, or_false] at hn
  rcases hn with rfl | rfl | rfl <;> exact ⟨⟨by decide, by decide⟩, ⟨by decide, by decide⟩, by decide⟩
set_option maxHeartbeats 8000000 in
set_option maxRecDepth 100000 in
theorem awake_calls (w : World) (htab : PowTab w.heap.size w) : Calls Tryd.prog 17 #[] w fun e w' => e = .returned (.bool true) ∧ Below w.heap.size w w' := by
  obtain ⟨W1, hW1⟩ : ∃ W1, W1 = ((w.alloc (Obj.cells #[.int .i64 1, .int .i64 1] 3)).alloc (Obj.cells #[.int .i64 0, .int .i64 2] 3)).alloc (Obj.cells #[.int .i64 (-1), .int .i64 0, .slice none 0 0, .int .i64 (-1), .int .i64 1, .slice none 0 0, .int .i64 2, .int .i64 0, .slice (some ⟨w.heap.size, 0, none⟩) 2 2, .int .i64 0, .int .i64 0, .slice (some ⟨w.heap.size + 1, 0, none⟩) 2 2] 60) := ⟨_, rfl⟩
  have hb1 : Below w.heap.size w W1 := by rw [hW1]; exact (((Below.refl _ w).alloc (Nat.le_refl _) _).alloc (by simp) _).alloc (by simp; omega) _
  have hC1 : k60.C W1 (some ⟨w.heap.size + 1 + 1, 0, none⟩) 4 awL := by
    rw [hW1]
    refine aw_C (k1 := w.heap.size) (k2 := w.heap.size + 1) ?_ ?_ ?_
    · have := heap_alloc_new ((w.alloc (Obj.cells #[.int .i64 1, .int .i64 1] 3)).alloc (Obj.cells #[.int .i64 0, .int .i64 2] 3)) (Obj.cells #[.int .i64 (-1), .int .i64 0, .slice none 0 0, .int .i64 (-1), .int .i64 1, .slice none 0 0, .int .i64 2, .int .i64 0, .slice (some ⟨w.heap.size, 0, none⟩) 2 2, .int .i64 0, .int .i64 0, .slice (some ⟨w.heap.size + 1, 0, none⟩) 2 2] 60)
      simpa using this
    · exact (Below.heap_alloc _ _ _ (by simp; omega)).trans ((Below.heap_alloc _ _ _ (by simp)).trans (heap_alloc_new w _))
    · refine (Below.heap_alloc _ _ _ (by simp)).trans ?_
      have := heap_alloc_new (w.alloc (Obj.cells #[.int .i64 1, .int .i64 1] 3)) (Obj.cells #[.int .i64 0, .int .i64 2] 3)
      simpa using this
  have hA := reduce_calls awL _ 4 W1 hC1 (by decide) awL_I (by decide) (PowTab.up (htab.on hb1) hb1.size)
  rw [aw_red, aw_redL] at hA
  have hs1 := hb1.size
  have HB1 := Lib.hid hb1
  have HTAB := Lib.hid htab
  rw [hW1] at hA
  have HW1 := Lib.hid hW1
  clear hb1 hC1 hW1 htab
  go_enter Tryd.func17, Tryd.ntmps17
  go_wp2_with (first
    | (go_at_call 19; refine hA.mono ?_; clear hA; rintro e w2 ⟨hb2, vo, rfl, hRo⟩; obtain ⟨A5, c5, rfl, hc5, hC5⟩ := Kd.R_reads hRo; rw [← HW1.out] at hb2; have HB2 := Lib.hid (HB1.out.trans (hb2.mono hs1)); have HC5 := Lib.hid hC5; have HCC := Lib.hid hc5; have hl5 : awM.length = 3 := rfl; clear hb2 hC5 hRo)
    | (go_at_call 26; have hb3 := ((Below.refl w2.heap.size w2).alloc (Nat.le_refl _) (.cells #[.slice A5 3 c5] 31)).alloc (by simp) (.cells #[.int .i64 1] 3); have hO := ints_C (W := (w2.alloc (Obj.cells #[.slice A5 3 c5] 31)).alloc (Obj.cells #[.int .i64 1] 3)) (b := w2.heap.size + 1) (xs := [1]) (cs := #[.int .i64 1]) (by have := heap_alloc_new (w2.alloc (Obj.cells #[.slice A5 3 c5] 31)) (Obj.cells #[.int .i64 1] 3); simpa using this) (by decide) (fun j hj => by rcases j with _ | j; rfl; simp at hj); have hA2 := eval_calls awM [1] A5 (some ⟨w2.heap.size + 1, 0, none⟩) c5 1 _ (Kd.C_below HC5.out hb3) HCC.out awM_I (by decide) (PowTab.up (HTAB.out.on (HB2.out.trans (hb3.mono HB2.out.size))) (by have := HB2.out.size; have := hb3.size; omega)) hO (by decide); rw [aw_ev] at hA2; refine hA2.mono ?_; clear hA2 hO; rintro e w3 ⟨rfl, hb4⟩; have hbx := (hb4.block w2.heap.size (by simp; omega)).trans ((Below.heap_alloc _ _ _ (by simp)).trans (heap_alloc_new w2 (.cells #[.slice A5 3 c5] 31))); have b0 := blk_cell hbx 0; have HBX := Lib.hid hbx; have HB4 := Lib.hid (HB2.out.trans ((hb3.trans (hb4.mono (by simp; omega))).mono HB2.out.size)); clear hbx hb3 hb4))
  go_ret
  exact ⟨rfl, HB4.out⟩
end Go.Proofs.YtopbjginpmdebaaDoor.K
-- the contracts of diagram's functions, in the form that the printed texts call them
namespace Go.Proofs.YtopbjginpmdebaaDoor.K
open Go.RowKit Go.Maps Go.Proofs.YtopbjginpmdebaaDoorW.PrintWords Go.Proofs.YtopbjginpmdebaaDoorW.PrintLast Go.Proofs.YtopbjginpmdebaaDoorW.PrintMore
set_option linter.unusedVariables false
set_option linter.unusedSimpArgs false
theorem ptab {w W : World} (h : PowTab w.heap.size w) (hb : Below w.heap.size w W) : PowTab W.heap.size W := PowTab.up (h.on hb) hb.size
/-- nodes whose numbers and lengths are a machine's -/
def ndOk (l : List Nd) : Bool := l.all (fun n => decide (-9223372036854775808 ≤ n.f0 ∧ n.f0 ≤ 9223372036854775807 ∧ -9223372036854775808 ≤ n.f1 ∧ n.f1 ≤ 9223372036854775807 ∧ n.f2.length ≤ 1073741824)) && decide ((l.length + 1) * 40 ≤ 140737488355328)
theorem ndOk_I {l : List Nd} (h : ndOk l = true) : ∀ n ∈ l, I64 n.f0 ∧ I64 n.f1 ∧ n.f2.length ≤ 1073741824 := by
  unfold ndOk at h
  rw [Bool.and_eq_true, List.all_eq_true] at h
  intro n hn
  have := of_decide_eq_true (h.1 n hn)
  exact ⟨⟨by omega, by omega⟩, ⟨by omega, by omega⟩, this.2.2.2.2⟩
theorem ndOk_room {l : List Nd} (h : ndOk l = true) : (l.length + 1) * 40 ≤ 140737488355328 := by
  unfold ndOk at h
  rw [Bool.and_eq_true] at h
  exact of_decide_eq_true h.2
theorem V_of_R {w w' : World} {vo : Value} {l : List Nd} (h : k60.R 60 w' w.heap.size (fun _ => True) vo l) : Kd.V k60 60 w' w.heap.size (fun k_ => (w.heap.size ≤ k_)) vo l :=
  Kd.R_V (Kd.R_mono (Kd.R_bound h) (fun k hk => hk.2.1))
def diagram_Reduce.f (l : List S60) : Option (List S60 × Int) := if ndOk l = true then some (redL l, redE l) else none
theorem diagram_Reduce.calls (A : Option Addr) (c : Nat) (l : List S60) (r1 : List S60) (r2 : Int) (w : World) (hr : Kd.C k60 w A l.length l) (hc : l.length ≤ c) (h : diagram_Reduce.f l = some (r1, r2)) (htab : PowTab w.heap.size w) :
    Calls Tryd.prog 19 #[.slice A l.length c] w fun e w' => ∃ v0_ : Value, e = .returned (.tuple #[.agg #[v0_], .int .i64 r2]) ∧ Kd.V k60 60 w' w.heap.size (fun k_ => (w.heap.size ≤ k_)) v0_ r1 ∧ Below w.heap.size w w' := by
  unfold diagram_Reduce.f at h
  by_cases hk : ndOk l = true
  · rw [if_pos hk] at h
    simp only [Option.some.injEq, Prod.mk.injEq] at h
    obtain ⟨rfl, rfl⟩ := h
    exact (reduce_calls l A c w hr hc (ndOk_I hk) (ndOk_room hk) htab).mono fun e w' ⟨hb, vo, he, hR⟩ => ⟨vo, he, V_of_R hR, hb⟩
  · rw [if_neg hk] at h; cases h
def diagram_Validate.f (l : List S60) : Option Int := if ndOk l = true then some (valE l) else none
theorem diagram_Validate.calls (A : Option Addr) (c : Nat) (l : List S60) (r : Int) (w : World) (hr : Kd.C k60 w A l.length l) (hc : l.length ≤ c) (h : diagram_Validate.f l = some r) (htab : PowTab w.heap.size w) :
    Calls Tryd.prog 21 #[.agg #[.slice A l.length c]] w fun e w' => e = .returned (.int .i64 r) ∧ Below w.heap.size w w' := by
  unfold diagram_Validate.f at h
  by_cases hk : ndOk l = true
  · rw [if_pos hk] at h
    obtain rfl := Option.some.inj h
    exact validate_calls l A c w hr hc (ndOk_I hk) (ndOk_room hk) htab (fun n hn => Nat.le_trans (redL_kids16 l n hn) (by decide))
  · rw [if_neg hk] at h; cases h
def diagram_Eval.f (l : List S60) (o : List Int) : Option (Int × Int) := if ndOk l = true then (if o.length ≤ 17592186044000 then some (evR l o) else none) else none
theorem diagram_Eval.calls (A : Option Addr) (c : Nat) (l : List S60) (Ao : Option Addr) (co : Nat) (o : List Int) (r1 r2 : Int) (w : World) (hr : Kd.C k60 w A l.length l) (hc : l.length ≤ c) (hro : (Kd.int .i64).C w Ao o.length o) (hco : o.length ≤ co) (h : diagram_Eval.f l o = some (r1, r2)) (htab : PowTab w.heap.size w) :
    Calls Tryd.prog 26 #[.agg #[.slice A l.length c], .slice Ao o.length co] w fun e w' => e = .returned (.tuple #[.int .i64 r1, .int .i64 r2]) ∧ Below w.heap.size w w' := by
  unfold diagram_Eval.f at h
  by_cases hk : ndOk l = true
  · rw [if_pos hk] at h
    by_cases ho : o.length ≤ 17592186044000
    · rw [if_pos ho] at h
      have h := Option.some.inj h
      have h1 : (evR l o).1 = r1 := by rw [h]
      have h2 : (evR l o).2 = r2 := by rw [h]
      rw [← h1, ← h2]
      exact eval_calls l o A Ao c co w hr hc (ndOk_I hk) (ndOk_room hk) htab hro ho
    · rw [if_neg ho] at h; cases h
  · rw [if_neg hk] at h; cases h
def exactppllaw19_awake.f : Option Bool := some true
theorem exactppllaw19_awake.calls (r : Bool) (w : World) (h : exactppllaw19_awake.f = some r) (htab : PowTab w.heap.size w) : Calls Tryd.prog 17 #[] w fun e w' => e = .returned (.bool r) ∧ Below w.heap.size w w' := by
  obtain rfl := Option.some.inj h
  exact awake_calls w htab
end Go.Proofs.YtopbjginpmdebaaDoor.K
-- what the references' SameInts, SameNode, Same say
namespace Go.Proofs.YtopbjginpmdebaaDoor.K
open Go.RowKit Go.Maps Go.Proofs.YtopbjginpmdebaaDoorW.PrintWords Go.Proofs.YtopbjginpmdebaaDoorW.PrintLast Go.Proofs.YtopbjginpmdebaaDoorW.PrintMore
set_option linter.unusedVariables false
set_option linter.unusedSimpArgs false
theorem w64_succ {j : Nat} (h : j < 4611686018427387904) : wrap64 ((j : Int) + 1) = ((j + 1 : Nat) : Int) := by unfold wrap64; omega
theorem rd_get {xs : List Int} {j : Nat} (h : j < xs.length) : rd xs (j : Int) = xs[j] := by unfold rd; rw [Int.toNat_natCast, List.getD_eq_getElem?_getD, List.getElem?_eq_getElem h]; rfl
theorem sameInts_l (xs ys : List Int) (hl : xs.length = ys.length) (hb : xs.length < 4611686018427387904) : ∀ (m j k : Nat), xs.length - j ≤ m → j ≤ xs.length → m < k → exactpplref07_SameInts.l0 k xs ys (j : Int) = some (decide (xs.drop j = ys.drop j)) := by
  intro m
  induction m with
  | zero =>
    intro j k h1 h2 h3
    obtain ⟨f, rfl⟩ : ∃ f, k = f + 1 := ⟨k - 1, by omega⟩
    have e : j = xs.length := by omega
    simp only [exactpplref07_SameInts.l0]
    rw [if_neg (by omega), List.drop_of_length_le (by omega), List.drop_of_length_le (by omega)]; simp
  | succ m ih =>
    intro j k h1 h2 h3
    obtain ⟨f, rfl⟩ : ∃ f, k = f + 1 := ⟨k - 1, by omega⟩
    by_cases hj : j < xs.length
    · have hj2 : j < ys.length := by omega
      simp only [exactpplref07_SameInts.l0]
      rw [if_pos (by omega), if_pos (by omega), if_pos (by omega), rd_get hj, rd_get hj2, w64_succ (by omega), ih (j + 1) f (by omega) (by omega) (by omega)]
      have hd : (xs.drop j = ys.drop j) ↔ (xs[j] = ys[j] ∧ xs.drop (j + 1) = ys.drop (j + 1)) := by rw [List.drop_eq_getElem_cons hj, List.drop_eq_getElem_cons hj2, List.cons.injEq]
      by_cases he : xs[j] = ys[j]
      · rw [if_pos he, decide_eq_decide.2 (hd.trans ⟨fun h => h.2, fun h => ⟨he, h⟩⟩)]
      · rw [if_neg he, decide_eq_false (fun h => he (hd.1 h).1)]
    · have e : j = xs.length := by omega
      simp only [exactpplref07_SameInts.l0]
      rw [if_neg (by omega), List.drop_of_length_le (by omega), List.drop_of_length_le (by omega)]; simp
theorem sameInts_f (xs ys : List Int) (hb : xs.length < 4611686018427387904) (k : Nat) (hk : xs.length < k) : exactpplref07_SameInts.f k xs ys = some (decide (xs = ys)) := by
  unfold exactpplref07_SameInts.f
  by_cases hl : xs.length = ys.length
  · rw [if_pos (by omega)]
    have := sameInts_l xs ys hl hb xs.length 0 k (by omega) (by omega) hk
    simpa using this
  · rw [if_neg (by omega), decide_eq_false (fun e => hl (by rw [e]))]
theorem sameNode_f (n m : Nd) (hb : n.f2.length < 4611686018427387904) (k : Nat) (hk : n.f2.length < k) : exactpplref19_SameNode.f k n.f0 n.f1 n.f2 m.f0 m.f1 m.f2 = some (decide (n = m)) := by
  unfold exactpplref19_SameNode.f
  rw [sameInts_f _ _ hb k hk]
  by_cases h0 : n.f0 = m.f0
  · rw [if_pos h0]
    by_cases h1 : n.f1 = m.f1
    · rw [if_pos h1]
      by_cases h2 : n.f2 = m.f2
      · have := nd_ext h0 h1 h2; subst this; simp
      · have : ¬ n = m := fun e => h2 (by rw [e])
        simp [h2, this]
    · have : ¬ n = m := fun e => h1 (by rw [e])
      rw [if_neg h1]; simp [this]
  · have : ¬ n = m := fun e => h0 (by rw [e])
    rw [if_neg h0]; simp [this]
theorem same_l (xs ys : List Nd) (hl : xs.length = ys.length) (hb : xs.length < 4611686018427387904) (q : Nat) (hq : q < 4611686018427387904) (hx : ∀ n ∈ xs, n.f2.length ≤ q) : ∀ (m j k : Nat), xs.length - j ≤ m → j ≤ xs.length → m + q + 1 < k → exactpplref19_Same.l0 k (j : Int) xs ys = some (decide (xs.drop j = ys.drop j)) := by
  intro m
  induction m with
  | zero =>
    intro j k h1 h2 h3
    obtain ⟨f, rfl⟩ : ∃ f, k = f + 1 := ⟨k - 1, by omega⟩
    have e : j = xs.length := by omega
    simp only [exactpplref19_Same.l0]
    rw [if_neg (by omega), List.drop_of_length_le (by omega), List.drop_of_length_le (by omega)]; simp
  | succ m ih =>
    intro j k h1 h2 h3
    obtain ⟨f, rfl⟩ : ∃ f, k = f + 1 := ⟨k - 1, by omega⟩
    by_cases hj : j < xs.length
    · have hj2 : j < ys.length := by omega
      have e1 : rd_T60 xs (j : Int) = xs[j] := (rd_nth xs j).trans (nth_lt hj)
      have e2 : rd_T60 ys (j : Int) = ys[j] := (rd_nth ys j).trans (nth_lt hj2)
      have hm := hx xs[j] (List.getElem_mem hj)
      simp only [exactpplref19_Same.l0]
      rw [if_pos (by omega), if_pos (by omega), if_pos (by omega), e1, e2, sameNode_f xs[j] ys[j] (by omega) f (by omega), Option.bind_some, w64_succ (by omega), ih (j + 1) f (by omega) (by omega) (by omega)]
      have hd : (xs.drop j = ys.drop j) ↔ (xs[j] = ys[j] ∧ xs.drop (j + 1) = ys.drop (j + 1)) := by rw [List.drop_eq_getElem_cons hj, List.drop_eq_getElem_cons hj2, List.cons.injEq]
      by_cases he : xs[j] = ys[j]
      · rw [decide_eq_true he, if_pos rfl, decide_eq_decide.2 (hd.trans ⟨fun h => h.2, fun h => ⟨he, h⟩⟩)]
      · rw [decide_eq_false he, if_neg (by decide), decide_eq_false (fun h => he (hd.1 h).1)]
    · have e : j = xs.length := by omega
      simp only [exactpplref19_Same.l0]
      rw [if_neg (by omega), List.drop_of_length_le (by omega), List.drop_of_length_le (by omega)]; simp
theorem same_f (xs ys : List Nd) (hb : xs.length < 4611686018427387904) (q : Nat) (hq : q < 4611686018427387904) (hx : ∀ n ∈ xs, n.f2.length ≤ q) (k : Nat) (hk : xs.length + q + 1 < k) : exactpplref19_Same.f k xs ys = some (decide (xs = ys)) := by
  unfold exactpplref19_Same.f
  by_cases hl : xs.length = ys.length
  · rw [if_pos (by omega)]
    have := same_l xs ys hl hb q hq hx xs.length 0 k (by omega) (by omega) hk
    simpa using this
  · rw [if_neg (by omega), decide_eq_false (fun e => hl (by rw [e]))]
/-- Same, as it is called -/
theorem sameD_calls (xs ys : List Nd) (A B : Option Addr) (c d : Nat) (w : World) (hA : k60.C w A xs.length xs) (hc : xs.length ≤ c) (hB : k60.C w B ys.length ys) (hd : ys.length ≤ d) (hb : xs.length < 4611686018427387904) (hx : ∀ n ∈ xs, n.f2.length ≤ 1073741824) :
    Calls Tryd.prog 20 #[.agg #[.slice A xs.length c], .agg #[.slice B ys.length d]] w fun e w' => e = .returned (.bool (decide (xs = ys))) ∧ Below w.heap.size w w' :=
  exactpplref19_Same.calls (xs.length + 1073741824 + 2) A c xs B d ys _ w hA hc hB hd (same_f xs ys hb 1073741824 (by decide) hx _ (by omega))
end Go.Proofs.YtopbjginpmdebaaDoor.K
-- the reference's Graph says what isGraph says
namespace Go.Proofs.YtopbjginpmdebaaDoor.K
open Go.RowKit Go.Maps Go.Proofs.YtopbjginpmdebaaDoorW.PrintWords Go.Proofs.YtopbjginpmdebaaDoorW.PrintLast Go.Proofs.YtopbjginpmdebaaDoorW.PrintMore
set_option linter.unusedVariables false
set_option linter.unusedSimpArgs false
/-- branches of one site ahead of node i have as many kids -/
def ShpAt (nodes : List Nd) (i : Nat) (s : Int) (n : Nat) (j : Nat) : Prop := ∀ k : Nat, j ≤ k → k < i → (nth nodes (k : Int)).f0 = s → (nth nodes (k : Int)).f2.length = n
/-- a kid, as the reference wants it -/
def KidR (nodes : List Nd) (i : Nat) (s c : Int) : Prop := (0 ≤ c ∧ c < (i : Int)) ∧ ¬ ((nth nodes c).f0 ≠ -1 ∧ (nth nodes c).f0 ≤ s)
theorem sd_l1 (nodes : List Nd) (i : Nat) (hi : i ≤ nodes.length) (hb : nodes.length < 4611686018427387904) (s v : Int) (ks : List Int) : ∀ (m j fuel : Nat), i - j ≤ m → j ≤ i → m < fuel →
    ∃ b, exactpplref19_sound.l1 fuel nodes (i : Int) (j : Int) s v ks = some b ∧ (b = true ↔ ShpAt nodes i s ks.length j) := by
  intro m
  induction m with
  | zero =>
    intro j fuel h1 h2 h3
    obtain ⟨f, rfl⟩ : ∃ f, fuel = f + 1 := ⟨fuel - 1, by omega⟩
    have e : j = i := by omega
    subst e
    simp only [exactpplref19_sound.l1]
    rw [if_neg (by omega)]
    exact ⟨true, rfl, fun _ k h4 h5 => by omega, fun _ => rfl⟩
  | succ m ih =>
    intro j fuel h1 h2 h3
    obtain ⟨f, rfl⟩ : ∃ f, fuel = f + 1 := ⟨fuel - 1, by omega⟩
    by_cases hj : j < i
    · simp only [exactpplref19_sound.l1]
      rw [if_pos (by omega), if_pos (by omega), if_pos (by omega), w64_succ (by omega), rd_nth]
      obtain ⟨b, hb1, hb2⟩ := ih (j + 1) f (by omega) (by omega) (by omega)
      by_cases hs : (nth nodes (j : Int)).f0 = s
      · rw [if_pos hs]
        by_cases hl : ((nth nodes (j : Int)).f2.length : Int) = (ks.length : Int)
        · rw [if_pos hl]
          refine ⟨b, hb1, hb2.trans ⟨fun h k h4 h5 h6 => ?_, fun h k h4 h5 h6 => h k (by omega) h5 h6⟩⟩
          rcases Nat.lt_or_ge j k with h7 | h7
          · exact h k h7 h5 h6
          · obtain rfl : k = j := by omega
            omega
        · rw [if_neg hl]
          exact ⟨false, rfl, (fun h => by cases h), fun h => absurd (h j (Nat.le_refl _) hj hs) (by omega)⟩
      · rw [if_neg hs]
        refine ⟨b, hb1, hb2.trans ⟨fun h k h4 h5 h6 => ?_, fun h k h4 h5 h6 => h k (by omega) h5 h6⟩⟩
        rcases Nat.lt_or_ge j k with h7 | h7
        · exact h k h7 h5 h6
        · obtain rfl : k = j := by omega
          exact absurd h6 hs
    · have e : j = i := by omega
      subst e
      simp only [exactpplref19_sound.l1]
      rw [if_neg (by omega)]
      exact ⟨true, rfl, fun _ k h4 h5 => by omega, fun _ => rfl⟩
theorem sd_l0 (nodes : List Nd) (i : Nat) (hi : i ≤ nodes.length) (hb : nodes.length < 4611686018427387904) (s v : Int) (ks : List Int) (hk : ks.length < 4611686018427387904) : ∀ (m j fuel : Nat), ks.length - j ≤ m → j ≤ ks.length → m + i + 1 < fuel →
    ∃ b, exactpplref19_sound.l0 fuel nodes (i : Int) (j : Int) s v ks = some b ∧ (b = true ↔ (∀ c ∈ ks.drop j, KidR nodes i s c) ∧ ShpAt nodes i s ks.length 0) := by
  intro m
  induction m with
  | zero =>
    intro j fuel h1 h2 h3
    obtain ⟨f, rfl⟩ : ∃ f, fuel = f + 1 := ⟨fuel - 1, by omega⟩
    have e : j = ks.length := by omega
    subst e
    simp only [exactpplref19_sound.l0]
    rw [if_neg (by omega)]
    obtain ⟨b, h4, h5⟩ := sd_l1 nodes i hi hb s v ks i 0 f (by omega) (by omega) (by omega)
    exact ⟨b, h4, h5.trans ⟨fun h => ⟨by simp, h⟩, fun h => h.2⟩⟩
  | succ m ih =>
    intro j fuel h1 h2 h3
    obtain ⟨f, rfl⟩ : ∃ f, fuel = f + 1 := ⟨fuel - 1, by omega⟩
    by_cases hj : j < ks.length
    · obtain ⟨b, hb1, hb2⟩ := ih (j + 1) f (by omega) (by omega) (by omega)
      have hd : ks.drop j = ks[j] :: ks.drop (j + 1) := List.drop_eq_getElem_cons hj
      simp only [exactpplref19_sound.l0]
      rw [if_pos (by omega), if_pos (by omega), rd_get hj, w64_succ (by omega), hd]
      have hno : ∀ h : ¬ KidR nodes i s ks[j], (false = true ↔ (∀ c ∈ ks[j] :: ks.drop (j + 1), KidR nodes i s c) ∧ ShpAt nodes i s ks.length 0) := fun h => ⟨(fun e => by cases e), fun e => absurd (e.1 _ List.mem_cons_self) h⟩
      by_cases h4 : ks[j] < 0
      · rw [if_pos h4]
        exact ⟨false, rfl, hno (fun e => by have := e.1.1; omega)⟩
      · rw [if_neg h4]
        by_cases h5 : ks[j] ≥ (i : Int)
        · rw [if_pos h5]
          exact ⟨false, rfl, hno (fun e => by have := e.1.2; omega)⟩
        · rw [if_neg h5, if_pos (by omega), if_pos (by omega), show rd_T60 nodes ks[j] = nth nodes ks[j] from rfl, exactpplref19_IsBranch.f, Option.bind_some]
          have hyes : ∀ h : KidR nodes i s ks[j], (b = true ↔ (∀ c ∈ ks[j] :: ks.drop (j + 1), KidR nodes i s c) ∧ ShpAt nodes i s ks.length 0) := fun h => hb2.trans ⟨fun e => ⟨fun c hc => (List.mem_cons.1 hc).elim (fun e2 => by rw [e2]; exact h) (e.1 c), e.2⟩, fun e => ⟨fun c hc => e.1 c (List.mem_cons_of_mem _ hc), e.2⟩⟩
          by_cases h6 : (nth nodes ks[j]).f0 = -1
          · rw [show ((nth nodes ks[j]).f0 != -1) = false by simp [h6], if_neg (by decide)]
            exact ⟨b, hb1, hyes ⟨⟨by omega, by omega⟩, fun e => e.1 h6⟩⟩
          · rw [show ((nth nodes ks[j]).f0 != -1) = true by simp [h6], if_pos rfl]
            by_cases h7 : (nth nodes ks[j]).f0 ≤ s
            · rw [if_pos h7]
              exact ⟨false, rfl, hno (fun e => e.2 ⟨h6, h7⟩)⟩
            · rw [if_neg h7]
              exact ⟨b, hb1, hyes ⟨⟨by omega, by omega⟩, fun e => h7 e.2⟩⟩
    · have e : j = ks.length := by omega
      subst e
      simp only [exactpplref19_sound.l0]
      rw [if_neg (by omega)]
      obtain ⟨b, h4, h5⟩ := sd_l1 nodes i hi hb s v ks i 0 f (by omega) (by omega) (by omega)
      exact ⟨b, h4, h5.trans ⟨fun h => ⟨by simp, h⟩, fun h => h.2⟩⟩
/-- node i is as a graph demands it, as the reference says it -/
def Snd (nodes : List Nd) (i : Nat) : Prop := ((nth nodes (i : Int)).f0 = -1 ∧ (nth nodes (i : Int)).f2 = [] ∧ -1073741824 ≤ (nth nodes (i : Int)).f1 ∧ (nth nodes (i : Int)).f1 ≤ 1073741824) ∨
  ((0 ≤ (nth nodes (i : Int)).f0 ∧ (nth nodes (i : Int)).f0 < 64 ∧ (nth nodes (i : Int)).f1 = 0 ∧ 1 ≤ (nth nodes (i : Int)).f2.length ∧ (nth nodes (i : Int)).f2.length ≤ 16) ∧ (∀ c ∈ (nth nodes (i : Int)).f2, KidR nodes i (nth nodes (i : Int)).f0 c) ∧ ShpAt nodes i (nth nodes (i : Int)).f0 (nth nodes (i : Int)).f2.length 0)
theorem sd_f (nodes : List Nd) (i : Nat) (hi : i < nodes.length) (hb : nodes.length < 4611686018427387904) (hk : (nth nodes (i : Int)).f2.length < 4611686018427387904) (fuel : Nat) (hf : (nth nodes (i : Int)).f2.length + i + 4 < fuel) :
    ∃ b, exactpplref19_sound.f fuel nodes (i : Int) = some b ∧ (b = true ↔ Snd nodes i) := by
  obtain ⟨f, rfl⟩ : ∃ f, fuel = f + 1 := ⟨fuel - 1, by omega⟩
  unfold exactpplref19_sound.f
  rw [if_pos (by omega), if_pos (by omega), rd_nth]
  have hnd : nth nodes (i : Int) = nth nodes (i : Int) := rfl
  unfold Snd
  generalize nth nodes (i : Int) = n at hk hf ⊢
  rw [exactpplref19_IsBranch.f, Option.bind_some]
  obtain ⟨b, h4, h5⟩ := sd_l0 nodes i (by omega) hb n.f0 n.f1 n.f2 hk n.f2.length 0 f (by omega) (by omega) (by omega)
  rw [List.drop_zero] at h5
  simp only [exactpplref19_sound.j0, if_true]
  by_cases h6 : n.f0 = -1
  · rw [show (n.f0 != -1) = false by simp [h6], if_neg (by decide)]
    have h0 : ((n.f2.length : Int) = 0) ↔ n.f2 = [] := by rw [← List.length_eq_zero_iff]; omega
    by_cases h7 : (n.f2.length : Int) = 0
    · rw [if_pos h7]
      by_cases h8 : n.f1 ≥ -1073741824
      · rw [if_pos h8]
        refine ⟨_, rfl, ?_⟩
        rw [decide_eq_true_eq]
        exact ⟨fun h => .inl ⟨h6, h0.1 h7, h8, h⟩, fun h => h.elim (fun e => e.2.2.2) (fun e => by omega)⟩
      · rw [if_neg h8]
        exact ⟨_, rfl, (fun h => by cases h), fun h => h.elim (fun e => by omega) (fun e => by omega)⟩
    · rw [if_neg h7]
      exact ⟨_, rfl, (fun h => by cases h), fun h => h.elim (fun e => absurd (h0.2 e.2.1) h7) (fun e => by omega)⟩
  · rw [show (n.f0 != -1) = true by simp [h6], if_pos rfl]
    have hno : ∀ h : ¬ (0 ≤ n.f0 ∧ n.f0 < 64 ∧ n.f1 = 0 ∧ 1 ≤ n.f2.length ∧ n.f2.length ≤ 16), (false = true ↔ (n.f0 = -1 ∧ n.f2 = [] ∧ -1073741824 ≤ n.f1 ∧ n.f1 ≤ 1073741824) ∨ ((0 ≤ n.f0 ∧ n.f0 < 64 ∧ n.f1 = 0 ∧ 1 ≤ n.f2.length ∧ n.f2.length ≤ 16) ∧ (∀ c ∈ n.f2, KidR nodes i n.f0 c) ∧ ShpAt nodes i n.f0 n.f2.length 0)) :=
      fun h => ⟨(fun e => by cases e), fun e => e.elim (fun e => absurd e.1 h6) (fun e => absurd e.1 h)⟩
    by_cases h7 : n.f0 < 0
    · rw [if_pos h7]; exact ⟨false, rfl, hno (by omega)⟩
    · rw [if_neg h7]
      by_cases h8 : n.f0 ≥ 64
      · rw [if_pos h8]; exact ⟨false, rfl, hno (by omega)⟩
      · rw [if_neg h8]
        by_cases h9 : n.f1 = 0
        · rw [if_pos h9]
          by_cases h10 : (n.f2.length : Int) < 1
          · rw [if_pos h10]; exact ⟨false, rfl, hno (by omega)⟩
          · rw [if_neg h10]
            by_cases h11 : (n.f2.length : Int) > 16
            · rw [decide_eq_true h11, if_pos rfl]; exact ⟨false, rfl, hno (by omega)⟩
            · rw [decide_eq_false h11, if_neg (by decide)]
              exact ⟨b, h4, h5.trans ⟨fun h => .inr ⟨by omega, h⟩, fun h => h.elim (fun e => absurd e.1 h6) (fun e => e.2)⟩⟩
        · rw [if_neg h9]; exact ⟨false, rfl, hno (fun e => h9 e.2.2.1)⟩
theorem gr_l0 (nodes : List Nd) (hb : nodes.length < 4611686018427387904) (q : Nat) (hq : q < 4611686018427387904) (hx : ∀ n ∈ nodes, n.f2.length ≤ q) : ∀ (m j fuel : Nat), nodes.length - j ≤ m → j ≤ nodes.length → m + q + nodes.length + 5 < fuel →
    ∃ b, exactpplref19_Graph.l0 fuel nodes (j : Int) = some b ∧ (b = true ↔ (∀ i : Nat, j ≤ i → i < nodes.length → Snd nodes i) ∧ 0 < nodes.length) := by
  intro m
  induction m with
  | zero =>
    intro j fuel h1 h2 h3
    obtain ⟨f, rfl⟩ : ∃ f, fuel = f + 1 := ⟨fuel - 1, by omega⟩
    have e : j = nodes.length := by omega
    subst e
    simp only [exactpplref19_Graph.l0]
    rw [if_neg (by omega)]
    exact ⟨_, rfl, by rw [decide_eq_true_eq]; exact ⟨fun h => ⟨fun i h4 h5 => by omega, by omega⟩, fun h => by omega⟩⟩
  | succ m ih =>
    intro j fuel h1 h2 h3
    obtain ⟨f, rfl⟩ : ∃ f, fuel = f + 1 := ⟨fuel - 1, by omega⟩
    by_cases hj : j < nodes.length
    · have hmem : nth nodes (j : Int) ∈ nodes := by rw [nth_lt hj]; exact List.getElem_mem hj
      have hl := hx _ hmem
      obtain ⟨b, h4, h5⟩ := sd_f nodes j hj hb (by omega) f (by omega)
      simp only [exactpplref19_Graph.l0]
      rw [if_pos (by omega), h4, Option.bind_some, w64_succ (by omega)]
      cases b with
      | true =>
        obtain ⟨c, h6, h7⟩ := ih (j + 1) f (by omega) (by omega) (by omega)
        rw [if_pos rfl]
        refine ⟨c, h6, h7.trans ⟨fun h => ⟨fun i h8 h9 => ?_, h.2⟩, fun h => ⟨fun i h8 h9 => h.1 i (by omega) h9, h.2⟩⟩⟩
        rcases Nat.lt_or_ge j i with h10 | h10
        · exact h.1 i h10 h9
        · obtain rfl : i = j := by omega
          exact h5.1 rfl
      | false =>
        rw [if_neg (by decide)]
        exact ⟨false, rfl, (fun h => by cases h), fun h => h5.2 (h.1 j (Nat.le_refl _) hj)⟩
    · have e : j = nodes.length := by omega
      subst e
      simp only [exactpplref19_Graph.l0]
      rw [if_neg (by omega)]
      exact ⟨_, rfl, by rw [decide_eq_true_eq]; exact ⟨fun h => ⟨fun i h4 h5 => by omega, by omega⟩, fun h => by omega⟩⟩
/-- what Shapes accepts -/
theorem shp_iff : ∀ (l : List Nd) (g : PM), (shp g l).isSome = true ↔ (∀ n ∈ l, 0 ≤ n.f0 → ∀ v, g n.f0 = some v → v = (n.f2.length : Int)) ∧ l.Pairwise (fun a b => 0 ≤ a.f0 → a.f0 = b.f0 → a.f2.length = b.f2.length)
  | [], g => by simp [shp]
  | n :: l, g => by
    simp only [shp]
    by_cases h0 : n.f0 < 0
    · rw [if_pos h0, shp_iff l g, List.pairwise_cons]
      constructor
      · rintro ⟨h1, h2⟩
        exact ⟨fun m hm h3 => (List.mem_cons.1 hm).elim (fun e => by subst e; omega) (fun h => h1 m h h3), fun b _ h3 => by omega, h2⟩
      · rintro ⟨h1, _, h2⟩
        exact ⟨fun m hm => h1 m (List.mem_cons_of_mem _ hm), h2⟩
    · rw [if_neg h0]
      by_cases h1 : (g n.f0).isSome = true ∧ (g n.f0).getD 0 ≠ (n.f2.length : Int)
      · rw [if_pos h1]
        constructor
        · intro h; cases h
        · rintro ⟨h2, _⟩
          obtain ⟨v, hv⟩ := Option.isSome_iff_exists.1 h1.1
          have := h2 n List.mem_cons_self (by omega) v hv
          rw [hv] at h1
          exact absurd this h1.2
      · rw [if_neg h1, shp_iff l _, List.pairwise_cons]
        have hg : ∀ v, g n.f0 = some v → v = (n.f2.length : Int) := by
          intro v hv
          refine Classical.byContradiction fun hne => h1 ⟨by rw [hv]; rfl, by rw [hv]; exact hne⟩
        constructor
        · rintro ⟨h2, h3⟩
          refine ⟨fun m hm h4 v hv => ?_, fun b hb h4 h5 => ?_, h3⟩
          · rcases List.mem_cons.1 hm with rfl | hm
            · exact hg v hv
            · by_cases e : m.f0 = n.f0
              · have := h2 m hm h4 (n.f2.length : Int) (by unfold upd; rw [if_pos e])
                rw [e] at hv
                rw [hg v hv]; exact this
              · exact h2 m hm h4 v (by unfold upd; rw [if_neg e]; exact hv)
          · have := h2 b hb (by omega) (n.f2.length : Int) (by unfold upd; rw [if_pos h5.symm])
            omega
        · rintro ⟨h2, h3, h4⟩
          refine ⟨fun m hm h5 v hv => ?_, h4⟩
          unfold upd at hv
          by_cases e : m.f0 = n.f0
          · rw [if_pos e] at hv
            have := h3 m hm (by omega) e.symm
            injection hv with hv
            omega
          · rw [if_neg e] at hv
            exact h2 m (List.mem_cons_of_mem _ hm) h5 v hv
theorem gr_snd (nodes : List Nd) : grB nodes = true ↔ (∀ i : Nat, 0 ≤ i → i < nodes.length → Snd nodes i) ∧ 0 < nodes.length := by
  unfold grB
  rw [Bool.and_eq_true, Bool.and_eq_true, decide_eq_true_eq, shp_iff, List.all_eq_true]
  constructor
  · rintro ⟨h1, h2, _, h3⟩
    have hlb : ∀ i : Nat, i < nodes.length → lfB (nth nodes (i : Int)) = true ∨ brB nodes (i : Int) (nth nodes (i : Int)) = true := fun i hi => by have := h1 i (List.mem_range.2 hi); simpa using this
    refine ⟨fun i _ hi => ?_, h2⟩
    rcases hlb i hi with h4 | h4
    · exact .inl (lf_iff.1 h4)
    · obtain ⟨h5, h6⟩ := br_iff.1 h4
      refine .inr ⟨h5, fun c hc => ⟨(h6 c hc).1, fun e => (h6 c hc).2 ⟨?_, e.2⟩⟩, fun k _ hk he => ?_⟩
      · have h7 := (h6 c hc).1
        rcases hlb c.toNat (by omega) with h8 | h8
        · have := (lf_iff.1 h8).1
          rw [show ((c.toNat : Nat) : Int) = c by omega] at this
          exact absurd this e.1
        · have := (br_iff.1 h8).1.1
          rw [show ((c.toNat : Nat) : Int) = c by omega] at this
          exact this
      · have h7 := (List.pairwise_iff_getElem.1 h3) k i (by omega) hi hk
        rw [← nth_lt (show k < nodes.length by omega), ← nth_lt hi] at h7
        exact h7 (by omega) he
  · rintro ⟨h1, h2⟩
    have hf0 : ∀ i : Nat, i < nodes.length → (nth nodes (i : Int)).f0 = -1 ∨ 0 ≤ (nth nodes (i : Int)).f0 := fun i hi => (h1 i (Nat.zero_le _) hi).elim (fun e => .inl e.1) (fun e => .inr e.1.1)
    refine ⟨fun i hi => ?_, h2, (fun n _ _ v hv => by cases hv), List.pairwise_iff_getElem.2 fun i j hi hj hij h3 h4 => ?_⟩
    · have hi := List.mem_range.1 hi
      rw [Bool.or_eq_true]
      rcases h1 i (Nat.zero_le _) hi with h3 | h3
      · exact .inl (lf_iff.2 h3)
      · refine .inr (br_iff.2 ⟨h3.1, fun c hc => ⟨(h3.2.1 c hc).1, fun e => (h3.2.1 c hc).2 ⟨by omega, e.2⟩⟩⟩)
    · rw [← nth_lt hi] at h3 h4 ⊢
      rw [← nth_lt hj] at h4 ⊢
      rcases h1 j (Nat.zero_le _) hj with h5 | h5
      · omega
      · exact h5.2.2 i (Nat.zero_le _) hij h4
theorem graph_f (nodes : List Nd) (hb : nodes.length < 4611686018427387904) (q : Nat) (hq : q < 4611686018427387904) (hx : ∀ n ∈ nodes, n.f2.length ≤ q) (fuel : Nat) (hf : q + nodes.length + nodes.length + 5 < fuel) : exactpplref19_Graph.f fuel nodes = some (grB nodes) := by
  unfold exactpplref19_Graph.f
  obtain ⟨b, h1, h2⟩ := gr_l0 nodes hb q hq hx nodes.length 0 fuel (by omega) (by omega) (by omega)
  have : b = grB nodes := by rw [Bool.eq_iff_iff, h2, gr_snd]
  rw [← this]
  exact h1
end Go.Proofs.YtopbjginpmdebaaDoor.K
-- tables of graphs: what is taken out of one is a graph, and canonical
namespace Go.Proofs.YtopbjginpmdebaaDoor.K
open Go.RowKit Go.Maps Go.Proofs.YtopbjginpmdebaaDoorW.PrintWords Go.Proofs.YtopbjginpmdebaaDoorW.PrintLast Go.Proofs.YtopbjginpmdebaaDoorW.PrintMore
set_option linter.unusedVariables false
set_option linter.unusedSimpArgs false
/-- a graph whose branches of site s have sh s kids -/
structure GrS (sh : Int → Nat) (l : List Nd) : Prop where
  nd : ∀ i : Nat, i < l.length → lfB (nth l (i : Int)) = true ∨ (brB l (i : Int) (nth l (i : Int)) = true ∧ (nth l (i : Int)).f2.length = sh (nth l (i : Int)).f0)
theorem gr_sh {l : List Nd} (h : grB l = true) : ∃ sh, GrS sh l := by
  have hp : l.Pairwise (fun a b => 0 ≤ a.f0 → a.f0 = b.f0 → a.f2.length = b.f2.length) := by
    unfold grB at h
    rw [Bool.and_eq_true, Bool.and_eq_true, shp_iff] at h
    exact h.2.2.2
  have hp' : ∀ i j : Nat, i < l.length → j < l.length → 0 ≤ (nth l (i : Int)).f0 → (nth l (i : Int)).f0 = (nth l (j : Int)).f0 → (nth l (i : Int)).f2.length = (nth l (j : Int)).f2.length := by
    intro i j hi hj h0 he
    rw [List.pairwise_iff_getElem] at hp
    rw [nth_lt hi] at h0 he ⊢
    rw [nth_lt hj] at he ⊢
    rcases Nat.lt_trichotomy i j with h1 | h1 | h1
    · exact hp i j hi hj h1 h0 he
    · subst h1; rfl
    · exact (hp j i hj hi h1 (by omega) he.symm).symm
  refine ⟨fun s => if hx : ∃ i : Nat, i < l.length ∧ (nth l (i : Int)).f0 = s then (nth l ((Classical.choose hx : Nat) : Int)).f2.length else 0, ⟨fun i hi => ?_⟩⟩
  rcases gr_nd h hi with h1 | h1
  · exact .inl h1
  · refine .inr ⟨h1, ?_⟩
    have hx : ∃ j : Nat, j < l.length ∧ (nth l (j : Int)).f0 = (nth l (i : Int)).f0 := ⟨i, hi, rfl⟩
    have hs := Classical.choose_spec hx
    rw [dif_pos hx]
    exact hp' i _ hi hs.1 (br_iff.1 h1).1.1 hs.2.symm
theorem GrS.gr {sh : Int → Nat} {l : List Nd} (h : GrS sh l) (h0 : 0 < l.length) : grB l = true := by
  unfold grB
  rw [Bool.and_eq_true, Bool.and_eq_true, decide_eq_true_eq, shp_iff, List.all_eq_true]
  have hl : ∀ i : Nat, i < l.length → 0 ≤ (nth l (i : Int)).f0 → (nth l (i : Int)).f2.length = sh (nth l (i : Int)).f0 := by
    intro i hi h1
    rcases h.nd i hi with h2 | h2
    · have := (lf_iff.1 h2).1; omega
    · exact h2.2
  refine ⟨fun i hi => ?_, h0, (fun n _ _ v hv => by cases hv), List.pairwise_iff_getElem.2 fun i j hi hj hij h3 h4 => ?_⟩
  · rw [Bool.or_eq_true]
    rcases h.nd i (List.mem_range.1 hi) with h2 | h2
    · exact .inl h2
    · exact .inr h2.1
  · rw [← nth_lt hi] at h3 h4 ⊢
    rw [← nth_lt hj] at h4 ⊢
    rw [hl i hi h3, hl j hj (by omega), h4]
/-- a table of nodes of graphs -/
structure Tb (sh : Int → Nat) (u : List Nd) : Prop where
  red : Red u
  ord : ∀ i : Nat, i < u.length → ∀ k ∈ (nth u (i : Int)).f2, (nth u k).f0 < 0 ∨ (nth u (i : Int)).f0 < (nth u k).f0
  ok : ∀ n ∈ u, (n.f0 = -1 ∧ -1073741824 ≤ n.f1 ∧ n.f1 ≤ 1073741824) ∨ (0 ≤ n.f0 ∧ n.f0 < 64 ∧ n.f2.length = sh n.f0 ∧ n.f2.length ≤ 16)
theorem tb_nil (sh : Int → Nat) : Tb sh [] := ⟨red_nil, fun i hi => by simp at hi, by simp⟩
theorem Tb.tbl {sh : Int → Nat} {u : List Nd} (h : Tb sh u) : Tbl u [] := ⟨h.red.down, h.red.nodup, by simp⟩
theorem Tb.place0 {sh : Int → Nat} {u : List Nd} (h : Tb sh u) {n : Nd} (hk : ∀ k ∈ n.f2, 0 ≤ k ∧ k < (u.length : Int)) (hr : Red (place0 u n).1) (ho : ∀ k ∈ n.f2, (nth u k).f0 < 0 ∨ n.f0 < (nth u k).f0)
    (hok : (n.f0 = -1 ∧ -1073741824 ≤ n.f1 ∧ n.f1 ≤ 1073741824) ∨ (0 ≤ n.f0 ∧ n.f0 < 64 ∧ n.f2.length = sh n.f0 ∧ n.f2.length ≤ 16)) : Tb sh (K.place0 u n).1 := by
  refine ⟨hr, ?_, ?_⟩
  · unfold K.place0
    split
    · exact h.ord
    · intro i hi k hk'
      simp only at hi hk' ⊢
      rcases Nat.lt_or_ge i u.length with h1 | h1
      · rw [nth_append_left (u := u) (v := [n]) (a := (i : Int)) (by omega) (by omega)] at hk' ⊢
        have h2 := h.red.down i h1 k hk'
        rw [nth_append_left (u := u) (v := [n]) (a := k) h2.1 (by omega)]
        exact h.ord i h1 k hk'
      · have e : i = u.length := by simp at hi; omega
        subst e
        have e2 : nth (u ++ [n]) ((u.length : Nat) : Int) = n := by simp [nth]
        rw [e2] at hk' ⊢
        rw [nth_append_left (u := u) (v := [n]) (a := k) (hk k hk').1 (hk k hk').2]
        exact ho k hk'
  · unfold K.place0
    split
    · exact h.ok
    · intro m hm
      rcases List.mem_append.1 hm with hm | hm
      · exact h.ok m hm
      · rw [List.mem_singleton.1 hm]; exact hok
/-- the node that stands for another is a leaf or no higher -/
def AtOk (l u : List Nd) (at_ : List Int) (k : Nat) : Prop := ∀ c : Nat, c < k → (nth u (lk at_ (c : Int))).f0 < 0 ∨ (0 ≤ (nth l (c : Int)).f0 ∧ (nth l (c : Int)).f0 ≤ (nth u (lk at_ (c : Int))).f0)
theorem GrS.fit {sh : Int → Nat} {l : List Nd} (h : GrS sh l) : Fit l := by
  refine ⟨fun i hi k hk => ?_, fun n hn h0 => ?_⟩
  · rcases h.nd i hi with h1 | h1
    · rw [(lf_iff.1 h1).2.1] at hk; cases hk
    · exact ((br_iff.1 h1.1).2 k hk).1
  · obtain ⟨i, hi, rfl⟩ := mem_nth hn
    rcases h.nd i hi with h1 | h1
    · have := (lf_iff.1 h1).1; omega
    · intro e
      have := (br_iff.1 h1.1).1
      rw [e] at this
      simp at this
theorem sameK_mem {l : List Int} (h : l ≠ []) : l.headD 0 ∈ l := by
  cases l with
  | nil => exact absurd rfl h
  | cons a l => exact List.mem_cons_self
theorem lk_snoc_old {at_ : List Int} {x : Int} {c : Nat} (h : c < at_.length) : lk (at_ ++ [x]) (c : Int) = lk at_ (c : Int) := by
  unfold lk
  rw [List.getD_eq_getElem?_getD, List.getD_eq_getElem?_getD, List.getElem?_append_left (by omega)]
theorem lk_snoc_new (at_ : List Int) (x : Int) : lk (at_ ++ [x]) ((at_.length : Nat) : Int) = x := by
  unfold lk
  rw [List.getD_eq_getElem?_getD, Int.toNat_natCast, List.getElem?_append_right (Nat.le_refl _)]
  simp
/-- one node more: what stands for it -/
theorem Tb.step {sh : Int → Nat} {l u : List Nd} {at_ : List Int} {k : Nat} (h : Tb sh u) (hl : GrS sh l) (hk : k < l.length) (hat : at_.length = k) (hA : AtOk l u at_ k) (hT : ∀ a ∈ at_, 0 ≤ a ∧ a < (u.length : Int)) :
    Tb sh (place1 u at_ (nth l (k : Int))).1 ∧ AtOk l (place1 u at_ (nth l (k : Int))).1 (at_ ++ [(place1 u at_ (nth l (k : Int))).2]) (k + 1) := by
  have hfit := hl.fit
  have hmem : nth l (k : Int) ∈ l := by rw [nth_lt hk]; exact List.getElem_mem hk
  have hkr : ∀ c ∈ (nth l (k : Int)).f2, 0 ≤ c ∧ c < (at_.length : Int) := fun c hc => by rw [hat]; exact hfit.1 k hk c hc
  have hred := h.red.place1 hT (n := nth l (k : Int)) hkr (hfit.2 _ hmem)
  have hkk := (Tbl.mk h.red.down h.red.nodup hT).kids hkr
  -- the old ones stay
  have hold : ∀ (x : Int) (v : List Nd), u <+: v → ∀ c : Nat, c < k → (nth v (lk (at_ ++ [x]) (c : Int))).f0 < 0 ∨ (0 ≤ (nth l (c : Int)).f0 ∧ (nth l (c : Int)).f0 ≤ (nth v (lk (at_ ++ [x]) (c : Int))).f0) := by
    intro x v hv c hc
    rw [lk_snoc_old (by omega)]
    have h1 := hT _ (lk_mem (at_ := at_) (c := (c : Int)) (by omega) (by omega))
    rw [nth_prefix hv h1.1 h1.2]
    exact hA c hc
  have hnewk : ∀ (x : Int) (v : List Nd), u <+: v → ((nth v x).f0 < 0 ∨ (0 ≤ (nth l (k : Int)).f0 ∧ (nth l (k : Int)).f0 ≤ (nth v x).f0)) → AtOk l v (at_ ++ [x]) (k + 1) := by
    intro x v hv hx c hc
    rcases Nat.lt_or_ge c k with h1 | h1
    · exact hold x v hv c h1
    · have e : c = at_.length := by omega
      subst e
      rw [lk_snoc_new, hat]
      exact hx
  rcases hl.nd k hk with h1 | ⟨h1, h2⟩
  · obtain ⟨l0, l1, l2, l3⟩ := lf_iff.1 h1
    have e : place1 u at_ (nth l (k : Int)) = K.place0 u ⟨-1, (nth l (k : Int)).f1, []⟩ := by unfold K.place1; rw [if_pos (by omega)]
    rw [e] at hred ⊢
    refine ⟨h.place0 (by simp) hred (by simp) (.inl ⟨rfl, l2, l3⟩), hnewk _ _ (place0_pre _ _) (.inl ?_)⟩
    rw [place0_nth]
    show (-1 : Int) < 0
    omega
  · obtain ⟨⟨b0, b1, b2, b3, b4⟩, b5⟩ := br_iff.1 h1
    have hlow : ∀ c ∈ (nth l (k : Int)).f2, (nth u (lk at_ c)).f0 < 0 ∨ (nth l (k : Int)).f0 < (nth u (lk at_ c)).f0 := by
      intro c hc
      obtain ⟨⟨c0, c1⟩, c2⟩ := b5 c hc
      rcases hA c.toNat (by omega) with h3 | h3
      · rw [show ((c.toNat : Nat) : Int) = c by omega] at h3
        exact .inl h3
      · rw [show ((c.toNat : Nat) : Int) = c by omega] at h3
        exact .inr (by omega)
    have hne : (nth l (k : Int)).f2 ≠ [] := by intro e; rw [e] at b3; simp at b3
    have e : place1 u at_ (nth l (k : Int)) = placeB u (nth l (k : Int)).f0 ((nth l (k : Int)).f2.map (lk at_)) := by unfold K.place1; rw [if_neg (by omega)]
    rw [e] at hred ⊢
    by_cases hs : sameK ((nth l (k : Int)).f2.map (lk at_)) = true
    · have e2 : placeB u (nth l (k : Int)).f0 ((nth l (k : Int)).f2.map (lk at_)) = (u, ((nth l (k : Int)).f2.map (lk at_)).headD 0) := by unfold K.placeB; rw [if_pos hs]
      rw [e2]
      refine ⟨h, hnewk _ _ (List.prefix_refl _) ?_⟩
      obtain ⟨c, hc, hce⟩ := List.mem_map.1 (sameK_mem (l := (nth l (k : Int)).f2.map (lk at_)) (by simpa using hne))
      show (nth u (((nth l (k : Int)).f2.map (lk at_)).headD 0)).f0 < 0 ∨ (0 ≤ (nth l (k : Int)).f0 ∧ (nth l (k : Int)).f0 ≤ (nth u (((nth l (k : Int)).f2.map (lk at_)).headD 0)).f0)
      rw [← hce]
      rcases hlow c hc with h3 | h3
      · exact .inl h3
      · exact .inr ⟨b0, by omega⟩
    · have e2 : placeB u (nth l (k : Int)).f0 ((nth l (k : Int)).f2.map (lk at_)) = K.place0 u ⟨(nth l (k : Int)).f0, 0, (nth l (k : Int)).f2.map (lk at_)⟩ := by unfold K.placeB; rw [if_neg hs]
      rw [e2] at hred ⊢
      refine ⟨h.place0 hkk hred (fun q hq => ?_) (.inr ⟨b0, b1, by simpa using h2, by simpa using b4⟩), hnewk _ _ (place0_pre _ _) (.inr ⟨b0, ?_⟩)⟩
      · obtain ⟨c, hc, rfl⟩ := List.mem_map.1 hq
        exact hlow c hc
      · rw [place0_nth]
        exact Int.le_refl _
theorem imp_tb {sh : Int → Nat} {l u : List Nd} (h : Tb sh u) (hl : GrS sh l) : ∀ k, k ≤ l.length → Tb sh (imp u [] (l.take k)).1 ∧ AtOk l (imp u [] (l.take k)).1 (imp u [] (l.take k)).2 k := by
  intro k
  induction k with
  | zero => intro _; exact ⟨by simpa [imp] using h, fun c hc => by omega⟩
  | succ k ih =>
    intro hk
    obtain ⟨h1, h2⟩ := ih (by omega)
    have h3 := (imp_tbl hl.fit h.tbl k (by omega)).1
    rw [take_snoc' (by omega), imp_snoc]
    exact h1.step hl (by omega) (by rw [imp_len]; simp; omega) h2 h3.at_lt
theorem Tb.expo {sh : Int → Nat} {u : List Nd} (h : Tb sh u) {r : Nat} (hr : r < u.length) : Tb sh (K.expo u (r : Nat)) := by
  obtain ⟨g, hP, _, _⟩ := expo_pl h.red.down hr
  have hnode : ∀ a : Nat, a < (K.expo u (r : Nat)).length → ∃ i : Int, g i = some (a : Int) := hP.all
  refine ⟨hP.red h.red, fun a ha k hk => ?_, fun n hn => ?_⟩
  · obtain ⟨i, hi⟩ := hnode a ha
    obtain ⟨i0, _, i2, _, i4, i5⟩ := hP.node i _ hi
    simp only at i4 i5
    rw [i4] at hk ⊢
    obtain ⟨c, hc, rfl⟩ := List.mem_map.1 hk
    obtain ⟨b, hb, _⟩ := i5 c hc
    obtain ⟨_, b1, _, b3, b4, _⟩ := hP.node c b hb
    simp only at b4
    simp only [hb, Option.getD_some]
    rw [b4]
    have := h.ord i.toNat (by omega) c (by rw [show ((i.toNat : Nat) : Int) = i by omega]; exact hc)
    rw [show ((i.toNat : Nat) : Int) = i by omega] at this
    exact this
  · obtain ⟨a, ha, rfl⟩ := mem_nth hn
    obtain ⟨i, hi⟩ := hnode a ha
    obtain ⟨i0, _, i2, _, i4, _⟩ := hP.node i _ hi
    simp only at i4
    rw [i4]
    have := h.ok _ (nth_mem i0 i2)
    simpa [mp] using this
theorem Tb.grs {sh : Int → Nat} {d : List Nd} (h : Tb sh d) : GrS sh d := by
  refine ⟨fun i hi => ?_⟩
  have hm : nth d (i : Int) ∈ d := by rw [nth_lt hi]; exact List.getElem_mem hi
  rcases h.ok _ hm with h1 | h1
  · exact .inl (lf_iff.2 ⟨h1.1, (h.red.leafy _ hm (by omega)).2, h1.2.1, h1.2.2⟩)
  · have hf := h.red.full _ hm h1.1
    refine .inr ⟨br_iff.2 ⟨⟨h1.1, h1.2.1, hf.2, List.length_pos_iff.2 hf.1, h1.2.2.2⟩, fun k hk => ⟨h.red.down i hi k hk, fun e => ?_⟩⟩, h1.2.2.1⟩
    rcases h.ord i hi k hk with h2 | h2 <;> omega
theorem Tb.can {sh : Int → Nat} {u : List Nd} (h : Tb sh u) {r : Nat} (hr : r < u.length) : grB (K.expo u (r : Nat)) = true ∧ Can (K.expo u (r : Nat)) := by
  have hc := expo_can h.red hr
  exact ⟨(h.expo hr).grs.gr hc.ne, hc⟩
theorem can_cn {d : List Nd} (hg : grB d = true) (hc : Can d) : cn d = d := by
  have := imp_expo hc red_nil
  unfold cn
  rw [(gr_root hg).1] at this
  exact this
theorem cn_tb {l : List Nd} (h : grB l = true) : ∃ sh, GrS sh l ∧ Tb sh (imp [] [] l).1 := by
  obtain ⟨sh, hs⟩ := gr_sh h
  have := (imp_tb (tb_nil sh) hs l.length (Nat.le_refl _)).1
  rw [List.take_length] at this
  exact ⟨sh, hs, this⟩
theorem cn_gr {l : List Nd} (h : grB l = true) : grB (cn l) = true ∧ Can (cn l) := by
  obtain ⟨sh, _, ht⟩ := cn_tb h
  exact ht.can (gr_root h).2
theorem cn_cn {l : List Nd} (h : grB l = true) : cn (cn l) = cn l := can_cn (cn_gr h).1 (cn_gr h).2
/-- a diagram that Validate accepts -/
theorem val_ok {l : List Nd} (h : valE l = 0) : grB l = true ∧ cn l = l ∧ l.length ≤ 20000 := by
  unfold valE at h
  by_cases h0 : redE l = 0
  · rw [if_pos h0] at h
    have hg : grB l = true := by
      unfold redE at h0
      by_cases hg : grB l = true
      · exact hg
      · rw [if_neg hg] at h0; cases h0
    have hc : cn l = l := by
      by_cases hq : cn l = l
      · exact hq
      · rw [if_neg hq] at h; cases h
    refine ⟨hg, hc, ?_⟩
    unfold redE at h0
    rw [if_pos hg, hc] at h0
    by_cases hl : l.length ≤ 20000
    · exact hl
    · rw [if_neg hl] at h0; cases h0
  · rw [if_neg h0] at h; exact absurd h h0
theorem val_of {l : List Nd} (hg : grB l = true) (hc : cn l = l) (hl : l.length ≤ 20000) : valE l = 0 ∧ redE l = 0 ∧ redL l = l := by
  have h0 : redE l = 0 := by unfold redE; rw [if_pos hg, hc, if_pos hl]
  refine ⟨?_, h0, ?_⟩
  · unfold valE; rw [if_pos h0, if_pos hc]
  · unfold redL; rw [if_pos h0, hc]
theorem red_settles {l : List Nd} (h : redE l = 0) : valE (redL l) = 0 ∧ redE (redL l) = 0 ∧ redL (redL l) = redL l := by
  have hg : grB l = true := by
    unfold redE at h
    by_cases hg : grB l = true
    · exact hg
    · rw [if_neg hg] at h; cases h
  have e : redL l = cn l := by unfold redL; rw [if_pos h]
  rw [e]
  exact val_of (cn_gr hg).1 (cn_cn hg) (by rw [← e]; exact redL_kids)
theorem gr_ok {l : List Nd} (h : grB l = true) (hl : l.length ≤ 1000000) : ndOk l = true := by
  unfold ndOk
  rw [Bool.and_eq_true, List.all_eq_true]
  refine ⟨fun n hn => decide_eq_true ?_, decide_eq_true (by omega)⟩
  have hk := gr_kids h n hn
  obtain ⟨i, hi, rfl⟩ := mem_nth hn
  rcases gr_nd h hi with h1 | h1
  · have := lf_iff.1 h1; omega
  · have := (br_iff.1 h1).1; omega
end Go.Proofs.YtopbjginpmdebaaDoor.K
-- exactpplref19.Place
namespace Go.Proofs.YtopbjginpmdebaaDoor.K
open Go.RowKit Go.Maps Go.Proofs.YtopbjginpmdebaaDoorW.PrintWords Go.Proofs.YtopbjginpmdebaaDoorW.PrintLast Go.Proofs.YtopbjginpmdebaaDoorW.PrintMore
set_option linter.unusedVariables false
set_option linter.unusedSimpArgs false
/-- the reference's Place -/
def plR (u : List Nd) (n : Nd) : List Nd × Int := if n.f0 ≠ -1 ∧ sameK n.f2 = true then (u, n.f2.headD 0) else place0 u n
/-- what is the call's own, or was the row's -/
def OwnOr (w : World) (v vu : Value) : Prop := v.ownBlock = vu.ownBlock ∨ ∃ b, v.ownBlock = some b ∧ w.heap.size ≤ b
/-- how Place ends -/
def PlPost (base : Nat) (ok : Nat → Prop) (vu : Value) (w : World) (r : List Nd × Int) (e : Ending) (w' : World) : Prop := ∃ v', e = .returned (.tuple #[v', .int .i64 r.2]) ∧ k60.R 60 w' base ok v' r.1 ∧ w.grownBy w' vu.ownBlock ∧ OwnOr w v' vu
theorem grown_below' {w W : World} {x : Option Nat} (hb : Below w.heap.size w W) : w.grownBy W x := ⟨hb.os, hb.tape, hb.output, hb.size, fun j hj _ => hb.block j hj⟩
theorem place0_at {u : List Nd} {n : Nd} {k : Nat} (hk : k < u.length) (he : nth u (k : Int) = n) (hall : ∀ j : Nat, j < k → nth u (j : Int) ≠ n) : place0 u n = (u, (k : Int)) := by
  have hm : n ∈ u := by rw [← he, nth_lt hk]; exact List.getElem_mem hk
  unfold place0
  rw [if_pos hm]
  have h1 := List.idxOf_lt_length_of_mem hm
  have h2 : nth u ((u.idxOf n : Nat) : Int) = n := by rw [nth_lt h1]; simp
  have h3 : u.idxOf n ≤ k := by
    rcases Nat.lt_or_ge k (u.idxOf n) with h | h
    · have := List.not_of_lt_findIdx (p := (· == n)) (xs := u) (by unfold List.idxOf at h; exact h)
      rw [nth_lt hk] at he
      simp [he] at this
    · exact h
  have h4 : ¬ u.idxOf n < k := fun h => hall _ h h2
  have h5 : u.idxOf n = k := by omega
  rw [h5]
theorem place0_out {u : List Nd} {n : Nd} (hall : ∀ j : Nat, j < u.length → nth u (j : Int) ≠ n) : place0 u n = (u ++ [n], (u.length : Int)) := by
  unfold place0
  rw [if_neg]
  intro hm
  obtain ⟨i, hi, e⟩ := List.getElem_of_mem hm
  exact hall i hi (by rw [nth_lt hi]; exact e)
set_option maxHeartbeats 16000000 in
set_option maxRecDepth 100000 in
theorem place_calls (base : Nat) (ok okn : Nat → Prop) (u : List Nd) (n : Nd) (Au An : Option Addr) (cu cn_ : Nat) (w : World) (hbs : base ≤ w.heap.size)
    (hR : k60.R 60 w base ok (.slice Au u.length cu) u) (hn : (Kd.int .i64).R 3 w base okn (.slice An n.f2.length cn_) n.f2) (hokn : ∀ j, okn j → ok j ∧ some j ≠ (Value.slice Au u.length cu).ownBlock) (hne : n.f0 ≠ -1 → n.f2 ≠ []) (hlen : n.f2.length ≤ 1073741824)
    (hul : (u.length + 1) * 40 ≤ 140737488355328) (hkl : ∀ x ∈ u, x.f2.length ≤ 1073741824) (hnew : ∀ j, w.heap.size ≤ j → ok j) :
    Calls Tryd.prog 72 #[.slice Au u.length cu, .agg #[.int .i64 n.f0, .int .i64 n.f1, .slice An n.f2.length cn_]] w (PlPost base ok (.slice Au u.length cu) w (plR u n)) := by
  obtain ⟨f0, f1, ks⟩ := n
  simp only at hn hne hlen ⊢
  have hCn := (Kd.R_reads' hn).2.2
  have hcn := (Kd.R_reads' hn).2.1
  have hCu := (Kd.R_reads' hR).2.2
  have hcu := (Kd.R_reads' hR).2.1
  have hb0 : Below w.heap.size w (w.alloc (.cells #[.int .i64 f0, .int .i64 f1, .slice An ks.length cn_] 60)) := (Below.refl _ w).alloc (Nat.le_refl _) _
  have hbx0 := heap_alloc_new w (.cells #[.int .i64 f0, .int .i64 f1, .slice An ks.length cn_] 60)
  have hI := exactpplref19_IsBranch.calls f0 f1 An cn_ ks _ _ (Kd.C_below hCn hb0) hcn rfl
  have HR := Lib.hid hR
  have HN := Lib.hid hn
  have HOKN := Lib.hid hokn
  have HNEW := Lib.hid hnew
  have HCN := Lib.hid hCn
  have HCU := Lib.hid hCu
  have HKL := Lib.hid hkl
  have HB0 := Lib.hid hb0
  have HBX0 := Lib.hid hbx0
  obtain ⟨N, hN⟩ : ∃ N, N = u.length := ⟨_, rfl⟩
  have HNN := Lib.hid hN
  rw [← hN] at hul hcu ⊢
  clear hR hn hokn hnew hCn hCu hkl hb0 hbx0 hN
  by_cases hbr : f0 = -1
  · subst hbr
    have hpl : plR u ⟨-1, f1, ks⟩ = place0 u ⟨-1, f1, ks⟩ := by unfold plR; rw [if_neg (by simp)]
    have HPL := Lib.hid hpl
    have hnb : ((-1 : Int) != -1) = false := by decide
    rw [hnb] at hI
    clear hpl hnb hne
    go_enter Tryd.func72, Tryd.ntmps72
    go_wp2_with (go_at_call 55; refine hI.mono ?_; clear hI; rintro e w1 ⟨rfl, hb1⟩; have HB1 := Lib.hid (HB0.out.trans (hb1.mono (by simp))); have hbx1 := (hb1.block w.heap.size (by simp)).trans HBX0.out; have hlt1 := blk_lt hbx1; have c0 := (blk_cell hbx1 0); have c1 := (blk_cell hbx1 1); have c2 := (blk_cell hbx1 2); have HBX1 := Lib.hid hbx1; clear hb1 hbx1)
    go_loopw [8] (fun i wr => ∃ k : Nat, i = .int .i64 k ∧ k ≤ N ∧ Below w1.heap.size w1 wr ∧ Aside0 (∀ j : Nat, j < k → nth u (j : Int) ≠ ⟨-1, f1, ks⟩)) (fun i _ => N - (intOf i).toNat)
    case atStart => exact ⟨0, rfl, Nat.zero_le _, Below.refl _ _, ⟨fun j hj => absurd hj (Nat.not_lt_zero _)⟩⟩
    case round =>
      obtain ⟨k, rfl, hk, hB, hall⟩ := hrel
      have HALL := Lib.hid hall.out
      have hsz := hB.size
      have HB := Lib.hid hB
      have hbx2 := (hB.block _ (blk_lt HBX1.out)).trans HBX1.out
      have d0 : wr.cell? ⟨w.heap.size, 0, none⟩ = some (.int .i64 (-1)) := (blk_cell hbx2 0).trans rfl
      have d1 : wr.cell? ⟨w.heap.size, 1, none⟩ = some (.int .i64 f1) := (blk_cell hbx2 1).trans rfl
      have d2 : wr.cell? ⟨w.heap.size, 2, none⟩ = some (.slice An ks.length cn_) := (blk_cell hbx2 2).trans rfl
      have hlt2 := blk_lt hbx2
      have HBX2 := Lib.hid hbx2
      have HBW := Lib.hid (HB1.out.trans (hB.mono (HB1.out.size)))
      clear hall hbx2 hB
      by_cases hlt : k < N
      · have hku : k < u.length := by have := HNN.out; omega
        obtain ⟨ad, A2, c2', rfl, g0, g1, g2, l2, gC⟩ := at_T60 (Kd.C_below HCU.out HBW.out) (k : Int) (by omega) (by omega)
        rw [Int.toNat_natCast] at g0 g1 g2
        rw [rd_nth] at g0 g1 g2 l2 gC
        obtain ⟨m, hm⟩ : ∃ m, m = nth u (k : Int) := ⟨_, rfl⟩
        rw [← hm] at g0 g1 g2 l2 gC
        have hml : m.f2.length ≤ 1073741824 := HKL.out m (by rw [hm, nth_lt hku]; exact List.getElem_mem hku)
        have hkb : k < 4000000000000 := by omega
        have hki : (k : Int) < (N : Int) := by omega
        have hS := exactpplref19_SameNode.calls (m.f2.length + 1) m.f0 m.f1 A2 c2' m.f2 (-1) f1 An cn_ ks _ wr.drew (Kd.C_drew gC) l2 (Kd.C_drew (Kd.C_below HCN.out HBW.out)) hcn (sameNode_f m ⟨-1, f1, ks⟩ (by omega) _ (by omega))
        have HM := Lib.hid hm
        clear hm gC
        by_cases he : m = ⟨-1, f1, ks⟩
        · rw [decide_eq_true he] at hS
          have HE := Lib.hid he
          clear he
          go_wp2
          go_still_tail 5, (by kernel_rfl)
          change wpList _ _ _ _ _ wr.drew
          go_wp2_with (go_at_call 49; refine hS.mono ?_; clear hS; rintro e w3 ⟨rfl, hb3⟩; have HB3 := Lib.hid ((HBW.out.trans ((Below.refl _ wr).drew.mono HBW.out.size)).trans (hb3.mono HBW.out.size)); clear hb3)
          refine bodyPost_ret (v := .tuple #[.slice (some ad) N cu, .int .i64 k]) (by simp [results, Tryd.f72, go_sem]) rfl ⟨.slice (some ad) N cu, ?_, ?_, grown_below' HB3.out, .inl (by rw [HNN.out])⟩
          · rw [HPL.out, place0_at hku (HM.out.symm.trans HE.out) HALL.out]
          · rw [HPL.out, place0_at hku (HM.out.symm.trans HE.out) HALL.out, HNN.out]
            exact Kd.R_below HR.out HB3.out
        · rw [decide_eq_false he] at hS
          have HE := Lib.hid he
          clear he
          go_wp2
          go_still_tail 5, (by kernel_rfl)
          change wpList _ _ _ _ _ wr.drew
          go_wp2_with (go_at_call 49; refine hS.mono ?_; clear hS; rintro e w3 ⟨rfl, hb3⟩; have HB3 := Lib.hid (HB.out.drew.trans (hb3.mono hsz)); clear hb3)
          go_roundw
          case rel => exact ⟨k + 1, by go_num, hlt, HB3.out, ⟨fun j hj => by
            rcases Nat.lt_or_ge j k with h | h
            · exact HALL.out j h
            · obtain rfl : j = k := by omega
              rw [← HM.out]; exact HE.out⟩⟩
          case measure => simp [intOf]; omega
      · have hke : k = N := by omega
        have hpo := place0_out (u := u) (n := ⟨-1, f1, ks⟩) (fun j hj => HALL.out j (by have := HNN.out; omega))
        have HPO := Lib.hid hpo
        have hN' := HNN.out
        have hNb : N < 4000000000000 := by omega
        clear hpo hke hk hN'
        go_wp2_with (at_builtin; refine Kd.R_append k60 (w0 := w) (W := wr) base rfl (.tmp 51) (.tmp 53) 24 60 (.agg #[(.int .i64 0), (.int .i64 0), (.slice none 0 0)]) 40 rfl Tryd.underlying24 info60 rfl (by decide) (by decide) (.slice Au N cu) u ⟨-1, f1, ks⟩ [.int .i64 (-1), .int .i64 f1, .slice An ks.length cn_] ok (fun j => okn j ∧ j < w.heap.size) rfl rfl ?hM ?hO ?hF ?hU (HBW.out.mono hbs) ?hS ?hL ?_)
        case hM => exact k60_mkM _ _ _ ⟨-1, f1, ks⟩ (Kd.R_mono (Kd.R_below (Kd.R_bound HN.out) HBW.out) (fun j hj => ⟨hj.1, hj.2.2.1⟩))
        case hO => intro j hj; have := HOKN.out j hj.1; rw [← HNN.out] at this; exact this
        case hF => intro j hj; exact HNEW.out j (Nat.le_trans HBW.out.size hj)
        case hU => have := Kd.R_below HR.out HBW.out; rw [← HNN.out] at this; exact this
        case hS => exact Nat.le_trans hbs HBW.out.size
        case hL => have := HNN.out; omega
        intro v5 w5 hR5 hB5 hg5 hat5
        have HAT5 := Lib.hid (show OwnOr w v5 (.slice Au N cu) from hat5.elim (fun h => .inl h) (fun ⟨b, h1, h2⟩ => .inr ⟨b, h1, Nat.le_trans HBW.out.size h2⟩))
        clear hat5
        have HR5 := Lib.hid hR5
        have HG5 := Lib.hid hg5
        clear hR5 hB5 hg5
        go_wp2
        refine bodyPost_ret (v := .tuple #[v5, .int .i64 N]) (by simp [results, Tryd.f72, go_sem]) rfl ⟨v5, ?_, ?_, ?_, HAT5.out⟩
        · rw [HPL.out, HPO.out, ← HNN.out]
        · rw [HPL.out, HPO.out]; exact HR5.out
        · exact World.grownBy.trans (grown_below' HBW.out) HG5.out
  · have hnb : (f0 != -1) = true := by simp [hbr]
    rw [hnb] at hI
    have hne' := hne hbr
    obtain ⟨kd, rfl, hkc⟩ := reads_at HCN.out hne'
    have HKC := Lib.hid hkc
    obtain ⟨x0, hx0⟩ : ∃ x0, x0 = ks.getD 0 0 := ⟨_, rfl⟩
    have hhd : ks.headD 0 = x0 := by rw [hx0]; cases ks <;> rfl
    obtain ⟨L, hL⟩ : ∃ L, L = ks.length := ⟨_, rfl⟩
    have hLp : 0 < L := by rw [hL]; exact List.length_pos_iff.2 hne'
    have HX0 := Lib.hid hx0
    have HHD := Lib.hid hhd
    have HL := Lib.hid hL
    have HBR := Lib.hid hbr
    rw [← hL] at hlen
    clear hnb hne hkc hx0 hhd hL hbr
    go_enter Tryd.func72, Tryd.ntmps72
    go_wp2_with (go_at_call 55; refine hI.mono ?_; clear hI; rintro e w1 ⟨rfl, hb1⟩; have HB1 := Lib.hid (HB0.out.trans (hb1.mono (by simp))); have hbx1 := (hb1.block w.heap.size (by simp)).trans HBX0.out; have hlt1 := blk_lt hbx1; have c0 := (blk_cell hbx1 0); have c1 := (blk_cell hbx1 1); have c2 := (blk_cell hbx1 2); have HBX1 := Lib.hid hbx1; clear hb1 hbx1)
    go_loopw [6, 7] (fun b i wr => ∃ (k : Nat) (bb : Bool), b = .bool bb ∧ i = .int .i64 k ∧ 1 ≤ k ∧ k ≤ L ∧ Below w1.heap.size w1 wr ∧ Aside0 (bb = true ↔ ∀ y ∈ ks.take k, y = x0)) (fun _ i _ => L - (intOf i).toNat)
    case atStart =>
      refine ⟨1, true, rfl, rfl, Nat.le_refl _, hLp, Below.refl _ _, ⟨fun _ y hy => ?_, fun _ => rfl⟩⟩
      have h0 : 0 < ks.length := by have := HL.out; omega
      rw [List.take_succ_eq_append_getElem h0] at hy
      rw [HX0.out, List.getD_eq_getElem?_getD, List.getElem?_eq_getElem h0]
      simpa using hy
    case round =>
      obtain ⟨k, bb, rfl, rfl, hk1, hk, hB, hall⟩ := hrel
      have HALL := Lib.hid hall.out
      have HB := Lib.hid hB
      have hsz := hB.size
      have hbx2 := (hB.block _ (blk_lt HBX1.out)).trans HBX1.out
      have d2 : wr.cell? ⟨w.heap.size, 2, none⟩ = some (.slice (some kd) L cn_) := by rw [HL.out]; exact (blk_cell hbx2 2).trans rfl
      have HBX2 := Lib.hid hbx2
      have HBW := Lib.hid (HB1.out.trans (hB.mono (HB1.out.size)))
      have e0 := pw_cell_below HBW.out (HKC.out 0 (by have := HL.out; omega))
      rw [Addr.add_zero', ← HX0.out] at e0
      clear hall hbx2 hB
      have hkb : k < 2000000000 := by omega
      by_cases hlt : k < L
      · have ek := pw_cell_below HBW.out (HKC.out k (by have := HL.out; omega))
        obtain ⟨y, hy⟩ : ∃ y, y = ks.getD k 0 := ⟨_, rfl⟩
        rw [← hy] at ek
        have HY := Lib.hid hy
        have hki : (k : Int) < (L : Int) := by omega
        clear hy
        have hsnoc : (∀ z ∈ ks.take (k + 1), z = x0) ↔ (∀ z ∈ ks.take k, z = x0) ∧ y = x0 := by
          have hk' : k < ks.length := by have := HL.out; omega
          have hyk : ks[k] = y := by rw [HY.out, List.getD_eq_getElem?_getD, List.getElem?_eq_getElem hk']; rfl
          rw [List.take_succ_eq_append_getElem hk', hyk]
          constructor
          · intro h; exact ⟨fun z hz => h z (List.mem_append_left _ hz), h y (by simp)⟩
          · rintro ⟨h1, h2⟩ z hz
            rcases List.mem_append.1 hz with h | h
            · exact h1 z h
            · rw [List.mem_singleton.1 h]; exact h2
        have HSN := Lib.hid hsnoc
        clear hsnoc
        cases bb with
        | false =>
          go_wp2
          go_quiet (fail)
          go_wp2
          go_roundw
          case rel => exact ⟨k + 1, false, rfl, by go_num, by omega, hlt, below_drew2 HB.out _, ⟨Iff.intro (fun h => absurd h (by decide)) (fun h => by have := HALL.out.2 (HSN.out.1 h).1; simp at this)⟩⟩
          case measure => simp [intOf]; omega
        | true =>
          by_cases hyx : y = x0
          · subst hyx
            go_wp2
            go_quiet (fail)
            go_wp2
            go_roundw
            case rel => exact ⟨k + 1, true, by simp, by go_num, by omega, hlt, below_drew2 HB.out _, ⟨Iff.intro (fun _ => HSN.out.2 ⟨by first | exact HALL.out.1 rfl | exact HALL.out.1 trivial, by first | exact rfl | exact trivial⟩) (fun _ => rfl)⟩⟩
            case measure => simp [intOf]; omega
          · have hyb : (y == x0) = false := by simp [hyx]
            go_wp2
            go_quiet (fail)
            go_wp2
            go_roundw
            case rel => exact ⟨k + 1, false, by simp, by go_num, by omega, hlt, below_drew2 HB.out _, ⟨Iff.intro (fun h => absurd h (by decide)) (fun h => absurd (HSN.out.1 h).2 hyx)⟩⟩
            case measure => simp [intOf]; omega
      · have hke : k = L := by omega
        have hsame : bb = sameK ks := by
          have h1 : ks.take k = ks := List.take_of_length_le (by have := HL.out; omega)
          have h2 := HALL.out
          rw [h1] at h2
          have h3 : sameK ks = true ↔ ∀ y ∈ ks, y = x0 := by
            unfold sameK
            rw [List.all_eq_true, HHD.out]
            simp
          rw [Bool.eq_iff_iff, h2, h3]
        cases bb with
        | true =>
          have hpl : plR u ⟨f0, f1, ks⟩ = (u, x0) := by unfold plR; rw [if_pos ⟨HBR.out, hsame.symm⟩, HHD.out]
          have HPL := Lib.hid hpl
          clear hpl hsame hke
          go_wp2
          go_quiet (fail)
          go_wp2
          have hbF := below_drew2 HBW.out nq
          refine bodyPost_ret (v := .tuple #[.slice Au N cu, .int .i64 x0]) (by simp [results, Tryd.f72, go_sem]) rfl ⟨.slice Au N cu, ?_, ?_, grown_below' hbF, .inl (by rw [HNN.out])⟩
          · rw [HPL.out]
          · rw [HPL.out, HNN.out]; exact Kd.R_below HR.out hbF
        | false =>
          have hpl : plR u ⟨f0, f1, ks⟩ = place0 u ⟨f0, f1, ks⟩ := by unfold plR; rw [if_neg (fun h => by rw [← hsame] at h; exact absurd h.2 (by decide))]
          have HPL := Lib.hid hpl
          clear hpl hsame hke
          go_wp2
          clear e0 d2
          obtain ⟨ws, rfl⟩ : ∃ ws : World, ws = wr := ⟨_, rfl⟩
          go_loopw [8] (fun i wr => ∃ k : Nat, i = .int .i64 k ∧ k ≤ N ∧ Below ws.heap.size ws wr ∧ Aside0 (∀ j : Nat, j < k → nth u (j : Int) ≠ ⟨f0, f1, ks⟩)) (fun i _ => N - (intOf i).toNat)
          case atStart => exact ⟨0, rfl, Nat.zero_le _, Below.refl _ _, ⟨fun j hj => absurd hj (Nat.not_lt_zero _)⟩⟩
          case round =>
            obtain ⟨k, rfl, hk, hB, hall⟩ := hrel
            have HALL2 := Lib.hid hall.out
            have hsz := hB.size
            have HB := Lib.hid hB
            have hbx2 := (hB.block _ (blk_lt HBX2.out)).trans HBX2.out
            have d0 : wr.cell? ⟨w.heap.size, 0, none⟩ = some (.int .i64 f0) := (blk_cell hbx2 0).trans rfl
            have d1 : wr.cell? ⟨w.heap.size, 1, none⟩ = some (.int .i64 f1) := (blk_cell hbx2 1).trans rfl
            have d2 : wr.cell? ⟨w.heap.size, 2, none⟩ = some (.slice (some kd) ks.length cn_) := (blk_cell hbx2 2).trans rfl
            have hlt2 := blk_lt hbx2
            have HBX3 := Lib.hid hbx2
            have HBV := Lib.hid (HBW.out.trans (hB.mono (HBW.out.size)))
            clear hall hbx2 hB
            by_cases hlt : k < N
            · have hku : k < u.length := by have := HNN.out; omega
              obtain ⟨ad, A2, c2', rfl, g0, g1, g2, l2, gC⟩ := at_T60 (Kd.C_below HCU.out HBV.out) (k : Int) (by omega) (by omega)
              rw [Int.toNat_natCast] at g0 g1 g2
              rw [rd_nth] at g0 g1 g2 l2 gC
              obtain ⟨m, hm⟩ : ∃ m, m = nth u (k : Int) := ⟨_, rfl⟩
              rw [← hm] at g0 g1 g2 l2 gC
              have hml : m.f2.length ≤ 1073741824 := HKL.out m (by rw [hm, nth_lt hku]; exact List.getElem_mem hku)
              have hkb : k < 4000000000000 := by omega
              have hki : (k : Int) < (N : Int) := by omega
              have hS := exactpplref19_SameNode.calls (m.f2.length + 1) m.f0 m.f1 A2 c2' m.f2 f0 f1 (some kd) cn_ ks _ wr.drew (Kd.C_drew gC) l2 (Kd.C_drew (Kd.C_below HCN.out HBV.out)) hcn (sameNode_f m ⟨f0, f1, ks⟩ (by omega) _ (by omega))
              have HM := Lib.hid hm
              clear hm gC
              by_cases he : m = ⟨f0, f1, ks⟩
              · rw [decide_eq_true he] at hS
                have HE := Lib.hid he
                clear he
                go_wp2
                go_still_tail 5, (by kernel_rfl)
                change wpList _ _ _ _ _ wr.drew
                go_wp2_with (go_at_call 49; refine hS.mono ?_; clear hS; rintro e w3 ⟨rfl, hb3⟩; have HB3 := Lib.hid ((HBV.out.trans ((Below.refl _ wr).drew.mono HBV.out.size)).trans (hb3.mono HBV.out.size)); clear hb3)
                refine bodyPost_ret (v := .tuple #[.slice (some ad) N cu, .int .i64 k]) (by simp [results, Tryd.f72, go_sem]) rfl ⟨.slice (some ad) N cu, ?_, ?_, grown_below' HB3.out, .inl (by rw [HNN.out])⟩
                · rw [HPL.out, place0_at hku (HM.out.symm.trans HE.out) HALL2.out]
                · rw [HPL.out, place0_at hku (HM.out.symm.trans HE.out) HALL2.out, HNN.out]
                  exact Kd.R_below HR.out HB3.out
              · rw [decide_eq_false he] at hS
                have HE := Lib.hid he
                clear he
                go_wp2
                go_still_tail 5, (by kernel_rfl)
                change wpList _ _ _ _ _ wr.drew
                go_wp2_with (go_at_call 49; refine hS.mono ?_; clear hS; rintro e w3 ⟨rfl, hb3⟩; have HB3 := Lib.hid (HB.out.drew.trans (hb3.mono hsz)); clear hb3)
                go_roundw
                case rel => exact ⟨k + 1, by go_num, hlt, HB3.out, ⟨fun j hj => by
                  rcases Nat.lt_or_ge j k with h | h
                  · exact HALL2.out j h
                  · obtain rfl : j = k := by omega
                    rw [← HM.out]; exact HE.out⟩⟩
                case measure => simp [intOf]; omega
            · have hke : k = N := by omega
              have hpo := place0_out (u := u) (n := ⟨f0, f1, ks⟩) (fun j hj => HALL2.out j (by have := HNN.out; omega))
              have HPO := Lib.hid hpo
              have hN' := HNN.out
              have hNb : N < 4000000000000 := by omega
              clear hpo hke hk hN'
              go_wp2_with (at_builtin; refine Kd.R_append k60 (w0 := w) (W := wr) base rfl (.tmp 51) (.tmp 53) 24 60 (.agg #[(.int .i64 0), (.int .i64 0), (.slice none 0 0)]) 40 rfl Tryd.underlying24 info60 rfl (by decide) (by decide) (.slice Au N cu) u ⟨f0, f1, ks⟩ [.int .i64 f0, .int .i64 f1, .slice (some kd) ks.length cn_] ok (fun j => okn j ∧ j < w.heap.size) rfl rfl ?hM ?hO ?hF ?hU (HBV.out.mono hbs) ?hS ?hL ?_)
              case hM => exact k60_mkM _ _ _ ⟨f0, f1, ks⟩ (Kd.R_mono (Kd.R_below (Kd.R_bound HN.out) HBV.out) (fun j hj => ⟨hj.1, hj.2.2.1⟩))
              case hO => intro j hj; have := HOKN.out j hj.1; rw [← HNN.out] at this; exact this
              case hF => intro j hj; exact HNEW.out j (Nat.le_trans HBV.out.size hj)
              case hU => have := Kd.R_below HR.out HBV.out; rw [← HNN.out] at this; exact this
              case hS => exact Nat.le_trans hbs HBV.out.size
              case hL => have := HNN.out; omega
              intro v5 w5 hR5 hB5 hg5 hat5
              have HAT5 := Lib.hid (show OwnOr w v5 (.slice Au N cu) from hat5.elim (fun h => .inl h) (fun ⟨b, h1, h2⟩ => .inr ⟨b, h1, Nat.le_trans HBV.out.size h2⟩))
              clear hat5
              have HR5 := Lib.hid hR5
              have HG5 := Lib.hid hg5
              clear hR5 hB5 hg5
              go_wp2
              refine bodyPost_ret (v := .tuple #[v5, .int .i64 N]) (by simp [results, Tryd.f72, go_sem]) rfl ⟨v5, ?_, ?_, ?_, HAT5.out⟩
              · rw [HPL.out, HPO.out, ← HNN.out]
              · rw [HPL.out, HPO.out]; exact HR5.out
              · exact World.grownBy.trans (grown_below' HBV.out) HG5.out
end Go.Proofs.YtopbjginpmdebaaDoor.K
-- exactpplref19.Append
namespace Go.Proofs.YtopbjginpmdebaaDoor.K
open Go.RowKit Go.Maps Go.Proofs.YtopbjginpmdebaaDoorW.PrintWords Go.Proofs.YtopbjginpmdebaaDoorW.PrintLast Go.Proofs.YtopbjginpmdebaaDoorW.PrintMore
set_option linter.unusedVariables false
set_option linter.unusedSimpArgs false
/-- a node as a graph has it -/
def Frm (n : Nd) : Prop := (n.f0 = -1 ∧ n.f2 = []) ∨ (0 ≤ n.f0 ∧ n.f1 = 0 ∧ n.f2 ≠ [])
theorem plR_place1 {u : List Nd} {at_ : List Int} {n : Nd} (h : Frm n) : plR u ⟨n.f0, n.f1, n.f2.map (lk at_)⟩ = place1 u at_ n := by
  unfold plR place1
  rcases h with ⟨h0, h2⟩ | ⟨h0, h1, h2⟩
  · rw [if_neg (by simp [h0]), if_pos (by omega), h0, h2]; rfl
  · rw [if_neg (show ¬ n.f0 < 0 by omega), h1]
    unfold placeB
    by_cases hs : sameK (n.f2.map (lk at_)) = true
    · rw [if_pos ⟨by simp only; omega, hs⟩, if_pos hs]
    · rw [if_neg (fun e => hs e.2), if_neg hs]
theorem OwnOr.grown {w W W2 : World} {v vu : Value} (h : OwnOr w v vu) (hg : w.grownBy W vu.ownBlock) (hg2 : W.grownBy W2 v.ownBlock) : w.grownBy W2 vu.ownBlock :=
  ⟨hg2.os.trans hg.os, hg2.tape.trans hg.tape, hg2.output.trans hg.output, Nat.le_trans hg.size hg2.size, fun j hj hne => by
    refine (hg2.block j (Nat.lt_of_lt_of_le hj hg.size) (fun e => ?_)).trans (hg.block j hj hne)
    rcases h with h | ⟨b, h, hb⟩
    · exact hne (e.trans h)
    · rw [h] at e; injection e with e; omega⟩
theorem NdSt.drew {wo W : World} {a b : Int} {l : List Int} {v : Value} (h : NdSt wo W a b l v) : NdSt wo W.drew a b l v := ⟨h.below.drew, h.box, Kd.R_below h.row (Below.refl _ _).drew⟩
/-- between two rounds of Append -/
structure AppSt (w W : World) (base : Nat) (ok : Nat → Prop) (vu : Value) (u nodes : List Nd) (k : Nat) (v : Value) : Prop where
  row : k60.R 60 W base (fun j => ok j ∧ j ≠ w.heap.size) v (imp u [] (nodes.take k)).1
  arr : Arr W w.heap.size (padd (imp u [] (nodes.take k)).2 nodes.length)
  grown : w.grownBy W vu.ownBlock
  own : OwnOr w v vu
theorem AppSt.first (w : World) (base : Nat) (ok : Nat → Prop) (u nodes : List Nd) (vu : Value) (hR : k60.R 60 w base ok vu u) (hn : nodes.length ≤ 9223372036854775807) : AppSt w (w.alloc (.cells (madeCells #[.int .i64 0] nodes.length) 3)) base ok vu u nodes 0 vu := by
  have hb := (Below.refl w.heap.size w).alloc (Nat.le_refl _) (.cells (madeCells #[.int .i64 0] nodes.length) 3)
  refine ⟨Kd.R_mono (Kd.R_below (Kd.R_bound hR) hb) (fun j hj => ⟨hj.1, by have := hj.2.2.1; omega⟩), ?_, grown_below' hb, .inl rfl⟩
  simpa [imp, padd] using Arr.made w nodes.length hn
theorem AppSt.next {w W W2 : World} {base : Nat} {ok : Nat → Prop} {vu v v2 : Value} {u nodes : List Nd} {k : Nat} {r : List Nd × Int} (h : AppSt w W base ok vu u nodes k v) (hR : k60.R 60 W2 base (fun j => ok j ∧ j ≠ w.heap.size) v2 r.1) (hg : W.grownBy W2 v.ownBlock) (hown : OwnOr W v2 v)
    (hs : imp u [] (nodes.take (k + 1)) = (r.1, (imp u [] (nodes.take k)).2 ++ [r.2])) (hat : (imp u [] (nodes.take k)).2.length = k) (hk : k < nodes.length) (hvu : some w.heap.size ≠ vu.ownBlock) :
    AppSt w (W2.setCell ⟨w.heap.size, k, none⟩ (.int .i64 r.2)) base ok vu u nodes (k + 1) v2 := by
  have hwb : w.heap.size < W.heap.size := h.arr.lt
  have hnv : some w.heap.size ≠ v.ownBlock := fun e => (h.row.1 _ e.symm).2 rfl
  have ha : Arr W2 w.heap.size (padd (imp u [] (nodes.take k)).2 nodes.length) := h.arr.move (hg.block _ hwb hnv)
  have hG := h.own.grown h.grown hg
  refine ⟨?_, ?_, ⟨hG.os, hG.tape, hG.output, Nat.le_trans hG.size (by simp [World.setCell]), fun j hj hne => (Below.heap_setCell W2 ⟨w.heap.size, k, none⟩ _ j (by show j ≠ w.heap.size; omega)).trans (hG.block j hj hne)⟩, ?_⟩
  · rw [hs]
    exact Kd.R_far (p := ⟨w.heap.size, k, none⟩) hR (fun j hj => hj.2) _
  · rw [hs]
    have := ha.put k r.2
    have e := padd_set (l := (imp u [] (nodes.take k)).2) (n := nodes.length) r.2 (by rw [hat]; exact hk)
    rw [hat] at e
    rw [e] at this
    exact this
  · rcases hown with h1 | ⟨b, h1, h2⟩
    · rcases h.own with h3 | ⟨b, h3, h4⟩
      · exact .inl (h1.trans h3)
      · exact .inr ⟨b, h1.trans h3, h4⟩
    · exact .inr ⟨b, h1, Nat.le_trans h.grown.size h2⟩
def ApPost (w : World) (base : Nat) (ok : Nat → Prop) (vu : Value) (u nodes : List Nd) (e : Ending) (w' : World) : Prop := ∃ v', e = .returned (.tuple #[v', .slice (some ⟨w.heap.size, 0, none⟩) nodes.length nodes.length]) ∧ AppSt w w' base ok vu u nodes nodes.length v'
set_option maxHeartbeats 16000000 in
set_option maxRecDepth 100000 in
theorem append_calls (base : Nat) (ok : Nat → Prop) (u nodes : List Nd) (Au A : Option Addr) (cu c : Nat) (w : World) (hbs : base ≤ w.heap.size)
    (hR : k60.R 60 w base ok (.slice Au u.length cu) u) (hC : ∀ W, w.grownBy W (Value.slice Au u.length cu).ownBlock → k60.C W A nodes.length nodes) (hc : nodes.length ≤ c) (hF : Fit nodes) (hfr : ∀ n ∈ nodes, Frm n) (hU : Tbl u [])
    (hlen : ∀ x ∈ nodes, x.f2.length ≤ 1073741824) (hkl : ∀ x ∈ u, x.f2.length ≤ 1073741824) (hroom : (u.length + nodes.length) * 40 ≤ 140737488355328) (hnew : ∀ j, w.heap.size ≤ j → ok j) :
    Calls Tryd.prog 71 #[.slice Au u.length cu, .slice A nodes.length c] w (ApPost w base ok (.slice Au u.length cu) u nodes) := by
  have hvu : some w.heap.size ≠ (Value.slice Au u.length cu).ownBlock := fun e => by have := Kd.R_lt hR _ e.symm; omega
  have h0 := AppSt.first w base ok u nodes _ hR (by omega)
  have H0 := Lib.hid h0
  have HC := Lib.hid hC
  have HFIT := Lib.hid hF
  have HFR := Lib.hid hfr
  have HU := Lib.hid hU
  have HLEN := Lib.hid hlen
  have HKL := Lib.hid hkl
  have HNEW := Lib.hid hnew
  have HVU := Lib.hid hvu
  obtain ⟨N, hN⟩ : ∃ N, N = nodes.length := ⟨_, rfl⟩
  have HN := Lib.hid hN
  have hmk := print_make (P := Tryd.prog) 22 3 .i64 8 Tryd.underlying22 info3 (by decide) N (by omega)
  rw [← hN] at hroom hc H0 ⊢
  clear hR hC hF hfr hU hlen hkl hnew hvu h0 hN
  go_enter Tryd.func71, Tryd.ntmps71
  go_wp2
  go_loopw [0, 7] (fun v i wr => ∃ (k : Nat) (vv : Value), vv = v ∧ i = .int .i64 k ∧ k ≤ N ∧ AppSt w wr base ok (.slice Au u.length cu) u nodes k vv) (fun _ i _ => N - (intOf i).toNat)
  case atStart => exact ⟨0, _, rfl, rfl, Nat.zero_le _, H0.out⟩
  case round =>
    obtain ⟨k, vv, rfl, rfl, hk, hst⟩ := hrel
    obtain ⟨U, hUe⟩ : ∃ U, U = (imp u [] (nodes.take k)).1 := ⟨_, rfl⟩
    have hrow := hst.row
    rw [← hUe] at hrow
    obtain ⟨Av0, cv0, rfl⟩ := Kd.R_slice hrow
    have HROW := Lib.hid hrow
    have HUE := Lib.hid hUe
    clear hrow hUe
    by_cases hlt : k < N
    · have hkn : k < nodes.length := by have := HN.out; omega
      have hnm : nth nodes k ∈ nodes := by rw [nth_lt hkn]; exact List.getElem_mem hkn
      have hsz := hst.grown.size
      obtain ⟨ad, A2, c2, rfl, d0, d1, d2, l2, g2⟩ := at_T60 (HC.out wr hst.grown) (k : Int) (by omega) (by omega)
      rw [Int.toNat_natCast] at d0 d1 d2
      rw [rd_nth] at d0 d1 d2 l2 g2
      obtain ⟨n, hn⟩ : ∃ n, n = nth nodes (k : Int) := ⟨_, rfl⟩
      rw [← hn] at d0 d1 d2 l2 g2 hnm
      have hI2 := HLEN.out n hnm
      have hfrm := HFR.out n hnm
      have hkids : ∀ c ∈ n.f2, 0 ≤ c ∧ c < (k : Int) := by rw [hn]; exact HFIT.out.1 k hkn
      obtain ⟨tT, tL, -⟩ := imp_tbl HFIT.out HU.out k (by omega)
      have hat : (imp u [] (nodes.take k)).2.length = k := by rw [imp_len]; simp; omega
      have hsucc : imp u [] (nodes.take (k + 1)) = ((place1 (imp u [] (nodes.take k)).1 (imp u [] (nodes.take k)).2 n).1, (imp u [] (nodes.take k)).2 ++ [(place1 (imp u [] (nodes.take k)).1 (imp u [] (nodes.take k)).2 n).2]) := by rw [take_snoc' hkn, imp_snoc, ← hn]
      have huk : ∀ x ∈ (imp u [] (nodes.take k)).1, x.f2.length ≤ 1073741824 := imp_kids (nodes.take k) u [] HKL.out (fun x hx => HLEN.out x (List.mem_of_mem_take hx))
      have hab := hst.arr.lt
      have hdl := World.block_lt_of_cell? _ _ d0
      have hkb : k < 4000000000000 := by omega
      have hki : (k : Int) < (N : Int) := by omega
      obtain ⟨M, hM⟩ : ∃ M, M = n.f2.length := ⟨_, rfl⟩
      have HM := Lib.hid hM
      rw [← hM] at d2 l2 hI2
      have HST := Lib.hid hst
      have HKIDS := Lib.hid hkids
      have HFRM := Lib.hid hfrm
      have HT := Lib.hid tT
      have HTL := Lib.hid tL
      have HAT := Lib.hid hat
      have HSUCC := Lib.hid hsucc
      have HUK := Lib.hid huk
      have HNN := Lib.hid hn
      have HG2 := Lib.hid g2
      clear hst hkids hfrm tT tL hat hsucc huk hn hM g2
      go_wp2
      go_region
      obtain ⟨wo, rfl⟩ : ∃ wo : World, wo = wr := ⟨_, rfl⟩
      go_wp2
      go_loopw [9] (fun i W => ∃ (j : Nat) (v : Value), i = .int .i64 j ∧ j ≤ M ∧ NdSt wo W n.f0 n.f1 ((n.f2.take j).map (lk (imp u [] (nodes.take k)).2)) v) (fun i _ => M - (intOf i).toNat)
      case atStart => exact ⟨0, _, rfl, Nat.zero_le _, (NdSt.first wo n.f0 n.f1).drew⟩
      case round =>
        obtain ⟨j, v, rfl, hj, hnd⟩ := hrel
        obtain ⟨l, hl⟩ : ∃ l, l = (n.f2.take j).map (lk (imp u [] (nodes.take k)).2) := ⟨_, rfl⟩
        rw [← hl] at hnd
        have hll : l.length = j := by rw [hl]; simp; have := HM.out; omega
        obtain ⟨Av, cv, rfl⟩ := Kd.R_slice hnd.row
        have hbW := hnd.below
        have hsW := hbW.size
        have hmW := blk_lt hnd.box
        have bm2 : wr.cell? ⟨wo.heap.size, 2, none⟩ = some (.slice Av l.length cv) := (blk_cell hnd.box 2).trans rfl
        have fm2 := blk_frozen hnd.box 2
        replace d2 := pw_cell_below hbW d2
        have HND := Lib.hid hnd
        have HBW := Lib.hid hbW
        have HLL := Lib.hid hl
        have HLK := Lib.hid hll
        have hlb : l.length ≤ 1073741824 := by omega
        have hjb : j ≤ 1073741824 := by omega
        clear hl hll hnd hbW
        by_cases hjl : j < M
        · have hjn : j < n.f2.length := by have := HM.out; omega
          obtain ⟨ad2, rfl, hkc⟩ := reads_at (Kd.C_below HG2.out HBW.out) (by intro e; rw [e] at hjn; simp at hjn)
          have e0 := hkc j hjn
          have hcm : n.f2.getD j 0 ∈ n.f2 := by rw [List.getD_eq_getElem?_getD, List.getElem?_eq_getElem hjn]; exact List.getElem_mem hjn
          obtain ⟨hc0, hc1⟩ := HKIDS.out _ hcm
          obtain ⟨cn, hcn⟩ : ∃ cn : Nat, n.f2.getD j 0 = cn := ⟨(n.f2.getD j 0).toNat, by omega⟩
          rw [hcn] at e0 hc1
          have hcN : cn < N := by omega
          have hcNi : (cn : Int) < (N : Int) := by omega
          have hcb : cn < 4000000000000 := by omega
          have hji : (j : Int) < (M : Int) := by omega
          have e1 := (HST.out.arr.move (HBW.out.block _ hab)).at cn (by rw [padd_len (by rw [HAT.out]; omega)]; omega)
          rw [padd_get (by rw [HAT.out]; omega)] at e1
          have e2 := e1.1
          obtain ⟨y, hy⟩ : ∃ y, y = (imp u [] (nodes.take k)).2.getD cn 0 := ⟨_, rfl⟩
          rw [← hy] at e2
          have HY := Lib.hid hy
          have HCN := Lib.hid hcn
          have HR2 := Lib.hid HND.out.row
          clear e1 hcm hcn hkc hy
          go_wp2
          go_region_law (((refine Kd.R_append_step (Kd.int .i64) (w0 := wr) (W := wr.drew) (wo.heap.size + 1) (by rfl) (.tmp 41) (.tmp 53) 22 3 (.int .i64 0) 8 rfl Tryd.underlying22 info3 rfl (by decide) (by decide) (.slice Av l.length cv) l y [.int .i64 y] (fun k => wo.heap.size < k) (fun _ => False) (by rfl) (by rfl) rfl (fun _ h => h.elim) (fun k hk => Nat.lt_of_lt_of_le hmW hk) HR2.out (Below.refl _ _).drew hmW (by omega) ?_; intro v5 w5 hR5 hB5 hg5 hat5; obtain ⟨A5, c5, rfl⟩ := Kd.R_slice hR5; have hbx5 := (hB5.block wo.heap.size (Nat.lt_succ_self _)).trans HND.out.box; have q1 := blk_cell hbx5 2; have q2 := blk_frozen hbx5 2)))
          all_goals
            rw [List.length_append, List.length_singleton] at hR5
            have HR5 := Lib.hid hR5
            have HB5 := Lib.hid hB5
            clear hR5 hB5 hg5 hat5 hbx5
            go_wp2
            go_roundw
            case rel =>
              refine ⟨j + 1, .slice A5 (l.length + 1) c5, by go_num, hjl, ?_⟩
              have h3 : (n.f2.take (j + 1)).map (lk (imp u [] (nodes.take k)).2) = l ++ [y] := by
                rw [List.take_succ_eq_append_getElem hjn, List.map_append, ← HLL.out]
                congr 1
                have : n.f2[j] = (cn : Int) := by
                  have := HCN.out
                  rw [List.getD_eq_getElem?_getD, List.getElem?_eq_getElem hjn] at this
                  exact this
                simp [lk, this, HY.out]
              rw [h3]
              exact HND.out.next HR5.out HB5.out
            case measure => simp [intOf]; omega
        · have ej : j = M := by omega
          have hKL : l = n.f2.map (lk (imp u [] (nodes.take k)).2) := by rw [HLL.out, ej, List.take_of_length_le (l := n.f2) (i := M) (by have := HM.out; omega)]
          have hpl : plR U ⟨n.f0, n.f1, l⟩ = place1 (imp u [] (nodes.take k)).1 (imp u [] (nodes.take k)).2 n := by rw [HUE.out, hKL]; exact plR_place1 HFRM.out
          have hne : n.f0 ≠ -1 → l ≠ [] := by
            intro h0 e
            rcases HFRM.out with ⟨h1, _⟩ | ⟨_, _, h1⟩
            · exact h0 h1
            · rw [hKL] at e; exact h1 (by simpa using e)
          have hsW' := HBW.out.size
          have hA := (place_calls base (fun j => ok j ∧ j ≠ w.heap.size) (fun j => wo.heap.size < j) U ⟨n.f0, n.f1, l⟩ Av0 Av cv0 cv wr (by omega) (Kd.R_below HROW.out HBW.out) (Kd.R_lower HND.out.row (by omega)) (fun j hj => ⟨⟨HNEW.out j (by omega), by omega⟩, fun e => by have := Kd.R_lt HROW.out _ e.symm; omega⟩) hne (by show l.length ≤ _; omega) (by have := HTL.out; rw [← HUE.out] at this; omega) (by rw [HUE.out]; exact HUK.out) (fun j hj => ⟨HNEW.out j (by omega), by omega⟩)).mono (R' := fun e w2 => ∃ v', e = .returned (.tuple #[v', .int .i64 (place1 (imp u [] (nodes.take k)).1 (imp u [] (nodes.take k)).2 n).2]) ∧
              k60.R 60 w2 base (fun j => ok j ∧ j ≠ w.heap.size) v' (place1 (imp u [] (nodes.take k)).1 (imp u [] (nodes.take k)).2 n).1 ∧ wo.grownBy w2 (Value.slice Av0 U.length cv0).ownBlock ∧ OwnOr wo v' (.slice Av0 U.length cv0) ∧ (∃ v, w2.cell? ⟨w.heap.size, k, none⟩ = some (.int .i64 v)) ∧ w2.frozen? ⟨w.heap.size, k, none⟩ = false) (by
            rintro e w2 ⟨v', rfl, h2, h3, h4⟩
            rw [hpl] at h2 ⊢
            have h5 := World.grownBy.trans (grown_below' HBW.out) h3
            have h6 := (HST.out.arr.move (h5.block _ hab (fun e => (HROW.out.1 _ e.symm).2 rfl))).at k (by rw [padd_len (by rw [HAT.out]; omega)]; exact hkn)
            exact ⟨v', rfl, h2, h5, h4.elim .inl (fun ⟨b, h7, h8⟩ => .inr ⟨b, h7, by omega⟩), ⟨_, h6.1⟩, h6.2⟩)
          dsimp only at hA
          obtain ⟨r, hr⟩ : ∃ r, r = place1 (imp u [] (nodes.take k)).1 (imp u [] (nodes.take k)).2 n := ⟨_, rfl⟩
          rw [← hr] at hA
          have HR := Lib.hid hr
          have bm0 : wr.cell? ⟨wo.heap.size, 0, none⟩ = some (.int .i64 n.f0) := (blk_cell HND.out.box 0).trans rfl
          have bm1 : wr.cell? ⟨wo.heap.size, 1, none⟩ = some (.int .i64 n.f1) := (blk_cell HND.out.box 1).trans rfl
          clear hr hpl hne hKL ej
          go_wp2_with (go_at_call 72; refine hA.mono ?_; clear hA; rintro e w2 ⟨v2, rfl, hR2, hg2, ho2, ⟨vc, hvc⟩, hfc⟩; have HR2 := Lib.hid hR2; have HGG := Lib.hid hg2; have HO2 := Lib.hid ho2; clear hR2 hg2 ho2)
          go_roundw
          case rel =>
            refine ⟨k + 1, v2, rfl, by go_num, hlt, ?_⟩
            exact HST.out.next HR2.out HGG.out HO2.out (by rw [HSUCC.out, HR.out]) HAT.out hkn HVU.out
          case measure => simp [intOf]; omega
    · obtain rfl : k = N := by omega
      have HST := Lib.hid hst
      clear hst
      go_wp2
      refine bodyPost_ret (v := .tuple #[.slice Av0 U.length cv0, .slice (some ⟨w.heap.size, 0, none⟩) k k]) (by simp [results, Tryd.f71, go_sem]) rfl ⟨.slice Av0 U.length cv0, ?_, ?_⟩
      · rw [HN.out]
      · have := HST.out; rw [HN.out] at this; exact this
end Go.Proofs.YtopbjginpmdebaaDoor.K
-- exactpplref19.walk: what it keeps
namespace Go.Proofs.YtopbjginpmdebaaDoor.K
open Go.RowKit Go.Maps Go.Proofs.YtopbjginpmdebaaDoorW.PrintWords Go.Proofs.YtopbjginpmdebaaDoorW.PrintLast Go.Proofs.YtopbjginpmdebaaDoorW.PrintMore
set_option linter.unusedVariables false
set_option linter.unusedSimpArgs false
/-- the places as an array: -1 where there is none -/
def atl (n : Nat) (g : PM) : List Int := (List.range n).map fun j : Nat => (g (j : Int)).getD (-1)
theorem atl_len (n : Nat) (g : PM) : (atl n g).length = n := by simp [atl]
theorem atl_get {n j : Nat} (g : PM) (h : j < n) : (atl n g).getD j 0 = (g (j : Int)).getD (-1) := by
  unfold atl
  rw [List.getD_eq_getElem?_getD, List.getElem?_map, List.getElem?_range h]; rfl
theorem atl_upd {n i : Nat} (g : PM) (a : Int) (h : i < n) : (atl n g).set i a = atl n (upd g (i : Int) a) := by
  apply List.ext_getElem
  · simp [atl]
  · intro j h1 h2
    have hj : j < n := by simpa [atl] using h2
    rw [List.getElem_set]
    simp only [atl, List.getElem_map, List.getElem_range, upd]
    by_cases e : i = j
    · subst e; simp
    · rw [if_neg e, if_neg (by omega)]
theorem pigeon : ∀ (m n : Nat) (f : Nat → Nat), (∀ a, a < n → f a < m) → (∀ a b, a < n → b < n → f a = f b → a = b) → n ≤ m
  | 0, n, f, h1, _ => by
    rcases n with _ | n
    · exact Nat.le_refl _
    · exact absurd (h1 0 (by omega)) (by omega)
  | m + 1, n, f, h1, h2 => by
    by_cases hx : ∃ a, a < n ∧ f a = m
    · obtain ⟨a0, ha0, e0⟩ := hx
      have h := pigeon m (n - 1) (fun a => if a < a0 then f a else f (a + 1)) (fun a ha => by
        have key : ∀ b, b < n → b ≠ a0 → f b < m := fun b hb hne => by
          have := h1 b hb
          have : f b ≠ m := fun e => hne (h2 b a0 hb ha0 (e.trans e0.symm))
          omega
        try dsimp only
        split
        · exact key a (by omega) (by omega)
        · exact key (a + 1) (by omega) (by omega)) (fun a b ha hb e => by
        try dsimp only at e
        split at e <;> split at e
        · exact h2 a b (by omega) (by omega) e
        · have := h2 a (b + 1) (by omega) (by omega) e; omega
        · have := h2 (a + 1) b (by omega) (by omega) e; omega
        · have := h2 (a + 1) (b + 1) (by omega) (by omega) e; omega)
      omega
    · have := pigeon m n f (fun a ha => by
        have := h1 a ha
        have : f a ≠ m := fun e => hx ⟨a, ha, e⟩
        omega) h2
      omega
theorem Pl.len {u : List Nd} {s : St} (h : Pl u s) : s.2.length ≤ u.length := by
  refine pigeon u.length s.2.length (fun a => if ha : a < s.2.length then (Classical.choose (h.all a ha)).toNat else 0) (fun a ha => ?_) (fun a b ha hb e => ?_)
  · simp only [dif_pos ha]
    have h1 := Classical.choose_spec (h.all a ha)
    have h2 := h.node _ _ h1
    omega
  · simp only [dif_pos ha, dif_pos hb] at e
    have h1 := Classical.choose_spec (h.all a ha)
    have h2 := Classical.choose_spec (h.all b hb)
    have h3 := h.node _ _ h1
    have h4 := h.node _ _ h2
    have e' : Classical.choose (h.all a ha) = Classical.choose (h.all b hb) := by omega
    rw [e', h2] at h1
    have := Option.some.inj h1
    omega
/-- the walk's memory -/
structure Wk (B0 b : Nat) (ok : Nat → Prop) (W : World) (u : List Nd) (s : St) (v : Value) : Prop where
  arr : Arr W b (atl u.length s.1)
  row : k60.R 60 W B0 ok v s.2
  pl : Pl u s
/-- what a walk leaves alone -/
structure Kp (w W : World) (b : Nat) (v : Value) : Prop where
  os : W.os = w.os
  tape : W.tape = w.tape
  output : W.output = w.output
  size : w.heap.size ≤ W.heap.size
  same : ∀ j, j < w.heap.size → j ≠ b → some j ≠ v.ownBlock → W.heap[j]? = w.heap[j]?
theorem Kp.refl (w : World) (b : Nat) (v : Value) : Kp w w b v := ⟨rfl, rfl, rfl, Nat.le_refl _, fun _ _ _ _ => rfl⟩
theorem Kp.trans {w W W2 : World} {b : Nat} {v0 v : Value} (h : Kp w W b v0) (ho : OwnOr w v v0) (k : Kp W W2 b v) : Kp w W2 b v0 :=
  ⟨k.os.trans h.os, k.tape.trans h.tape, k.output.trans h.output, Nat.le_trans h.size k.size, fun j hj hb hv => by
    refine (k.same j (Nat.lt_of_lt_of_le hj h.size) hb (fun e => ?_)).trans (h.same j hj hb hv)
    rcases ho with h1 | ⟨c, h1, h2⟩
    · exact hv (e.trans h1)
    · rw [h1] at e; injection e with e; omega⟩
theorem Kp.of_below {w W : World} (h : Below w.heap.size w W) (b : Nat) (v : Value) : Kp w W b v := ⟨h.os, h.tape, h.output, h.size, fun j hj _ _ => h.block j hj⟩
theorem Kp.of_grown {w W : World} {b : Nat} {v : Value} (h : w.grownBy W v.ownBlock) : Kp w W b v := ⟨h.os, h.tape, h.output, h.size, fun j hj _ hv => h.block j hj hv⟩
theorem Kp.below {B0 b : Nat} {w W : World} {v : Value} (h : Kp w W b v) (h1 : B0 ≤ w.heap.size) (hb : B0 ≤ b) (hv : ∀ k, v.ownBlock = some k → B0 ≤ k) : Below B0 w W :=
  ⟨h.os, h.tape, h.output, h.size, fun j hj => h.same j (by omega) (by omega) (fun e => by have := hv j e.symm; omega)⟩
theorem OwnOr.trans {w W : World} {a b c : Value} (h : OwnOr w b c) (hs : w.heap.size ≤ W.heap.size) (k : OwnOr W a b) : OwnOr w a c := by
  rcases k with h1 | ⟨x, h1, h2⟩
  · rcases h with h3 | ⟨x, h3, h4⟩
    · exact .inl (h1.trans h3)
    · exact .inr ⟨x, h1.trans h3, h4⟩
  · exact .inr ⟨x, h1, Nat.le_trans hs h2⟩
theorem ints_move {W W2 : World} {base : Nat} {ok : Nat → Prop} {v : Value} {l : List Int} (h : (Kd.int .i64).R 3 W base ok v l) (hm : ∀ k, v.ownBlock = some k → W2.heap[k]? = W.heap[k]?) : (Kd.int .i64).R 3 W2 base ok v l :=
  Kd.R_mono (Kd.R_step (Kd.R_tight rfl h) (fun k hk _ => hm k hk.symm)) (fun k hk => h.1 k hk.symm)
theorem ints_type {W : World} {base : Nat} {ok : Nat → Prop} {v : Value} {l : List Int} (h : (Kd.int .i64).R 3 W base ok v l) (k : Nat) (hk : v.ownBlock = some k) : ∃ cs, W.heap[k]? = some (.cells cs 3 (0, 0)) := by
  obtain ⟨_, inner, ho, _⟩ := h
  exact own_typed ho k hk
theorem nodes_type {W : World} {base : Nat} {ok : Nat → Prop} {v : Value} {l : List Nd} (h : k60.R 60 W base ok v l) (k : Nat) (hk : v.ownBlock = some k) : ∃ cs, W.heap[k]? = some (.cells cs 60 (0, 0)) := by
  obtain ⟨_, inner, ho, _⟩ := h
  exact own_typed ho k hk
/-- between two rounds of walk's loop: the new node at block β, its kids' row vk -/
structure WL (B0 b β : Nat) (ok : Nat → Prop) (w W : World) (u : List Nd) (v0 : Value) (s : St) (x y : Int) (l : List Int) (v vk : Value) : Prop where
  wk : Wk B0 b (fun j => ok j ∧ j ≠ β ∧ some j ≠ vk.ownBlock) W u s v
  box : W.heap[β]? = some (.cells #[.int .i64 x, .int .i64 y, vk] 60 (0, 0))
  row : (Kd.int .i64).R 3 W (β + 1) (fun k => β < k) vk l
  kp : Kp w W b v0
  own : OwnOr w v v0
theorem Wk.below {B0 b : Nat} {ok : Nat → Prop} {W W2 : World} {u : List Nd} {s : St} {v : Value} (h : Wk B0 b ok W u s v) (hb : Below W.heap.size W W2) : Wk B0 b ok W2 u s v :=
  ⟨h.arr.move (hb.block _ h.arr.lt), Kd.R_below h.row hb, h.pl⟩
theorem WL.below {B0 b β : Nat} {ok : Nat → Prop} {w W W2 : World} {u : List Nd} {v0 : Value} {s : St} {x y : Int} {l : List Int} {v vk : Value} (h : WL B0 b β ok w W u v0 s x y l v vk) (hb : Below W.heap.size W W2) : WL B0 b β ok w W2 u v0 s x y l v vk :=
  ⟨h.wk.below hb, (hb.block _ (blk_lt h.box)).trans h.box, Kd.R_below h.row hb, h.kp.trans h.own (Kp.of_below hb _ _), h.own⟩
/-- the first round's start -/
theorem WL.first {B0 b : Nat} {ok : Nat → Prop} {w : World} {u : List Nd} {s : St} {v : Value} (h : Wk B0 b ok w u s v) (x y : Int) :
    WL B0 b w.heap.size ok w (w.alloc (.cells #[.int .i64 x, .int .i64 y, .slice none 0 0] 60)) u v s x y [] v (.slice none 0 0) := by
  have hb : Below w.heap.size w (w.alloc (.cells #[.int .i64 x, .int .i64 y, .slice none 0 0] 60)) := (Below.refl _ w).alloc (Nat.le_refl _) _
  exact ⟨⟨h.arr.move (hb.block _ h.arr.lt), Kd.R_mono (Kd.R_below (Kd.R_bound h.row) hb) (fun j hj => ⟨hj.1, by have := hj.2.2.1; omega, by simp [Value.ownBlock]⟩), h.pl⟩, heap_alloc_new w _, Kd.R_nil _ _ _ _ _, Kp.of_below hb _ _, .inl rfl⟩
/-- a walk inside -/
theorem WL.call {B0 b β : Nat} {ok : Nat → Prop} {w W W2 : World} {u : List Nd} {v0 : Value} {s s2 : St} {x y : Int} {l : List Int} {v v2 vk : Value} (h : WL B0 b β ok w W u v0 s x y l v vk) (hbβ : b < β)
    (k : Wk B0 b (fun j => ok j ∧ j ≠ β ∧ some j ≠ vk.ownBlock) W2 u s2 v2) (kp : Kp W W2 b v) (ho : OwnOr W v2 v) : WL B0 b β ok w W2 u v0 s2 x y l v2 vk := by
  refine ⟨k, (kp.same _ (blk_lt h.box) (by omega) (fun e => (h.wk.row.1 _ e.symm).2.1 rfl)).trans h.box, ints_move h.row (fun q hq => kp.same q (Kd.R_lt h.row q hq) (by have := h.row.1 q hq; omega) (fun e => ?_)), h.kp.trans h.own kp, h.own.trans h.kp.size ho⟩
  exact (h.wk.row.1 q e.symm).2.2 hq.symm
/-- a kid's place is noted -/
theorem WL.kid {B0 b β : Nat} {ok : Nat → Prop} {w W W5 : World} {u : List Nd} {v0 : Value} {s : St} {x y z : Int} {l : List Int} {v vk v5 : Value} (h : WL B0 b β ok w W u v0 s x y l v vk) (hbβ : b < β) (hwβ : w.heap.size ≤ β)
    (hR : (Kd.int .i64).R 3 W5 (β + 1) (fun k => β < k) v5 (l ++ [z])) (hg : W.grownBy W5 vk.ownBlock) (hat : v5.ownBlock = vk.ownBlock ∨ ∃ c, v5.ownBlock = some c ∧ W.heap.size ≤ c) :
    WL B0 b β ok w (W5.setCell ⟨β, 2, none⟩ v5) u v0 s x y (l ++ [z]) v v5 := by
  have hβ := blk_lt h.box
  have hkβ : ∀ q, vk.ownBlock = some q → β < q := h.row.1
  have hbx5 : W5.heap[β]? = some (.cells #[.int .i64 x, .int .i64 y, vk] 60 (0, 0)) := (hg.block β hβ (fun e => by have := hkβ β e.symm; omega)).trans h.box
  have hrow5 : k60.R 60 W5 B0 (fun j => ok j ∧ j ≠ β ∧ some j ≠ v5.ownBlock) v s.2 := by
    refine Kd.R_mono (Kd.R_grown (Kd.R_bound h.wk.row) hg (fun j hj => hj.1.2.2)) (fun j hj => ⟨hj.1.1, hj.1.2.1, fun e => ?_⟩)
    rcases hat with h1 | ⟨c, h1, h2⟩
    · exact hj.1.2.2 (e.trans h1)
    · rw [h1] at e; injection e with e; have := hj.2.2.1; omega
  refine ⟨⟨?_, Kd.R_far (p := ⟨β, 2, none⟩) hrow5 (fun j hj => hj.2.1) _, h.wk.pl⟩, blk_set hbx5 2 v5, Kd.R_far (p := ⟨β, 2, none⟩) hR (fun k hk => by show k ≠ β; omega) _, ?_, h.own⟩
  · refine (h.wk.arr.move (hg.block b h.wk.arr.lt (fun e => by have := hkβ b e.symm; omega))).move (Below.heap_setCell W5 ⟨β, 2, none⟩ v5 b (by show b ≠ β; omega))
  · refine ⟨hg.os.trans h.kp.os, hg.tape.trans h.kp.tape, hg.output.trans h.kp.output, Nat.le_trans (Nat.le_trans h.kp.size hg.size) (by simp [World.setCell]), fun j hj hb hv => ?_⟩
    refine (Below.heap_setCell W5 ⟨β, 2, none⟩ v5 j (by show j ≠ β; omega)).trans ((hg.block j (Nat.lt_of_lt_of_le hj h.kp.size) (fun e => ?_)).trans (h.kp.same j hj hb hv))
    have := hkβ j e.symm; omega
/-- the end: the node's place is noted, the node stored -/
theorem WL.done {B0 b β : Nat} {ok : Nat → Prop} {w W W5 : World} {u : List Nd} {v0 : Value} {s : St} {x y : Int} {l : List Int} {v vk v5 : Value} {iN : Nat} (h : WL B0 b β ok w W u v0 s x y l v vk) (hi : iN < u.length)
    (hR : k60.R 60 W5 B0 ok v5 (s.2 ++ [⟨x, y, l⟩])) (hg : (W.setCell ⟨b, iN, none⟩ (.int .i64 (s.2.length : Int))).grownBy W5 v.ownBlock) (hat : v5.ownBlock = v.ownBlock ∨ ∃ c, v5.ownBlock = some c ∧ W.heap.size ≤ c)
    (hok : ∀ j, ok j → j ≠ b) (hP : Pl u (upd s.1 iN s.2.length, s.2 ++ [⟨x, y, l⟩])) :
    Wk B0 b ok W5 u (upd s.1 iN s.2.length, s.2 ++ [⟨x, y, l⟩]) v5 ∧ Kp w W5 b v0 ∧ OwnOr w v5 v0 := by
  have hsz : (W.setCell ⟨b, iN, none⟩ (.int .i64 (s.2.length : Int))).heap.size = W.heap.size := by simp [World.setCell]
  have hnb : some b ≠ v.ownBlock := fun e => hok b (h.wk.row.1 b e.symm).1 rfl
  refine ⟨⟨?_, hR, hP⟩, ?_, ?_⟩
  · have h1 := h.wk.arr.put iN (s.2.length : Int)
    rw [atl_upd s.1 _ hi] at h1
    exact h1.move (hg.block b (by rw [hsz]; exact h.wk.arr.lt) hnb)
  · refine h.kp.trans h.own ⟨hg.os, hg.tape, hg.output, by rw [← hsz]; exact hg.size, fun j hj hb hv => ?_⟩
    exact (hg.block j (by rw [hsz]; exact hj) hv).trans (Below.heap_setCell W ⟨b, iN, none⟩ _ j (by show j ≠ b; exact hb))
  · exact h.own.trans h.kp.size (hat.elim .inl .inr)
/-- what the walk has done with a node's first kids -/
def kidSt (u : List Nd) (d : Nat) (s : St) (l : List Int) : St := l.foldl (fun s c => dfs u d c s) s
theorem kidSt_snoc (u : List Nd) (d : Nat) (s : St) (l : List Int) (c : Int) : kidSt u d s (l ++ [c]) = dfs u d c (kidSt u d s l) := by simp [kidSt]
theorem kidSt_mp {u : List Nd} (hu : Down u) {d i : Nat} (hi : i < u.length) (hd : i ≤ d) {s : St} (hs : Pl u s) : ∀ (l : List Int), (∀ c ∈ l, 0 ≤ c ∧ c < (i : Int)) →
    Pl u (kidSt u d s l) ∧ Ext s (kidSt u d s l) ∧ ∀ c ∈ l, ((kidSt u d s l).1 c).isSome := by
  have key : ∀ (l : List Int) (s : St), (∀ c ∈ l, 0 ≤ c ∧ c < (i : Int)) → Pl u s → Pl u (kidSt u d s l) ∧ Ext s (kidSt u d s l) ∧ ∀ c ∈ l, ((kidSt u d s l).1 c).isSome := by
    intro l
    induction l with
    | nil => intro s _ hs; exact ⟨hs, fun _ _ h => h, by simp⟩
    | cons c l ih =>
      intro s hl hs
      obtain ⟨c0, c1⟩ := hl c List.mem_cons_self
      obtain ⟨n, rfl⟩ : ∃ n : Nat, c = n := ⟨c.toNat, by omega⟩
      obtain ⟨p1, p2, p3, _⟩ := dfs_pl hu d n s (by omega) (by omega) hs
      obtain ⟨q1, q2, q3⟩ := ih (dfs u d n s) (fun k hk => hl k (List.mem_cons_of_mem _ hk)) p1
      refine ⟨q1, fun a b h => q2 a b (p2 a b h), fun k hk => ?_⟩
      rcases List.mem_cons.1 hk with rfl | hk
      · obtain ⟨b, hb⟩ := Option.isSome_iff_exists.1 p3
        show ((kidSt u d (dfs u d n s) l).1 _).isSome = true
        rw [q2 _ _ hb]; rfl
      · exact q3 k hk
  exact fun l hl => key l s hl hs
theorem mp_ext {g g' : PM} {l : List Int} (h : ∀ c ∈ l, ∀ a, g c = some a → g' c = some a) (hs : ∀ c ∈ l, (g c).isSome) : mp g' l = mp g l := by
  refine List.map_congr_left fun c hc => ?_
  obtain ⟨a, ha⟩ := Option.isSome_iff_exists.1 (hs c hc)
  rw [h c hc a ha, ha]
end Go.Proofs.YtopbjginpmdebaaDoor.K
-- exactpplref19.walk
namespace Go.Proofs.YtopbjginpmdebaaDoor.K
open Go.RowKit Go.Maps Go.Proofs.YtopbjginpmdebaaDoorW.PrintWords Go.Proofs.YtopbjginpmdebaaDoorW.PrintLast Go.Proofs.YtopbjginpmdebaaDoorW.PrintMore
set_option linter.unusedVariables false
set_option linter.unusedSimpArgs false
def WkPost (B0 b : Nat) (ok : Nat → Prop) (w : World) (u : List Nd) (r : St) (v : Value) (e : Ending) (w' : World) : Prop := ∃ v', e = .returned v' ∧ Wk B0 b ok w' u r v' ∧ Kp w w' b v ∧ OwnOr w v' v
set_option maxHeartbeats 32000000 in
set_option maxRecDepth 100000 in
theorem walk_calls (B0 b : Nat) (u : List Nd) (hu : Down u) (Au : Option Addr) (cu : Nat) (hcu : u.length ≤ cu) (hkl : ∀ x ∈ u, x.f2.length ≤ 1073741824) (hul : (u.length + 1) * 40 ≤ 140737488355328) (hb0 : B0 ≤ b) :
    ∀ (d i : Nat) (s : St) (ok : Nat → Prop) (v : Value) (w : World), i < u.length → i < d → B0 ≤ w.heap.size → (∀ W, Below B0 w W → k60.C W Au u.length u) → Wk B0 b ok w u s v → (∀ j, ok j → j ≠ b) → (∀ j, w.heap.size ≤ j → ok j) →
    Calls Tryd.prog 78 #[.slice Au u.length cu, .int .i64 (i : Nat), .slice (some ⟨b, 0, none⟩) u.length u.length, v] w (WkPost B0 b ok w u (dfs u d i s) v) := by
  intro d
  induction d with
  | zero => intro i s ok v w _ h; omega
  | succ d ih =>
    intro i s ok v w hi hd hB hC hwk hok hnew
    have IH := Lib.hid ih
    clear ih
    have hat := hwk.arr.at i (by rw [atl_len]; exact hi)
    rw [atl_get s.1 hi] at hat
    have a0 := hat.1
    have hbl := hwk.arr.lt
    have HU := Lib.hid hu
    have HKL := Lib.hid hkl
    have HC := Lib.hid hC
    have HWK := Lib.hid hwk
    have HOK := Lib.hid hok
    have HNEW := Lib.hid hnew
    obtain ⟨N, hN⟩ : ∃ N, N = u.length := ⟨_, rfl⟩
    have HN := Lib.hid hN
    rw [← hN] at hi hul hcu ⊢
    clear hu hkl hC hwk hok hnew hat hN
    have hib : i < 4000000000000 := by omega
    have hii : (i : Int) < (N : Int) := by omega
    cases hg : s.1 (i : Int) with
    | some a =>
      have ha := (HWK.out.pl.node _ _ hg).2.1
      rw [hg] at a0
      have e : dfs u (d + 1) (i : Int) s = s := by simp only [dfs]; rw [hg]; rfl
      rw [e]
      have a1 : w.cell? ⟨b, i, none⟩ = some (.int .i64 a) := a0
      clear e hg a0
      go_enter Tryd.func78, Tryd.ntmps78
      go_wp2
      go_ret
      exact ⟨_, rfl, HWK.out, Kp.refl _ _ _, .inl rfl⟩
    | none =>
      rw [hg] at a0
      have e : dfs u (d + 1) (i : Int) s = fin u (i : Int) (kidSt u d s (nth u (i : Int)).f2) := by simp only [dfs]; rw [hg]; rfl
      rw [e]
      have a1 : w.cell? ⟨b, i, none⟩ = some (.int .i64 (-1)) := a0
      have HG := Lib.hid hg
      clear e hg a0
      obtain ⟨ad, A2, c2, rfl, d0, d1, d2, l2, g2⟩ := at_T60 (HC.out w (Below.refl _ _)) (i : Int) (by omega) (by have := HN.out; omega)
      rw [Int.toNat_natCast] at d0 d1 d2
      rw [rd_nth] at d0 d1 d2 l2 g2
      have hiu : i < u.length := by have := HN.out; omega
      obtain ⟨n, hn⟩ : ∃ n, n = nth u (i : Int) := ⟨_, rfl⟩
      have hnm : n ∈ u := by rw [hn, nth_lt hiu]; exact List.getElem_mem hiu
      rw [← hn] at d0 d1 d2 l2 g2 ⊢
      have hI2 := HKL.out n hnm
      have hkids : ∀ c ∈ n.f2, 0 ≤ c ∧ c < (i : Int) := by rw [hn]; exact HU.out i hiu
      obtain ⟨M, hM⟩ : ∃ M, M = n.f2.length := ⟨_, rfl⟩
      have HM := Lib.hid hM
      rw [← hM] at d2 l2 hI2
      have HNN := Lib.hid hn
      have HKIDS := Lib.hid hkids
      have hdl := World.block_lt_of_cell? _ _ d0
      clear hn hkids hM g2
      go_enter Tryd.func78, Tryd.ntmps78
      go_wp2
      go_region
      go_wp2
      go_loopw [3, 10] (fun o i W => ∃ (j : Nat) (vv vk : Value), vv = o ∧ i = .int .i64 j ∧ j ≤ M ∧ WL B0 b w.heap.size ok w W u v (kidSt u d s (n.f2.take j)) n.f0 n.f1 (mp (kidSt u d s (n.f2.take j)).1 (n.f2.take j)) vv vk) (fun _ i _ => M - (intOf i).toNat)
      case atStart => exact ⟨0, _, _, rfl, rfl, Nat.zero_le _, (WL.first HWK.out n.f0 n.f1).below (Below.refl _ _).drew⟩
      case round =>
        obtain ⟨j, vv, vk, rfl, rfl, hj, hwl⟩ := hrel
        have hkb2 : ∀ k, v.ownBlock = some k → B0 ≤ k := Kd.R_base HWK.out.row
        have hBW : Below B0 w wr := hwl.kp.below hB hb0 hkb2
        have hsz := hwl.kp.size
        have hβ := blk_lt hwl.box
        obtain ⟨ad', A3, c3, had, -, -, d3, l3, g3⟩ := at_T60 (HC.out wr hBW) (i : Int) (by omega) (by have := HN.out; omega)
        injection had with had
        subst had
        rw [Int.toNat_natCast] at d3
        rw [rd_nth, ← HNN.out] at d3 l3 g3
        rw [← HM.out] at d3 l3
        obtain ⟨sj, hsj⟩ : ∃ sj, sj = kidSt u d s (n.f2.take j) := ⟨_, rfl⟩
        obtain ⟨l, hl⟩ : ∃ l, l = mp (kidSt u d s (n.f2.take j)).1 (n.f2.take j) := ⟨_, rfl⟩
        rw [← hl, ← hsj] at hwl
        have hll : l.length = j := by rw [hl]; simp [mp]; have := HM.out; omega
        obtain ⟨Avk, cvk, rfl⟩ := Kd.R_slice hwl.row
        have HWL := Lib.hid hwl
        have HSJ := Lib.hid hsj
        have HL := Lib.hid hl
        have HLL := Lib.hid hll
        have HBW := Lib.hid hBW
        have HG3 := Lib.hid g3
        have hjb : j ≤ 1073741824 := by omega
        clear hwl hsj hl hll hkb2 hBW g3 d0 d1 d2 a1 hdl
        by_cases hjl : j < M
        · have hjn : j < n.f2.length := by have := HM.out; omega
          obtain ⟨ad2, rfl, hkc⟩ := reads_at HG3.out (by intro e; rw [e] at hjn; simp at hjn)
          have e0 := hkc j hjn
          have hcm : n.f2.getD j 0 ∈ n.f2 := by rw [List.getD_eq_getElem?_getD, List.getElem?_eq_getElem hjn]; exact List.getElem_mem hjn
          obtain ⟨hc0, hc1⟩ := HKIDS.out _ hcm
          obtain ⟨cn, hcn⟩ : ∃ cn : Nat, n.f2.getD j 0 = cn := ⟨(n.f2.getD j 0).toNat, by omega⟩
          rw [hcn] at e0 hc1
          have hcN : cn < N := by omega
          have hcNi : (cn : Int) < (N : Int) := by omega
          have hcb : cn < 4000000000000 := by omega
          have hji : (j : Int) < (M : Int) := by omega
          have HCN := Lib.hid hcn
          have hA := IH.out cn sj (fun q => ok q ∧ q ≠ w.heap.size ∧ some q ≠ (Value.slice Avk l.length cvk).ownBlock) vv wr (by have := HN.out; omega) (by omega) (Nat.le_trans hB hsz) (fun W hW => HC.out W (HBW.out.trans hW)) HWL.out.wk (fun q hq => HOK.out q hq.1) (fun q hq => ⟨HNEW.out q (by omega), by omega, fun e => by have := Kd.R_lt HWL.out.row q e.symm; omega⟩)
          rw [← HN.out] at hA
          have HKC := Lib.hid hkc
          clear hcm hcn hkc
          go_wp2_with (go_at_call 78; refine hA.mono ?_; clear hA; rintro e w2 ⟨v2, rfl, hwk2, hkp2, ho2⟩; have HWK2 := Lib.hid hwk2; have HKP2 := Lib.hid hkp2; have HO2 := Lib.hid ho2; clear hwk2 hkp2 ho2)
          have hwl2 := HWL.out.call (by omega) HWK2.out HKP2.out HO2.out
          have hBW2 : Below B0 w w2 := hwl2.kp.below hB hb0 (Kd.R_base HWK.out.row)
          obtain ⟨ad', A4, c4, had, -, -, d4, l4, g4⟩ := at_T60 (HC.out w2 hBW2) (i : Int) (by omega) (by have := HN.out; omega)
          injection had with had
          subst had
          rw [Int.toNat_natCast] at d4
          rw [rd_nth, ← HNN.out] at d4 l4 g4
          rw [← HM.out] at d4 l4
          obtain ⟨ad4, rfl, hkc4⟩ := reads_at g4 (by intro e; rw [e] at hjn; simp at hjn)
          have e4 := hkc4 j hjn
          rw [HCN.out] at e4
          have q0 : w2.cell? ⟨w.heap.size, 2, none⟩ = some (.slice Avk l.length cvk) := (blk_cell hwl2.box 2).trans rfl
          have fq0 := blk_frozen hwl2.box 2
          have hcu' : cn < u.length := by have := HN.out; omega
          have p0 := (hwl2.wk.arr.at cn (by rw [atl_len]; exact hcu')).1
          rw [atl_get _ hcu'] at p0
          obtain ⟨z, hz⟩ : ∃ z, z = ((dfs u d (cn : Int) sj).1 (cn : Int)).getD (-1) := ⟨_, rfl⟩
          rw [← hz] at p0
          have hm2 := blk_lt hwl2.box
          have hlb : l.length ≤ 1073741824 := by have := HLL.out; omega
          have HZ := Lib.hid hz
          have HWL2 := Lib.hid hwl2
          have HR2 := Lib.hid hwl2.row
          clear hwl2 hBW2 g4 hkc4 hz d3 e0
          go_region_law (((refine Kd.R_append_step (Kd.int .i64) (w0 := w2) (W := w2.drew) (w.heap.size + 1) (by rfl) (.tmp 51) (.tmp 63) 22 3 (.int .i64 0) 8 rfl Tryd.underlying22 info3 rfl (by decide) (by decide) (.slice Avk l.length cvk) l z [.int .i64 z] (fun k => w.heap.size < k) (fun _ => False) (by rfl) (by rfl) rfl (fun _ h => h.elim) (fun k hk => Nat.lt_of_lt_of_le hm2 hk) HR2.out (Below.refl _ _).drew hm2 (by omega) ?_; intro v5 w5 hR5 hB5 hg5 hat5; obtain ⟨A5, c5, rfl⟩ := Kd.R_slice hR5; have hbx5 := (hB5.block w.heap.size (Nat.lt_succ_self _)).trans HWL2.out.box; have q1 := blk_cell hbx5 2; have q2 := blk_frozen hbx5 2)))
          all_goals
            have hk5 := HWL2.out.kid (by omega) (Nat.le_refl _) hR5 ⟨hg5.os, hg5.tape, hg5.output, hg5.size, hg5.block⟩ hat5
            rw [List.length_append, List.length_singleton] at hk5 hR5
            have HK5 := Lib.hid hk5
            clear hR5 hB5 hg5 hat5 hbx5 hk5
            go_wp2
            go_roundw
            case rel =>
              refine ⟨j + 1, v2, .slice A5 (l.length + 1) c5, rfl, by go_num, hjl, ?_⟩
              have hgj : n.f2[j] = (cn : Int) := by
                have := HCN.out
                rw [List.getD_eq_getElem?_getD, List.getElem?_eq_getElem hjn] at this
                exact this
              have hks := kidSt_mp HU.out hiu (by omega) HWK.out.pl (n.f2.take j) (fun c hc => HKIDS.out c (List.mem_of_mem_take hc)) (d := d)
              have hds := dfs_pl HU.out d cn sj (by have := HN.out; omega) (by omega) HWL.out.wk.pl
              have h1 : kidSt u d s (n.f2.take (j + 1)) = dfs u d (cn : Int) sj := by rw [List.take_succ_eq_append_getElem hjn, kidSt_snoc, ← HSJ.out, hgj]
              have h2 : mp (dfs u d (cn : Int) sj).1 (n.f2.take (j + 1)) = l ++ [z] := by
                rw [mp_succ _ _ _ hjn, HCN.out, mp_ext (g := sj.1) (fun c hc a ha => hds.2.1 c a ha) (by rw [HSJ.out]; exact hks.2.2), HL.out, ← HSJ.out, HZ.out]
                obtain ⟨a, ha⟩ := Option.isSome_iff_exists.1 hds.2.2.1
                rw [ha]; rfl
              rw [h1, h2]
              exact HK5.out
            case measure => simp [intOf]; omega
        · have ej : j = M := by omega
          have htk : n.f2.take j = n.f2 := List.take_of_length_le (by have := HM.out; omega)
          have hs1 : sj = kidSt u d s n.f2 := by rw [HSJ.out, htk]
          have hl1 : l = mp sj.1 n.f2 := by rw [HL.out, ← HSJ.out, htk]
          have hfin : fin u (i : Int) (kidSt u d s n.f2) = (upd sj.1 (i : Int) sj.2.length, sj.2 ++ [⟨n.f0, n.f1, l⟩]) := by
            rw [← hs1, hl1]; unfold fin; rw [← HNN.out]
          have hpl : Pl u (upd sj.1 (i : Int) sj.2.length, sj.2 ++ [⟨n.f0, n.f1, l⟩]) := by
            have h1 := (dfs_pl HU.out (d + 1) i s hiu (by omega) HWK.out.pl).1
            have h2 : dfs u (d + 1) (i : Int) s = fin u (i : Int) (kidSt u d s n.f2) := by rw [HNN.out]; simp only [dfs]; rw [HG.out]; rfl
            rw [h2, hfin] at h1
            exact h1
          have HPL := Lib.hid hpl
          have HFIN := Lib.hid hfin
          obtain ⟨Ao, co, rfl⟩ := Kd.R_slice HWL.out.wk.row
          have hol := Pl.len HWL.out.wk.pl
          have p0 := (HWL.out.wk.arr.at i (by rw [atl_len]; exact hiu))
          have p1 := p0.1
          have p2 := p0.2
          have b0 : wr.cell? ⟨w.heap.size, 0, none⟩ = some (.int .i64 n.f0) := (blk_cell HWL.out.box 0).trans rfl
          have b1 : wr.cell? ⟨w.heap.size, 1, none⟩ = some (.int .i64 n.f1) := (blk_cell HWL.out.box 1).trans rfl
          have b2 : wr.cell? ⟨w.heap.size, 2, none⟩ = some (.slice Avk l.length cvk) := (blk_cell HWL.out.box 2).trans rfl
          obtain ⟨K, hK⟩ : ∃ K, K = sj.2.length := ⟨_, rfl⟩
          have HK := Lib.hid hK
          have hKb : K < 4000000000000 := by have := HN.out; omega
          have HOL := Lib.hid hol
          rw [← hK]
          clear hpl hfin hl1 hs1 htk hol p0 hK
          have hbβ : b ≠ w.heap.size := by omega
          have HROW := Lib.hid (show k60.R 60 (wr.setCell ⟨b, i, none⟩ (.int .i64 (K : Int))) B0 ok (.slice Ao K co) sj.2 from by
            have h1 := Kd.R_mono (Kd.R_far (p := ⟨b, i, none⟩) HWL.out.wk.row (fun q hq => HOK.out q hq.1) (.int .i64 (K : Int))) (ok' := ok) (fun q hq => hq.1)
            rw [← HK.out] at h1; exact h1)
          have HMM := Lib.hid (show k60.M (wr.setCell ⟨b, i, none⟩ (.int .i64 (K : Int))) B0 (fun q => w.heap.size < q ∧ some q = (Value.slice Avk l.length cvk).ownBlock) ⟨n.f0, n.f1, l⟩ [.int .i64 n.f0, .int .i64 n.f1, .slice Avk l.length cvk] from
            k60_mkM _ _ _ ⟨n.f0, n.f1, l⟩ (Kd.R_mono (Kd.R_far (p := ⟨b, i, none⟩) (Kd.R_lower (Kd.R_mono (Kd.R_tight rfl HWL.out.row) (ok' := fun q => w.heap.size < q ∧ some q = (Value.slice Avk l.length cvk).ownBlock) (fun q hq => ⟨HWL.out.row.1 q hq.symm, hq⟩)) (by omega)) (fun q hq => by show q ≠ b; have := hq.1; omega) _) (fun q hq => hq)))
          have HOO := Lib.hid (show ∀ q, (w.heap.size < q ∧ some q = (Value.slice Avk l.length cvk).ownBlock) → ok q ∧ some q ≠ (Value.slice Ao K co).ownBlock from fun q hq => ⟨HNEW.out q (by omega), fun e => by
            have := (HWL.out.wk.row.1 q (by rw [← HK.out]; exact e.symm)).2.2
            exact this hq.2⟩)
          have hszs : (wr.setCell ⟨b, i, none⟩ (.int .i64 (K : Int))).heap.size = wr.heap.size := by simp [World.setCell]
          have HSZ := Lib.hid hszs
          clear hszs
          go_wp2_with (at_builtin; refine Hid.out ?_)
          refine Lib.hid ?_
          refine Kd.R_append k60 (w0 := w) (W := wr.setCell ⟨b, i, none⟩ (.int .i64 (K : Int))) B0 rfl (.tmp 71) (.tmp 73) 24 60 (.agg #[(.int .i64 0), (.int .i64 0), (.slice none 0 0)]) 40 rfl Tryd.underlying24 info60 rfl (by decide) (by decide) (.slice Ao K co) sj.2 ⟨n.f0, n.f1, l⟩ [.int .i64 n.f0, .int .i64 n.f1, .slice Avk l.length cvk] ok (fun q => w.heap.size < q ∧ some q = (Value.slice Avk l.length cvk).ownBlock) rfl (by refine (show _ = Value.slice (some ⟨wr.heap.size, 0, none⟩) 1 1 from rfl).trans ?_; rw [HSZ.out]) HMM.out HOO.out (fun q hq => HNEW.out q (by have := HSZ.out; omega)) HROW.out ?_ (by have := HSZ.out; omega) (by have := HK.out; have := HOL.out; have := HN.out; omega) ?_
          · exact (HBW.out).setCell (p := ⟨b, i, none⟩) hb0 _
          intro v5 w5 hR5 hB5 hg5 hat5
          have HF := Lib.hid (HWL.out.done hiu hR5 (by rw [← HK.out]; exact hg5) (hat5.elim (fun h => .inl (by rw [← HK.out]; exact h)) (fun ⟨q, h1, h2⟩ => .inr ⟨q, h1, by have := HSZ.out; omega⟩)) HOK.out HPL.out)
          clear hR5 hB5 hg5 hat5
          go_wp2
          go_ret
          refine ⟨v5, rfl, ?_⟩
          rw [HFIN.out]
          exact HF.out
end Go.Proofs.YtopbjginpmdebaaDoor.K
-- exactpplref19.Order, Canon
namespace Go.Proofs.YtopbjginpmdebaaDoor.K
open Go.RowKit Go.Maps Go.Proofs.YtopbjginpmdebaaDoorW.PrintWords Go.Proofs.YtopbjginpmdebaaDoorW.PrintLast Go.Proofs.YtopbjginpmdebaaDoorW.PrintMore
set_option linter.unusedVariables false
set_option linter.unusedSimpArgs false
/-- how a function ends that returns a diagram -/
def DPost (w : World) (l : List Nd) (e : Ending) (w' : World) : Prop := Below w.heap.size w w' ∧ ∃ vo, e = .returned (.agg #[vo]) ∧ k60.R 60 w' w.heap.size (fun _ => True) vo l
/-- the first j entries are -1 -/
def mns (j n : Nat) : List Int := List.replicate j (-1) ++ List.replicate (n - j) 0
theorem mns_len {j n : Nat} (h : j ≤ n) : (mns j n).length = n := by simp [mns]; omega
theorem mns_set {j n : Nat} (h : j < n) : (mns j n).set j (-1) = mns (j + 1) n := by
  unfold mns
  obtain ⟨m, hm⟩ : ∃ m, n - j = m + 1 := ⟨n - j - 1, by omega⟩
  rw [hm, List.set_append_right _ _ (by simp), List.length_replicate, Nat.sub_self, List.replicate_succ, List.set_cons_zero, show n - (j + 1) = m by omega, List.replicate_succ' (n := j), List.append_assoc]
  rfl
theorem mns_all (n : Nat) : mns n n = atl n (fun _ => none) := by
  unfold mns atl
  simp only [Nat.sub_self, List.replicate_zero, List.append_nil, Option.getD_none]
  apply List.ext_getElem
  · simp
  · intro i h1 h2; simp
set_option maxHeartbeats 16000000 in
set_option maxRecDepth 100000 in
theorem order_calls (u : List Nd) (root : Nat) (Au : Option Addr) (cu : Nat) (w : World) (hC : k60.C w Au u.length u) (hcu : u.length ≤ cu) (hu : Down u) (hr : root < u.length) (hkl : ∀ x ∈ u, x.f2.length ≤ 1073741824) (hul : (u.length + 1) * 40 ≤ 140737488355328) :
    Calls Tryd.prog 73 #[.slice Au u.length cu, .int .i64 (root : Nat)] w (DPost w (expo u (root : Nat))) := by
  have HC := Lib.hid hC
  have HU := Lib.hid hu
  have HKL := Lib.hid hkl
  have HUL := Lib.hid hul
  have HCU := Lib.hid hcu
  obtain ⟨N, hN⟩ : ∃ N, N = u.length := ⟨_, rfl⟩
  have HN := Lib.hid hN
  have hmk := print_make (P := Tryd.prog) 22 3 .i64 8 Tryd.underlying22 info3 (by decide) N (by omega)
  rw [← hN] at hul hcu hr ⊢
  clear hC hu hkl hN
  have hb0 : Below w.heap.size w (w.alloc (.cells #[.slice none 0 0] 31)) := (Below.refl _ w).alloc (Nat.le_refl _) _
  have hbx0 := heap_alloc_new w (.cells #[.slice none 0 0] 31)
  have hs0 : (w.alloc (.cells #[.slice none 0 0] 31)).heap.size = w.heap.size + 1 := by simp
  have harr := Arr.made (w.alloc (.cells #[.slice none 0 0] 31)) N (by omega)
  rw [hs0] at harr
  have hb1 : Below w.heap.size w ((w.alloc (.cells #[.slice none 0 0] 31)).alloc (.cells (madeCells #[.int .i64 0] N) 3)) := hb0.alloc (by rw [hs0]; omega) _
  have hbx1 : ((w.alloc (.cells #[.slice none 0 0] 31)).alloc (.cells (madeCells #[.int .i64 0] N) 3)).heap[w.heap.size]? = some (.cells #[.slice none 0 0] 31 (0, 0)) := (Below.heap_alloc _ _ _ (by rw [hs0]; omega)).trans hbx0
  have H0 := Lib.hid (And.intro hb1 (And.intro hbx1 harr))
  clear hb0 hbx0 hs0 harr hb1 hbx1
  go_enter Tryd.func73, Tryd.ntmps73
  go_wp2
  go_loopw [6] (fun i W => ∃ j : Nat, i = .int .i64 j ∧ j ≤ N ∧ Below w.heap.size w W ∧ W.heap[w.heap.size]? = some (.cells #[.slice none 0 0] 31 (0, 0)) ∧ Arr W (w.heap.size + 1) (mns j N)) (fun i _ => N - (intOf i).toNat)
  case atStart => exact ⟨0, rfl, Nat.zero_le _, H0.out.1, H0.out.2.1, by simpa [mns] using H0.out.2.2⟩
  case round =>
    obtain ⟨j, rfl, hj, hB, hbx, har⟩ := hrel
    have HB := Lib.hid hB
    have HBX := Lib.hid hbx
    have HA := Lib.hid har
    clear hB hbx har
    by_cases hjl : j < N
    · have e0 := HA.out.at j (by rw [mns_len hj]; exact hjl)
      have e1 := e0.1
      have e2 := e0.2
      have hjb : j < 4000000000000 := by omega
      have hji : (j : Int) < (N : Int) := by omega
      clear e0
      go_wp2
      go_roundw
      case rel =>
        refine ⟨j + 1, by go_num, hjl, HB.out.setCell (p := ⟨w.heap.size + 1, j, none⟩) (by show w.heap.size ≤ w.heap.size + 1; omega) _, (Below.heap_setCell _ ⟨w.heap.size + 1, j, none⟩ _ _ (by show w.heap.size ≠ w.heap.size + 1; omega)).trans HBX.out, ?_⟩
        rw [← mns_set hjl]
        exact HA.out.put j (-1)
      case measure => simp [intOf]; omega
    · obtain rfl : j = N := by omega
      have hwk : Wk w.heap.size (w.heap.size + 1) (fun q => q ≠ w.heap.size + 1 ∧ q ≠ w.heap.size) wr u (fun _ => none, []) (.slice none 0 0) := ⟨by rw [← HN.out, ← mns_all]; exact HA.out, Kd.R_nil _ _ _ _ _, pl_nil u⟩
      have hbl := HA.out.lt
      have hA := (walk_calls w.heap.size (w.heap.size + 1) u HU.out Au cu HCU.out HKL.out HUL.out (by omega) (root + 1) root _ (fun q => q ≠ w.heap.size + 1 ∧ q ≠ w.heap.size) (.slice none 0 0) wr (by have := HN.out; omega) (by omega) (by omega) (fun W hW => Kd.C_below HC.out (HB.out.trans hW)) hwk (fun q hq => hq.1) (fun q hq => ⟨by omega, by omega⟩)).mono (R' := fun e w2 => ∃ v', e = .returned v' ∧ Below w.heap.size w w2 ∧ w2.heap[w.heap.size]? = some (.cells #[.slice none 0 0] 31 (0, 0)) ∧ k60.R 60 w2 w.heap.size (fun q => q ≠ w.heap.size + 1 ∧ q ≠ w.heap.size) v' (expo u (root : Nat))) (by
        rintro e w2 ⟨v', rfl, h1, h2, h3⟩
        refine ⟨v', rfl, HB.out.trans (h2.below (by omega) (by omega) (by simp [Value.ownBlock])), (h2.same _ (blk_lt HBX.out) (by omega) (by simp [Value.ownBlock])).trans HBX.out, ?_⟩
        unfold expo
        rw [Int.toNat_natCast]
        exact h1.row)
      rw [← HN.out] at hA
      clear hwk
      go_wp2_with (go_at_call 78; refine hA.mono ?_; clear hA; rintro e w2 ⟨v2, rfl, hb2, hbx2, hR2⟩; obtain ⟨A2, c2, rfl⟩ := Kd.R_slice hR2; have b0 := blk_cell hbx2 0; have f0 := blk_frozen hbx2 0; have HB2 := Lib.hid hb2; have HBX2 := Lib.hid hbx2; have HR2 := Lib.hid hR2; clear hb2 hbx2 hR2)
      have hb3 := blk_set HBX2.out 0 (.slice A2 (expo u (root : Nat)).length c2)
      have q0 := (blk_cell hb3 0).trans rfl
      refine bodyPost_ret (v := .agg #[.slice A2 (expo u (root : Nat)).length c2]) (by simp [results, Tryd.f73, go_sem, q0]) rfl ⟨HB2.out.setCell (p := ⟨w.heap.size, 0, none⟩) (Nat.le_refl _) _, _, rfl, ?_⟩
      exact Kd.R_mono (Kd.R_far (p := ⟨w.heap.size, 0, none⟩) HR2.out (fun q hq => hq.2) _) (fun _ _ => trivial)
theorem expo_len {u : List Nd} (hu : Down u) {r : Nat} (hr : r < u.length) : (expo u (r : Nat)).length ≤ u.length := by
  obtain ⟨g, h, _⟩ := expo_pl hu hr
  exact h.len
set_option maxHeartbeats 16000000 in
set_option maxRecDepth 100000 in
theorem canon_calls (nodes : List Nd) (A : Option Addr) (c : Nat) (w : World) (hC : k60.C w A nodes.length nodes) (hc : nodes.length ≤ c) (hF : Fit nodes) (hfr : ∀ n ∈ nodes, Frm n) (hne : nodes ≠ [])
    (hlen : ∀ x ∈ nodes, x.f2.length ≤ 1073741824) (hroom : (nodes.length + 1) * 40 ≤ 140737488355328) :
    Calls Tryd.prog 68 #[.slice A nodes.length c] w (DPost w (expo (imp [] [] nodes).1 (rtN nodes : Nat))) := by
  have hb0 : Below w.heap.size w (w.alloc (.cells #[.slice none 0 0] 31)) := (Below.refl _ w).alloc (Nat.le_refl _) _
  have hbx0 := heap_alloc_new w (.cells #[.slice none 0 0] 31)
  have hs0 : (w.alloc (.cells #[.slice none 0 0] 31)).heap.size = w.heap.size + 1 := by simp
  have hp := List.length_pos_iff.2 hne
  have htl := imp_tbl hF tbl_nil nodes.length (Nat.le_refl _)
  rw [List.take_length] at htl
  have hl := imp_len nodes [] []
  have hrt : lk (imp [] [] nodes).2 ((nodes.length - 1 : Nat) : Int) = (rtN nodes : Int) ∧ rtN nodes < (imp [] [] nodes).1.length := by
    have h2 := htl.1.at_lt _ (lk_mem (at_ := (imp [] [] nodes).2) (c := ((nodes.length - 1 : Nat) : Int)) (by omega) (by rw [hl]; simp; omega))
    unfold rtN; omega
  have hA := (append_calls (w.heap.size + 1) (fun _ => True) [] nodes none A 0 c (w.alloc (.cells #[.slice none 0 0] 31)) (by omega) (Kd.R_nil _ _ _ _ _) (fun W hW => Kd.C_below hC (hb0.trans ⟨hW.os, hW.tape, hW.output, hW.size, fun j hj => hW.block j (by omega) (by simp [Value.ownBlock])⟩)) hc hF hfr tbl_nil hlen (by simp) (by simp; omega) (fun _ _ => trivial)).mono (R' := fun e w2 => ∃ A2 c2, e = .returned (.tuple #[.slice A2 (imp [] [] nodes).1.length c2, .slice (some ⟨w.heap.size + 1, 0, none⟩) nodes.length nodes.length]) ∧ (imp [] [] nodes).1.length ≤ c2 ∧ k60.C w2 A2 (imp [] [] nodes).1.length (imp [] [] nodes).1 ∧ Below (w.heap.size + 1) (w.alloc (.cells #[.slice none 0 0] 31)) w2 ∧ w2.cell? ⟨w.heap.size + 1, nodes.length - 1, none⟩ = some (.int .i64 (rtN nodes : Nat))) (by
    rintro e w2 ⟨v', rfl, h⟩
    have h1 := h.row
    have h2 := h.arr
    rw [List.take_length] at h1 h2
    rw [hs0] at h2 ⊢
    obtain ⟨A2, c2, rfl, h3, h4⟩ := Kd.R_reads h1
    refine ⟨A2, c2, rfl, h3, h4, ⟨h.grown.os, h.grown.tape, h.grown.output, h.grown.size, fun j hj => h.grown.block j (by omega) (by simp [Value.ownBlock])⟩, ?_⟩
    have h5 := (h2.at (nodes.length - 1) (by rw [padd_len (by rw [hl]; simp)]; omega)).1
    rw [padd_get (by rw [hl]; simp; omega)] at h5
    rw [h5]
    have h6 := hrt.1
    unfold lk at h6
    rw [Int.toNat_natCast] at h6
    rw [h6])
  have hkl : ∀ x ∈ (imp [] [] nodes).1, x.f2.length ≤ 1073741824 := imp_kids nodes [] [] (by simp) hlen
  obtain ⟨U, hU⟩ : ∃ U, U = (imp [] [] nodes).1 := ⟨_, rfl⟩
  rw [← hU] at hA hkl htl hrt ⊢
  have HB0 := Lib.hid hb0
  have HBX0 := Lib.hid hbx0
  have HD := Lib.hid htl.1.down
  have HRT := Lib.hid hrt.2
  have HKL := Lib.hid hkl
  have hUl : U.length ≤ nodes.length := by have := htl.2.1; simpa using this
  obtain ⟨N, hN⟩ : ∃ N, N = nodes.length := ⟨_, rfl⟩
  obtain ⟨R, hR⟩ : ∃ R, R = rtN nodes := ⟨_, rfl⟩
  rw [← hR] at hA HRT ⊢
  rw [← hN] at hA hUl hp hroom hc ⊢
  have hNb : N < 4000000000000 := by omega
  have e1 : (N : Int) - 1 = ((N - 1 : Nat) : Int) := by omega
  have hN1 : N - 1 < N := by omega
  have HS0 := Lib.hid hs0
  clear hb0 hbx0 htl hrt hkl hU hl hC hF hfr hne hlen hN hs0 hR
  go_enter Tryd.func68, Tryd.ntmps68
  go_wp2_with (first
    | (go_at_call 71; refine hA.mono ?_; clear hA; rintro e w2 ⟨A2, c2, rfl, hc2, hC2, hb2, hat2⟩; have hbx2 := (hb2.block w.heap.size (by omega)).trans HBX0.out; have HBX2 := Lib.hid hbx2; have HB2 := Lib.hid (HB0.out.trans (hb2.mono (by omega))); have HC2 := Lib.hid hC2; clear hbx2 hb2 hC2)
    | (go_at_call 73; refine (order_calls U R A2 c2 w2 HC2.out hc2 HD.out HRT.out HKL.out (by omega)).mono ?_; rintro e w3 ⟨hb3, vo, rfl, hR3⟩; obtain ⟨A3, c3, rfl⟩ := Kd.R_slice hR3; have hbx3 := (hb3.block _ (blk_lt HBX2.out)).trans HBX2.out; have b0 := blk_cell hbx3 0; have f0 := blk_frozen hbx3 0; have HBX3 := Lib.hid hbx3; have HB3 := Lib.hid hb3; have HR3 := Lib.hid hR3; clear hbx3 hb3 hR3))
  have hb4 := blk_set HBX3.out 0 (.slice A3 (expo U (R : Nat)).length c3)
  have q0 := (blk_cell hb4 0).trans rfl
  have hsz2 := HB2.out.size
  have hl2 := blk_lt HBX2.out
  refine bodyPost_ret (v := .agg #[.slice A3 (expo U (R : Nat)).length c3]) (by simp [results, Tryd.f68, go_sem, q0]) rfl ⟨(HB2.out.trans (HB3.out.mono hsz2)).setCell (p := ⟨w.heap.size, 0, none⟩) (Nat.le_refl _) _, _, rfl, ?_⟩
  exact Kd.R_lower (Kd.R_mono (Kd.R_far (p := ⟨w.heap.size, 0, none⟩) (Kd.R_bound HR3.out) (fun q hq => by show q ≠ w.heap.size; have := hq.2.1; omega) _) (fun _ _ => trivial)) hsz2
end Go.Proofs.YtopbjginpmdebaaDoor.K
-- the reference's Canon, in the form that the printed texts call it
namespace Go.Proofs.YtopbjginpmdebaaDoor.K
open Go.RowKit Go.Maps Go.Proofs.YtopbjginpmdebaaDoorW.PrintWords Go.Proofs.YtopbjginpmdebaaDoorW.PrintLast Go.Proofs.YtopbjginpmdebaaDoorW.PrintMore
set_option linter.unusedVariables false
set_option linter.unusedSimpArgs false
theorem gr_frm {nodes : List Nd} (h : grB nodes = true) : ∀ n ∈ nodes, Frm n := by
  intro n hn
  obtain ⟨i, hi, rfl⟩ := mem_nth hn
  rcases gr_nd h hi with h1 | h1
  · exact .inl ⟨(lf_iff.1 h1).1, (lf_iff.1 h1).2.1⟩
  · have := (br_iff.1 h1).1
    exact .inr ⟨this.1, this.2.2.1, fun e => by rw [e] at this; simp at this⟩
def exactpplref19_Canon.f (l : List S60) : Option (List S60) := if grB l = true then (if ndOk l = true then some (cn l) else none) else none
theorem exactpplref19_Canon.calls (A : Option Addr) (c : Nat) (l : List S60) (r : List S60) (w : World) (hr : Kd.C k60 w A l.length l) (hc : l.length ≤ c) (h : exactpplref19_Canon.f l = some r) :
    Calls Tryd.prog 68 #[.slice A l.length c] w fun e w' => ∃ v0_ : Value, e = .returned (.agg #[v0_]) ∧ Kd.V k60 60 w' w.heap.size (fun k_ => (w.heap.size ≤ k_)) v0_ r ∧ Below w.heap.size w w' := by
  unfold exactpplref19_Canon.f at h
  by_cases hg : grB l = true
  · rw [if_pos hg] at h
    by_cases hk : ndOk l = true
    · rw [if_pos hk] at h
      obtain rfl := Option.some.inj h
      exact (canon_calls l A c w hr hc (gr_fit hg) (gr_frm hg) (gr_ne hg) (fun x hx => (ndOk_I hk x hx).2.2) (ndOk_room hk)).mono fun e w' ⟨hb, vo, he, hR⟩ => ⟨vo, he, V_of_R hR, hb⟩
    · rw [if_neg hk] at h; cases h
  · rw [if_neg hg] at h; cases h
end Go.Proofs.YtopbjginpmdebaaDoor.K
-- exactpplref19.Join
namespace Go.Proofs.YtopbjginpmdebaaDoor.K
open Go.RowKit Go.Maps Go.Proofs.YtopbjginpmdebaaDoorW.PrintWords Go.Proofs.YtopbjginpmdebaaDoorW.PrintLast Go.Proofs.YtopbjginpmdebaaDoorW.PrintMore
set_option linter.unusedVariables false
set_option linter.unusedSimpArgs false
/-- one diagram more in a table, its root noted -/
def impK (s : List Nd × List Int) (d : S31) : List Nd × List Int := ((imp s.1 [] d.f0).1, s.2 ++ [lk (imp s.1 [] d.f0).2 ((d.f0.length - 1 : Nat) : Int)])
def impKs (ds : List S31) : List Nd × List Int := ds.foldl impK ([], [])
theorem impKs_snoc (ds : List S31) (d : S31) : impKs (ds ++ [d]) = impK (impKs ds) d := by simp [impKs]
def sumL (ds : List S31) : Nat := (ds.map fun d => d.f0.length).sum
theorem sumL_snoc (ds : List S31) (d : S31) : sumL (ds ++ [d]) = sumL ds + d.f0.length := by simp [sumL]
theorem sumL_take_le (ds : List S31) (k : Nat) : sumL (ds.take k) ≤ sumL ds := by
  have : sumL ds = sumL (ds.take k) + sumL (ds.drop k) := by
    conv => lhs; rw [← List.take_append_drop k ds]
    unfold sumL
    rw [List.map_append, List.sum_append]
  omega
theorem impK_tbl {s : List Nd × List Int} (hs : Tbl s.1 s.2) {d : S31} (hf : Fit d.f0) (hne : d.f0 ≠ []) :
    Tbl (impK s d).1 (impK s d).2 ∧ s.1 <+: (impK s d).1 ∧ (impK s d).1.length ≤ s.1.length + d.f0.length := by
  have h := imp_tbl hf (u := s.1) ⟨hs.down, hs.nodup, by simp⟩ d.f0.length (Nat.le_refl _)
  rw [List.take_length] at h
  have hp := List.length_pos_iff.2 hne
  refine ⟨⟨h.1.down, h.1.nodup, fun a ha => ?_⟩, h.2.2, h.2.1⟩
  rcases List.mem_append.1 ha with ha | ha
  · have := hs.at_lt a ha
    have := h.2.2.length_le
    exact ⟨by omega, by show a < ((imp s.1 [] d.f0).1.length : Int); omega⟩
  · rw [List.mem_singleton.1 ha]
    exact h.1.at_lt _ (lk_mem (by omega) (by rw [imp_len]; simp; omega))
theorem impKs_tbl {ds : List S31} (hd : ∀ d ∈ ds, Fit d.f0 ∧ d.f0 ≠ []) : ∀ k, k ≤ ds.length → Tbl (impKs (ds.take k)).1 (impKs (ds.take k)).2 ∧ (impKs (ds.take k)).1.length ≤ sumL (ds.take k) ∧ (impKs (ds.take k)).2.length = k := by
  intro k
  induction k with
  | zero => intro _; simp only [List.take_zero, impKs, List.foldl_nil]; exact ⟨tbl_nil, by simp, rfl⟩
  | succ k ih =>
    intro hk
    obtain ⟨h1, h2, h3⟩ := ih (by omega)
    have hm := hd ds[k] (List.getElem_mem _)
    rw [List.take_succ_eq_append_getElem (by omega), impKs_snoc, sumL_snoc]
    have h4 := impK_tbl h1 hm.1 hm.2
    exact ⟨h4.1, by have := h4.2.2; omega, by simp [impK, h3]⟩
theorem impKs_kids {m : Nat} {ds : List S31} (hd : ∀ d ∈ ds, ∀ x ∈ d.f0, x.f2.length ≤ m) : ∀ k, k ≤ ds.length → ∀ x ∈ (impKs (ds.take k)).1, x.f2.length ≤ m := by
  intro k
  induction k with
  | zero => intro _; simp [impKs]
  | succ k ih =>
    intro hk
    rw [List.take_succ_eq_append_getElem (by omega), impKs_snoc]
    exact imp_kids _ _ _ (ih (by omega)) (hd _ (List.getElem_mem _))
/-- the joined table and its root -/
def jnT (site : Int) (ds : List S31) : List Nd × Int := placeB (impKs ds).1 site (impKs ds).2
/-- between two rounds of Join: the result's cell at block c0, the node at block β -/
structure JnSt (c0 β : Nat) (w W : World) (site : Int) (s : List Nd × List Int) (v vk : Value) : Prop where
  below : Below w.heap.size w W
  row : k60.R 60 W w.heap.size (fun j => j ≠ c0 ∧ j ≠ β ∧ some j ≠ vk.ownBlock) v s.1
  res : W.heap[c0]? = some (.cells #[.slice none 0 0] 31 (0, 0))
  box : W.heap[β]? = some (.cells #[.int .i64 site, .int .i64 0, vk] 60 (0, 0))
  kids : (Kd.int .i64).R 3 W (β + 1) (fun k => β < k) vk s.2
/-- a diagram more is in the table -/
theorem JnSt.app {c0 β : Nat} {w W W2 : World} {site : Int} {s : List Nd × List Int} {v vk v2 : Value} {d : List Nd} {ok : Nat → Prop} (h : JnSt c0 β w W site s v vk) (hc : w.heap.size ≤ c0) (hcβ : c0 < β)
    (a : AppSt W W2 w.heap.size (fun j => j ≠ c0 ∧ j ≠ β ∧ some j ≠ vk.ownBlock) v s.1 d d.length v2) : JnSt c0 β w W2 site ((imp s.1 [] d).1, s.2) v2 vk := by
  have hr := a.row
  rw [List.take_length] at hr
  have hg := a.grown
  have hv : ∀ k, v.ownBlock = some k → w.heap.size ≤ k := Kd.R_base h.row
  refine ⟨h.below.trans ⟨hg.os, hg.tape, hg.output, hg.size, fun j hj => hg.block j (Nat.lt_of_lt_of_le hj h.below.size) (fun e => by have := hv j e.symm; omega)⟩, Kd.R_mono hr (fun j hj => hj.1), ?_, ?_, ?_⟩
  · exact (hg.block _ (blk_lt h.res) (fun e => (h.row.1 _ e.symm).1 rfl)).trans h.res
  · exact (hg.block _ (blk_lt h.box) (fun e => (h.row.1 _ e.symm).2.1 rfl)).trans h.box
  · exact ints_move h.kids (fun q hq => hg.block q (Kd.R_lt h.kids q hq) (fun e => (h.row.1 q e.symm).2.2 hq.symm))
/-- its root is noted -/
theorem JnSt.kid {c0 β : Nat} {w W W5 : World} {site z : Int} {s : List Nd × List Int} {v vk v5 : Value} (h : JnSt c0 β w W site s v vk) (hc : w.heap.size ≤ c0) (hcβ : c0 < β)
    (hR : (Kd.int .i64).R 3 W5 (β + 1) (fun k => β < k) v5 (s.2 ++ [z])) (hg : W.grownBy W5 vk.ownBlock) (hat : v5.ownBlock = vk.ownBlock ∨ ∃ c, v5.ownBlock = some c ∧ W.heap.size ≤ c) :
    JnSt c0 β w (W5.setCell ⟨β, 2, none⟩ v5) site (s.1, s.2 ++ [z]) v v5 := by
  have hkβ : ∀ q, vk.ownBlock = some q → β < q := h.kids.1
  have hbx5 : W5.heap[β]? = some (.cells #[.int .i64 site, .int .i64 0, vk] 60 (0, 0)) := (hg.block β (blk_lt h.box) (fun e => by have := hkβ β e.symm; omega)).trans h.box
  have hrow5 : k60.R 60 W5 w.heap.size (fun j => j ≠ c0 ∧ j ≠ β ∧ some j ≠ v5.ownBlock) v s.1 := by
    refine Kd.R_mono (Kd.R_grown (Kd.R_bound h.row) hg (fun j hj => hj.1.2.2)) (fun j hj => ⟨hj.1.1, hj.1.2.1, fun e => ?_⟩)
    rcases hat with h1 | ⟨c, h1, h2⟩
    · exact hj.1.2.2 (e.trans h1)
    · rw [h1] at e; injection e with e; have := hj.2.2.1; omega
  refine ⟨?_, Kd.R_far (p := ⟨β, 2, none⟩) hrow5 (fun j hj => hj.2.1) _, ?_, blk_set hbx5 2 v5, Kd.R_far (p := ⟨β, 2, none⟩) hR (fun k hk => by show k ≠ β; omega) _⟩
  · exact (h.below.trans ⟨hg.os, hg.tape, hg.output, hg.size, fun j hj => hg.block j (Nat.lt_of_lt_of_le hj h.below.size) (fun e => by have := hkβ j e.symm; omega)⟩).setCell (p := ⟨β, 2, none⟩) (by show w.heap.size ≤ β; omega) _
  · exact (Below.heap_setCell W5 ⟨β, 2, none⟩ v5 c0 (by show c0 ≠ β; omega)).trans ((hg.block c0 (blk_lt h.res) (fun e => by have := hkβ c0 e.symm; omega)).trans h.res)
theorem plR_B {u : List Nd} {site : Int} {ks : List Int} (h : site ≠ -1) : plR u ⟨site, 0, ks⟩ = placeB u site ks := by
  unfold plR placeB
  by_cases hs : sameK ks = true
  · rw [if_pos ⟨h, hs⟩, if_pos hs]
  · rw [if_neg (fun e => hs e.2), if_neg hs]
theorem w64_id' {x : Int} (h : -9223372036854775808 ≤ x) (h2 : x ≤ 9223372036854775807) : wrap64 x = x := by unfold wrap64; omega
set_option maxHeartbeats 32000000 in
set_option maxRecDepth 100000 in
theorem join_calls (site : Int) (ds : List S31) (A : Option Addr) (c : Nat) (w : World) (hC : Kd.C k31 w A ds.length ds) (hc : ds.length ≤ c) (hne : ds ≠ []) (hs : 0 ≤ site) (hg : ∀ d ∈ ds, grB d.f0 = true) (hlen : ds.length ≤ 1000000) (hsum : (sumL ds + 2) * 40 ≤ 140737488355328) :
    Calls Tryd.prog 53 #[.int .i64 site, .slice A ds.length c] w (DPost w (expo (jnT site ds).1 (jnT site ds).2)) := by
  have hpos := List.length_pos_iff.2 hne
  have h0 : JnSt w.heap.size (w.heap.size + 1) w ((w.alloc (.cells #[.slice none 0 0] 31)).alloc (.cells #[.int .i64 site, .int .i64 0, .slice none 0 0] 60)) site ([], []) (.slice none 0 0) (.slice none 0 0) := by
    have e1 : (w.alloc (.cells #[.slice none 0 0] 31)).heap.size = w.heap.size + 1 := by simp
    refine ⟨((Below.refl _ w).alloc (Nat.le_refl _) _).alloc (by rw [e1]; omega) _, Kd.R_nil _ _ _ _ _, (Below.heap_alloc _ _ _ (by rw [e1]; omega)).trans (heap_alloc_new w _), ?_, Kd.R_nil _ _ _ _ _⟩
    have := heap_alloc_new (w.alloc (.cells #[.slice none 0 0] 31)) (.cells #[.int .i64 site, .int .i64 0, .slice none 0 0] 60)
    rwa [e1] at this
  have H0 := Lib.hid h0
  have HC := Lib.hid hC
  have HG := Lib.hid hg
  have HSUM := Lib.hid hsum
  obtain ⟨N, hN⟩ : ∃ N, N = ds.length := ⟨_, rfl⟩
  have HN := Lib.hid hN
  rw [← hN] at hpos hlen hc ⊢
  clear hC hg hsum hN h0 hne
  go_enter Tryd.func53, Tryd.ntmps53
  go_wp2
  go_loopw [5, 7] (fun v i W => ∃ (k : Nat) (vv vk : Value), vv = v ∧ i = .int .i64 k ∧ k ≤ N ∧ JnSt w.heap.size (w.heap.size + 1) w W site (impKs (ds.take k)) vv vk) (fun _ i _ => N - (intOf i).toNat)
  case atStart => exact ⟨0, _, _, rfl, rfl, Nat.zero_le _, by simpa [impKs] using H0.out⟩
  case round =>
    obtain ⟨k, vv, vk, rfl, rfl, hk, hst⟩ := hrel
    obtain ⟨s, hse⟩ : ∃ s, s = impKs (ds.take k) := ⟨_, rfl⟩
    rw [← hse] at hst
    obtain ⟨hT, hTl, hTn⟩ := impKs_tbl (ds := ds) (fun d hd => ⟨gr_fit (HG.out d hd), gr_ne (HG.out d hd)⟩) k (by have := HN.out; omega)
    have hTk := impKs_kids (m := 16) (ds := ds) (fun d hd => gr_kids (HG.out d hd)) k (by have := HN.out; omega)
    rw [← hse] at hT hTl hTn hTk
    have hsl := sumL_take_le ds k
    obtain ⟨Av, cv, rfl⟩ := Kd.R_slice hst.row
    obtain ⟨Ak, ck, rfl⟩ := Kd.R_slice hst.kids
    have HST := Lib.hid hst
    have HSE := Lib.hid hse
    have HT := Lib.hid hT
    have HTL := Lib.hid hTl
    have HTN := Lib.hid hTn
    have HTK := Lib.hid hTk
    have HSL := Lib.hid hsl
    have hβ := blk_lt hst.box
    clear hst hse hT hTl hTn hTk hsl
    by_cases hlt : k < N
    · have hkd : k < ds.length := by have := HN.out; omega
      obtain ⟨ad, A0, c0, rfl, d0, l0, g0⟩ := at_T31 HC.out (k : Int) (by omega) (by omega)
      rw [Int.toNat_natCast] at d0
      have hrd : rd_T31 ds (k : Int) = ds[k] := by unfold rd_T31; rw [Int.toNat_natCast, List.getD_eq_getElem?_getD, List.getElem?_eq_getElem hkd]; rfl
      rw [hrd] at d0 l0 g0
      obtain ⟨d, hd⟩ : ∃ d, d = ds[k] := ⟨_, rfl⟩
      have hdm : d ∈ ds := by rw [hd]; exact List.getElem_mem hkd
      rw [← hd] at d0 l0 g0
      replace d0 := pw_cell_below HST.out.below d0
      have hgd := HG.out d hdm
      have hdl : d.f0.length ≤ sumL ds := by
        have : ds.take (k + 1) = ds.take k ++ [d] := by rw [List.take_succ_eq_append_getElem hkd, ← hd]
        have h1 := sumL_take_le ds (k + 1)
        rw [this, sumL_snoc] at h1
        omega
      have hsuml : sumL (ds.take k) + d.f0.length ≤ sumL ds := by
        have : ds.take (k + 1) = ds.take k ++ [d] := by rw [List.take_succ_eq_append_getElem hkd, ← hd]
        have h1 := sumL_take_le ds (k + 1)
        rwa [this, sumL_snoc] at h1
      have hkb : k < 4000000000000 := by omega
      have hki : (k : Int) < (N : Int) := by omega
      have hwB := HST.out.below.size
      have hvB : ∀ q, (Value.slice Av s.1.length cv).ownBlock = some q → w.heap.size ≤ q := Kd.R_base HST.out.row
      have hA := (append_calls w.heap.size (fun j => j ≠ w.heap.size ∧ j ≠ w.heap.size + 1 ∧ some j ≠ (Value.slice Ak s.2.length ck).ownBlock) s.1 d.f0 Av A0 cv c0 wr hwB HST.out.row (fun W hW => Kd.C_below g0 (HST.out.below.trans ⟨hW.os, hW.tape, hW.output, hW.size, fun j hj => hW.block j (Nat.lt_of_lt_of_le hj hwB) (fun e => by have := hvB j e.symm; omega)⟩)) l0 (gr_fit hgd) (gr_frm hgd) ⟨HT.out.down, HT.out.nodup, by simp⟩ (fun x hx => Nat.le_trans (gr_kids hgd x hx) (by decide)) (fun x hx => Nat.le_trans (HTK.out x hx) (by decide)) (by have := HTL.out; have := HSL.out; have := HSUM.out; omega) (fun j hj => ⟨by omega, by omega, fun e => by have := Kd.R_lt HST.out.kids j e.symm; omega⟩)).mono (R' := fun e w2 => ∃ v', e = .returned (.tuple #[v', .slice (some ⟨wr.heap.size, 0, none⟩) d.f0.length d.f0.length]) ∧ JnSt w.heap.size (w.heap.size + 1) w w2 site ((imp s.1 [] d.f0).1, s.2) v' (.slice Ak s.2.length ck) ∧ w2.cell? ⟨wr.heap.size, d.f0.length - 1, none⟩ = some (.int .i64 (lk (imp s.1 [] d.f0).2 ((d.f0.length - 1 : Nat) : Int)))) (by
        rintro e w2 ⟨v', rfl, h1⟩
        refine ⟨v', rfl, HST.out.app (ok := fun _ => True) (Nat.le_refl _) (by omega) h1, ?_⟩
        have h2 := h1.arr
        rw [List.take_length] at h2
        have hp := gr_pos hgd
        have hl := imp_len d.f0 s.1 []
        have h3 := (h2.at (d.f0.length - 1) (by rw [padd_len (by rw [hl]; simp)]; omega)).1
        rw [padd_get (by rw [hl]; simp; omega)] at h3
        rw [h3]; unfold lk; rw [Int.toNat_natCast])
      obtain ⟨z, hz⟩ : ∃ z, z = lk (imp s.1 [] d.f0).2 ((d.f0.length - 1 : Nat) : Int) := ⟨_, rfl⟩
      obtain ⟨U, hU⟩ : ∃ U, U = (imp s.1 [] d.f0).1 := ⟨_, rfl⟩
      rw [← hz, ← hU] at hA
      have HZ := Lib.hid hz
      have HU := Lib.hid hU
      have HD := Lib.hid hd
      have hp := gr_pos hgd
      obtain ⟨D, hD⟩ : ∃ D, D = d.f0.length := ⟨_, rfl⟩
      rw [← hD] at hA d0 l0 hdl hsuml hp
      obtain ⟨E, rfl⟩ : ∃ E, D = E + 1 := ⟨D - 1, by omega⟩
      rw [Nat.add_sub_cancel] at hA
      have hDb : E < 4000000000000 := by have := HSUM.out; omega
      have hE1 : (E : Int) < (E : Int) + 1 := by omega
      have e3 : IntKind.i64.wrap (E : Int) = (E : Int) := (i64_w _).trans (w64_id' (by omega) (by omega))
      clear hz hU hd hrd g0 hD hgd hdm hvB
      go_wp2_with (go_at_call 71; refine hA.mono ?_; clear hA; rintro e w2 ⟨v2, rfl, hst2, p0⟩; obtain ⟨A2, c2, rfl⟩ := Kd.R_slice hst2.row; have q0 := ((blk_cell hst2.box 2).trans rfl : w2.cell? ⟨w.heap.size + 1, 2, none⟩ = some (.slice Ak s.2.length ck)); have fq0 := blk_frozen hst2.box 2; have hm2 := blk_lt hst2.box; have HST2 := Lib.hid hst2; clear hst2)
      have HR2 := Lib.hid HST2.out.kids
      have hkl : s.2.length ≤ 1000000 := by have := HTN.out; omega
      go_region_law (((refine Kd.R_append_step (Kd.int .i64) (w0 := w2) (W := w2.drew) (w.heap.size + 1 + 1) (by rfl) (.tmp 29) (.tmp 36) 22 3 (.int .i64 0) 8 rfl Tryd.underlying22 info3 rfl (by decide) (by decide) (.slice Ak s.2.length ck) s.2 z [.int .i64 z] (fun k => w.heap.size + 1 < k) (fun _ => False) (by rfl) (by rfl) rfl (fun _ h => h.elim) (fun k hk => Nat.lt_of_lt_of_le hm2 hk) HR2.out (Below.refl _ _).drew hm2 (by omega) ?_; intro v5 w5 hR5 hB5 hg5 hat5; obtain ⟨A5, c5, rfl⟩ := Kd.R_slice hR5; have hbx5 := (hB5.block (w.heap.size + 1) (Nat.lt_succ_self _)).trans HST2.out.box; have q1 := blk_cell hbx5 2; have q2 := blk_frozen hbx5 2)))
      all_goals
        have hk5 := HST2.out.kid (Nat.le_refl _) (by omega) hR5 ⟨hg5.os, hg5.tape, hg5.output, hg5.size, hg5.block⟩ hat5
        rw [List.length_append, List.length_singleton] at hk5 hR5
        have HK5 := Lib.hid hk5
        clear hR5 hB5 hg5 hat5 hbx5 hk5
        go_wp2
        go_roundw
        case rel =>
          refine ⟨k + 1, _, .slice A5 (s.2.length + 1) c5, rfl, by go_num, hlt, ?_⟩
          have e2 : impKs (ds.take (k + 1)) = (U, s.2 ++ [z]) := by
            rw [List.take_succ_eq_append_getElem hkd, impKs_snoc, ← HSE.out, ← HD.out]
            unfold impK
            rw [HU.out, HZ.out]
          rw [e2]
          exact HK5.out
        case measure => simp [intOf]; omega
    · have hke : k = N := by omega
      have htk : ds.take k = ds := List.take_of_length_le (by have := HN.out; omega)
      have hse := HSE.out
      rw [htk] at hse
      have hrn : s.2 ≠ [] := by intro e; have := HTN.out; rw [e] at this; simp at this; omega
      have hpl := plR_B (u := s.1) (site := site) (ks := s.2) (by omega)
      have hjt : jnT site ds = placeB s.1 site s.2 := by unfold jnT; rw [← hse]
      have hlt2 := placeB_lt (u := s.1) (s := site) HT.out.at_lt hrn
      have hdn := placeB_down (u := s.1) (s := site) HT.out.down HT.out.at_lt
      have hpk : ∀ x ∈ (placeB s.1 site s.2).1, x.f2.length ≤ 1073741824 := by
        unfold placeB
        split
        · exact fun x hx => Nat.le_trans (HTK.out x hx) (by decide)
        · exact place0_kids (fun x hx => Nat.le_trans (HTK.out x hx) (by decide)) (by have := HTN.out; show s.2.length ≤ _; omega)
      have hpn := placeB_len s.1 site s.2
      have hsb : s.1.length ≤ sumL ds := Nat.le_trans HTL.out HSL.out
      have hA := (place_calls w.heap.size (fun j => j ≠ w.heap.size ∧ j ≠ w.heap.size + 1) (fun j => w.heap.size + 1 < j ∧ some j = (Value.slice Ak s.2.length ck).ownBlock) s.1 ⟨site, 0, s.2⟩ Av Ak cv ck wr HST.out.below.size (Kd.R_mono HST.out.row (fun j hj => ⟨hj.1, hj.2.1⟩)) (Kd.R_lower (Kd.R_mono (Kd.R_tight rfl HST.out.kids) (fun q hq => ⟨HST.out.kids.1 q hq.symm, hq⟩)) (by omega)) (fun j hj => ⟨⟨by omega, by omega⟩, fun e => (HST.out.row.1 j e.symm).2.2 hj.2⟩) (fun _ => hrn) (by have := HTN.out; show s.2.length ≤ _; omega) (by have := HSUM.out; omega) (fun x hx => Nat.le_trans (HTK.out x hx) (by decide)) (fun j hj => ⟨by omega, by omega⟩)).mono (R' := fun e w2 => ∃ A' c', e = .returned (.tuple #[.slice A' (placeB s.1 site s.2).1.length c', .int .i64 (placeB s.1 site s.2).2]) ∧ (placeB s.1 site s.2).1.length ≤ c' ∧ k60.C w2 A' (placeB s.1 site s.2).1.length (placeB s.1 site s.2).1 ∧ Below w.heap.size w w2 ∧ w2.heap[w.heap.size]? = some (.cells #[.slice none 0 0] 31 (0, 0))) (by
        rintro e w2 ⟨v', rfl, h1, h2, _⟩
        rw [hpl] at h1 ⊢
        obtain ⟨A', c', rfl, h3, h4⟩ := Kd.R_reads h1
        have hvB : ∀ q, (Value.slice Av s.1.length cv).ownBlock = some q → w.heap.size ≤ q := Kd.R_base HST.out.row
        refine ⟨A', c', rfl, h3, h4, HST.out.below.trans ⟨h2.os, h2.tape, h2.output, h2.size, fun j hj => h2.block j (Nat.lt_of_lt_of_le hj HST.out.below.size) (fun e => by have := hvB j e.symm; omega)⟩, ?_⟩
        exact (h2.block _ (blk_lt HST.out.res) (fun e => (HST.out.row.1 _ e.symm).1 rfl)).trans HST.out.res)
      dsimp only at hA
      obtain ⟨U, hU⟩ : ∃ U, U = (placeB s.1 site s.2).1 := ⟨_, rfl⟩
      obtain ⟨R, hR⟩ : ∃ R : Nat, (placeB s.1 site s.2).2 = (R : Int) := ⟨(placeB s.1 site s.2).2.toNat, by omega⟩
      rw [hR] at hA hlt2
      rw [← hU] at hA hlt2 hdn hpk hpn
      have hjt1 : (jnT site ds).1 = U := by rw [hjt, hU]
      have hjt2 : (jnT site ds).2 = (R : Int) := by rw [hjt, hR]
      have HJ1 := Lib.hid hjt1
      have HJ2 := Lib.hid hjt2
      clear hjt1 hjt2
      have b0 : wr.cell? ⟨w.heap.size + 1, 0, none⟩ = some (.int .i64 site) := (blk_cell HST.out.box 0).trans rfl
      have b1 : wr.cell? ⟨w.heap.size + 1, 1, none⟩ = some (.int .i64 0) := (blk_cell HST.out.box 1).trans rfl
      have b2 : wr.cell? ⟨w.heap.size + 1, 2, none⟩ = some (.slice Ak s.2.length ck) := (blk_cell HST.out.box 2).trans rfl
      have HDN := Lib.hid hdn
      have HPK := Lib.hid hpk
      have HLT := Lib.hid hlt2
      have HPN := Lib.hid hpn
      have HSB := Lib.hid hsb
      clear hdn hpk hlt2 hpn hsb hpl hjt hse htk hrn hU hR
      go_wp2_with (first
        | (go_at_call 72; refine hA.mono ?_; clear hA; rintro e w2 ⟨A2, c2, rfl, hc2, hC2, hb2, hr2⟩; have HC2 := Lib.hid hC2; have HB2 := Lib.hid hb2; have HRS := Lib.hid hr2; clear hC2 hb2 hr2)
        | (go_at_call 73; refine (order_calls U R A2 c2 w2 HC2.out hc2 HDN.out (by have := HLT.out; omega) HPK.out (by have := HPN.out; have := HSB.out; have := HSUM.out; omega)).mono ?_; rintro e w3 ⟨hb3, vo, rfl, hR3⟩; obtain ⟨A3, c3, rfl⟩ := Kd.R_slice hR3; have hbx3 := (hb3.block _ (blk_lt HRS.out)).trans HRS.out; have b0 := blk_cell hbx3 0; have f0 := blk_frozen hbx3 0; have HBX3 := Lib.hid hbx3; have HB3 := Lib.hid hb3; have HR3 := Lib.hid hR3; clear hbx3 hb3 hR3))
      have hb4 := blk_set HBX3.out 0 (.slice A3 (expo U (R : Nat)).length c3)
      have q0 := (blk_cell hb4 0).trans rfl
      have hsz2 := HB2.out.size
      have hl2 := blk_lt HRS.out
      refine bodyPost_ret (v := .agg #[.slice A3 (expo U (R : Nat)).length c3]) (by simp [results, Tryd.f53, go_sem, q0]) rfl ⟨(HB2.out.trans (HB3.out.mono hsz2)).setCell (p := ⟨w.heap.size, 0, none⟩) (Nat.le_refl _) _, _, rfl, ?_⟩
      rw [HJ1.out, HJ2.out]
      exact Kd.R_lower (Kd.R_mono (Kd.R_far (p := ⟨w.heap.size, 0, none⟩) (Kd.R_bound HR3.out) (fun q hq => by show q ≠ w.heap.size; have := hq.2.1; omega) _) (fun _ _ => trivial)) hsz2
end Go.Proofs.YtopbjginpmdebaaDoor.K
-- tables of several diagrams: what Join and Branch make is canonical
namespace Go.Proofs.YtopbjginpmdebaaDoor.K
open Go.RowKit Go.Maps Go.Proofs.YtopbjginpmdebaaDoorW.PrintWords Go.Proofs.YtopbjginpmdebaaDoorW.PrintLast Go.Proofs.YtopbjginpmdebaaDoorW.PrintMore
set_option linter.unusedVariables false
set_option linter.unusedSimpArgs false
/-- what holds of all branches' sites -/
def AllF (Q : Int → Prop) (u : List Nd) : Prop := ∀ n ∈ u, 0 ≤ n.f0 → Q n.f0
theorem place0_all {Q : Int → Prop} {u : List Nd} {n : Nd} (h : AllF Q u) (hn : 0 ≤ n.f0 → Q n.f0) : AllF Q (place0 u n).1 := by
  unfold place0
  split
  · exact h
  · intro m hm
    rcases List.mem_append.1 hm with h1 | h1
    · exact h m h1
    · rw [List.mem_singleton.1 h1]; exact hn
theorem placeB_all {Q : Int → Prop} {u : List Nd} {s : Int} {ks : List Int} (h : AllF Q u) (hn : Q s) : AllF Q (placeB u s ks).1 := by
  unfold placeB
  split
  · exact h
  · exact place0_all h (fun _ => hn)
theorem imp_all {Q : Int → Prop} : ∀ (l u : List Nd) (at_ : List Int), AllF Q u → AllF Q l → AllF Q (imp u at_ l).1
  | [], u, at_, h, _ => h
  | n :: l, u, at_, h, hl => by
    simp only [imp]
    refine imp_all l _ _ ?_ (fun m hm => hl m (List.mem_cons_of_mem _ hm))
    unfold place1
    split
    · exact place0_all h (fun h0 => by simp only at h0; omega)
    · rename_i h0
      exact placeB_all h (hl n List.mem_cons_self (by omega))
theorem expo_all {Q : Int → Prop} {u : List Nd} (hu : Down u) {r : Nat} (hr : r < u.length) (h : AllF Q u) : AllF Q (expo u (r : Nat)) := by
  obtain ⟨g, hP, _, _⟩ := expo_pl hu hr
  intro n hn
  obtain ⟨a, ha, rfl⟩ := mem_nth hn
  obtain ⟨i, hi⟩ := hP.all a ha
  obtain ⟨i0, _, i2, _, i4, _⟩ := hP.node i _ hi
  simp only at i4
  rw [i4]
  exact h (nth u i) (nth_mem i0 i2)
/-- a branch more -/
theorem Tb.branch {sh : Int → Nat} {u : List Nd} (h : Tb sh u) {s : Int} {ks : List Int} (hs : 0 ≤ s ∧ s < 64) (hne : ks ≠ []) (hl : ks.length = sh s) (hl2 : ks.length ≤ 16) (hk : ∀ k ∈ ks, 0 ≤ k ∧ k < (u.length : Int)) (ho : ∀ k ∈ ks, (nth u k).f0 < 0 ∨ s < (nth u k).f0) :
    Tb sh (placeB u s ks).1 := by
  have hr := h.red.placeB hs.1 hk hne
  by_cases hq : sameK ks = true
  · have e : placeB u s ks = (u, ks.headD 0) := by unfold placeB; rw [if_pos hq]
    rw [e]; exact h
  · have e : placeB u s ks = K.place0 u ⟨s, 0, ks⟩ := by unfold placeB; rw [if_neg hq]
    rw [e] at hr ⊢
    exact h.place0 hk hr ho (.inr ⟨hs.1, hs.2, hl, hl2⟩)
/-- the node that stands for a branch is a leaf or no higher -/
theorem placeB_top {u : List Nd} {s : Int} {ks : List Int} (hne : ks ≠ []) (ho : ∀ k ∈ ks, (nth u k).f0 < 0 ∨ s < (nth u k).f0) : (nth (placeB u s ks).1 (placeB u s ks).2).f0 < 0 ∨ s ≤ (nth (placeB u s ks).1 (placeB u s ks).2).f0 := by
  by_cases hq : sameK ks = true
  · have e : placeB u s ks = (u, ks.headD 0) := by unfold placeB; rw [if_pos hq]
    rw [e]
    rcases ho _ (sameK_mem hne) with h | h
    · exact .inl h
    · exact .inr (by show s ≤ (nth u (ks.headD 0)).f0; omega)
  · have e : placeB u s ks = K.place0 u ⟨s, 0, ks⟩ := by unfold placeB; rw [if_neg hq]
    rw [e, place0_nth]
    exact .inr (Int.le_refl _)
/-- diagrams of one shape in one table; their roots are leaves or higher than s -/
theorem impKs_tb {sh : Int → Nat} {s : Int} {ds : List S31} (hd : ∀ d ∈ ds, GrS sh d.f0 ∧ d.f0 ≠ [] ∧ AllF (fun x => s < x) d.f0) : ∀ k, k ≤ ds.length → Tb sh (impKs (ds.take k)).1 ∧ (∀ a ∈ (impKs (ds.take k)).2, (0 ≤ a ∧ a < ((impKs (ds.take k)).1.length : Int)) ∧ ((nth (impKs (ds.take k)).1 a).f0 < 0 ∨ s < (nth (impKs (ds.take k)).1 a).f0)) := by
  intro k
  induction k with
  | zero => intro _; simp only [List.take_zero, impKs, List.foldl_nil]; exact ⟨tb_nil sh, by simp⟩
  | succ k ih =>
    intro hk
    obtain ⟨h1, h2⟩ := ih (by omega)
    obtain ⟨g1, g2, g3⟩ := hd ds[k] (List.getElem_mem _)
    rw [List.take_succ_eq_append_getElem (by omega), impKs_snoc]
    generalize impKs (ds.take k) = S at h1 h2 ⊢
    generalize ds[k] = d at g1 g2 g3
    have hp := List.length_pos_iff.2 g2
    have hi := imp_tb h1 g1 d.f0.length (Nat.le_refl _)
    have hb := imp_tbl g1.fit h1.tbl d.f0.length (Nat.le_refl _)
    rw [List.take_length] at hi hb
    refine ⟨hi.1, fun a ha => ?_⟩
    rcases List.mem_append.1 ha with ha | ha
    · obtain ⟨h3, h4⟩ := h2 a ha
      have := hb.2.2.length_le
      refine ⟨⟨h3.1, by show a < ((imp S.1 [] d.f0).1.length : Int); omega⟩, ?_⟩
      show (nth (imp S.1 [] d.f0).1 a).f0 < 0 ∨ s < (nth (imp S.1 [] d.f0).1 a).f0
      rw [nth_prefix hb.2.2 h3.1 h3.2]
      exact h4
    · rw [List.mem_singleton.1 ha]
      refine ⟨hb.1.at_lt _ (lk_mem (by omega) (by rw [imp_len]; simp; omega)), ?_⟩
      rcases hi.2 (d.f0.length - 1) (by omega) with h5 | h5
      · exact .inl h5
      · have hm : nth d.f0 ((d.f0.length - 1 : Nat) : Int) ∈ d.f0 := by rw [nth_lt (by omega)]; exact List.getElem_mem _
        have := g3 _ hm h5.1
        exact .inr (by show s < (nth (imp S.1 [] d.f0).1 _).f0; omega)
theorem impKs_all {Q : Int → Prop} {ds : List S31} (hd : ∀ d ∈ ds, AllF Q d.f0) : ∀ k, k ≤ ds.length → AllF Q (impKs (ds.take k)).1 := by
  intro k
  induction k with
  | zero => intro _; simp [impKs, AllF]
  | succ k ih =>
    intro hk
    rw [List.take_succ_eq_append_getElem (by omega), impKs_snoc]
    exact imp_all _ _ _ (ih (by omega)) (hd _ (List.getElem_mem _))
/-- what Join makes -/
def jn (s : Int) (ds : List S31) : List Nd := expo (jnT s ds).1 (jnT s ds).2
theorem jn_tb {sh : Int → Nat} {s : Int} {ds : List S31} (hd : ∀ d ∈ ds, GrS sh d.f0 ∧ d.f0 ≠ [] ∧ AllF (fun x => s < x) d.f0) (hs : 0 ≤ s ∧ s < 64) (hne : ds ≠ []) (hl : ds.length = sh s) (hl2 : ds.length ≤ 16) :
    Tb sh (jnT s ds).1 ∧ (0 ≤ (jnT s ds).2 ∧ (jnT s ds).2 < ((jnT s ds).1.length : Int)) ∧ (jnT s ds).1.length ≤ sumL ds + 1 := by
  have h := impKs_tb hd ds.length (Nat.le_refl _)
  have hb := impKs_tbl (ds := ds) (fun d hd' => ⟨(hd d hd').1.fit, (hd d hd').2.1⟩) ds.length (Nat.le_refl _)
  rw [List.take_length] at h hb
  have hrn : (impKs ds).2 ≠ [] := by intro e; have := hb.2.2; rw [e] at this; simp at this; exact hne (List.length_eq_zero_iff.1 this.symm)
  unfold jnT
  refine ⟨h.1.branch hs hrn (by rw [hb.2.2]; exact hl) (by rw [hb.2.2]; exact hl2) (fun k hk => (h.2 k hk).1) (fun k hk => (h.2 k hk).2), placeB_lt (fun k hk => (h.2 k hk).1) hrn, ?_⟩
  have := placeB_len (impKs ds).1 s (impKs ds).2
  have := hb.2.1
  omega
theorem jn_ok {sh : Int → Nat} {s : Int} {ds : List S31} (hd : ∀ d ∈ ds, GrS sh d.f0 ∧ d.f0 ≠ [] ∧ AllF (fun x => s < x) d.f0) (hs : 0 ≤ s ∧ s < 64) (hne : ds ≠ []) (hl : ds.length = sh s) (hl2 : ds.length ≤ 16) :
    GrS sh (jn s ds) ∧ grB (jn s ds) = true ∧ Can (jn s ds) ∧ (jn s ds).length ≤ sumL ds + 1 := by
  obtain ⟨h1, h2, h3⟩ := jn_tb hd hs hne hl hl2
  obtain ⟨r, hr⟩ : ∃ r : Nat, (jnT s ds).2 = (r : Int) := ⟨(jnT s ds).2.toNat, by omega⟩
  unfold jn
  rw [hr] at h2 ⊢
  have hr' : r < (jnT s ds).1.length := by omega
  have hc := h1.can hr'
  exact ⟨(h1.expo hr').grs, hc.1, hc.2, Nat.le_trans (expo_len h1.red.down hr') h3⟩
theorem jn_all {Q : Int → Prop} {s : Int} {ds : List S31} (hd : ∀ d ∈ ds, AllF Q d.f0) (hq : Q s) (hdn : Down (jnT s ds).1) (hr : 0 ≤ (jnT s ds).2 ∧ (jnT s ds).2 < ((jnT s ds).1.length : Int)) : AllF Q (jn s ds) := by
  have h := impKs_all hd ds.length (Nat.le_refl _)
  rw [List.take_length] at h
  obtain ⟨r, hr2⟩ : ∃ r : Nat, (jnT s ds).2 = (r : Int) := ⟨(jnT s ds).2.toNat, by omega⟩
  unfold jn
  rw [hr2] at hr ⊢
  exact expo_all hdn (by omega) (placeB_all h hq)
/-- the reference's Join, in the form that the printed texts call it -/
def exactpplref19_Join.f (s : Int) (ds : List S31) : Option (List S60) := if 0 ≤ s ∧ ds ≠ [] ∧ ds.length ≤ 1000000 ∧ (sumL ds + 2) * 40 ≤ 140737488355328 then (if (ds.all fun d => grB d.f0) = true then some (jn s ds) else none) else none
theorem exactpplref19_Join.calls (s : Int) (A : Option Addr) (c : Nat) (ds : List S31) (r : List S60) (w : World) (hr : Kd.C k31 w A ds.length ds) (hc : ds.length ≤ c) (h : exactpplref19_Join.f s ds = some r) :
    Calls Tryd.prog 53 #[.int .i64 s, .slice A ds.length c] w fun e w' => ∃ v0_ : Value, e = .returned (.agg #[v0_]) ∧ Kd.V k60 60 w' w.heap.size (fun k_ => (w.heap.size ≤ k_)) v0_ r ∧ Below w.heap.size w w' := by
  unfold exactpplref19_Join.f at h
  by_cases h1 : 0 ≤ s ∧ ds ≠ [] ∧ ds.length ≤ 1000000 ∧ (sumL ds + 2) * 40 ≤ 140737488355328
  · rw [if_pos h1] at h
    by_cases h2 : (ds.all fun d => grB d.f0) = true
    · rw [if_pos h2] at h
      obtain rfl := Option.some.inj h
      exact (join_calls s ds A c w hr hc h1.2.1 h1.1 (fun d hd => List.all_eq_true.1 h2 d hd) h1.2.2.1 h1.2.2.2).mono fun e w' ⟨hb, vo, he, hR⟩ => ⟨vo, he, V_of_R hR, hb⟩
    · rw [if_neg h2] at h; cases h
  · rw [if_neg h1] at h; cases h
end Go.Proofs.YtopbjginpmdebaaDoor.K
