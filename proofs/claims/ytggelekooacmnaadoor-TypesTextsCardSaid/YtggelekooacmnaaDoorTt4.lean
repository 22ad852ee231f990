/- Lemmas for: Proved: the tied card of exactppllaw06.TypesTexts (for every input the law returns true). Conditions: none beyond the given row. -/
import Derived.Test.YtggelekooacmnaaDoorTt2
namespace Go.Proofs.YtggelekooacmnaaDoor.Q
open Go.RowKit Go.Proofs.YtggelekooacmnaaDoorW.PrintWords Go.Proofs.YtggelekooacmnaaDoorW.PrintLast Go.Proofs.YtggelekooacmnaaDoorW.PrintMore
attribute [local go_sem] max2_int min2_int max_two min_two max_three min_three max_four min_four   -- for this text's walks alone
set_option linter.unusedVariables false
set_option linter.unusedSimpArgs false

/-- A state of type 63 at block g of W; what its slices lead to came in by w0. -/
def IsS63 (w0 W : World) (g : Nat) (f0 : List Int) (f1 : Int) (f2 : Int) : Prop := ∃ A0 c0, W.heap[g]? = some (.cells #[.slice A0 f0.length c0, .int .i64 f1, .int .i64 f2] 63 (0, 0)) ∧ w0.heap.size ≤ g ∧ Kd.C (Kd.int .i64) w0 A0 f0.length f0
theorem IsS63.grown {w0 W : World} {g : Nat} {f0 : List Int} {f1 : Int} {f2 : Int} {W1 : World} {row : Option Nat} (h : IsS63 w0 W g f0 f1 f2) (hw : W.grownBy W1 row) (hne : some g ≠ row) : IsS63 w0 W1 g f0 f1 f2 := by
  obtain ⟨A0, c0, hb, hg, hr0⟩ := h
  exact ⟨A0, c0, blk_grown hb hw hne, hg, hr0⟩
theorem IsS63.own_neN {w0 W : World} {g : Nat} {f0 : List Int} {f1 : Int} {f2 : Int} {α : Type} {d : Kd α} {e : Nat} {base : Nat} {ok : Nat → Prop} {v : Value} {xs : List α} (h : IsS63 w0 W g f0 f1 f2) (ho : Kd.N d e W base ok v xs) (ht : e ≠ 63) : some g ≠ v.ownBlock := by
  obtain ⟨A0, c0, hb, hg, hr0⟩ := h
  exact Kd.N_ne ho hb ht
theorem IsS63.fresh {w0 W : World} {g : Nat} {f0 : List Int} {f1 : Int} {f2 : Int} (h : IsS63 w0 W g f0 f1 f2) : ∀ k, W.heap.size ≤ k → k ≠ g := by
  obtain ⟨A0, c0, hb, hg, hr0⟩ := h
  exact Kd.freshB hb
theorem IsS63.kept {w0 W : World} {g : Nat} {f0 : List Int} {f1 : Int} {f2 : Int} {W1 : World} {S : Nat → Prop} (h : IsS63 w0 W g f0 f1 f2) (hk : Kept W W1 S) (hne : ¬ S g) : IsS63 w0 W1 g f0 f1 f2 := by
  obtain ⟨A0, c0, hb, hg, hr0⟩ := h
  exact ⟨A0, c0, blk_kept hb hk hne, hg, hr0⟩
theorem IsS63.below {w0 W : World} {g : Nat} {f0 : List Int} {f1 : Int} {f2 : Int} {W1 : World} (h : IsS63 w0 W g f0 f1 f2) (hw : Below W.heap.size W W1) : IsS63 w0 W1 g f0 f1 f2 := h.grown (grown_of_below hw none) (by simp)
theorem IsS63.alloc {w0 W : World} {g : Nat} {f0 : List Int} {f1 : Int} {f2 : Int} (h : IsS63 w0 W g f0 f1 f2) (o : Obj) : IsS63 w0 (W.alloc o) g f0 f1 f2 := h.below (below_alloc (Below.refl _ _) o)
theorem IsS63.drewN {w0 W : World} {g : Nat} {f0 : List Int} {f1 : Int} {f2 : Int} (h : IsS63 w0 W g f0 f1 f2) (m : Nat) : IsS63 w0 (W.drewN m) g f0 f1 f2 := h
theorem IsS63.drew {w0 W : World} {g : Nat} {f0 : List Int} {f1 : Int} {f2 : Int} (h : IsS63 w0 W g f0 f1 f2) : IsS63 w0 W.drew g f0 f1 f2 := h
theorem IsS63.at_ {w0 W : World} {g : Nat} {f0 : List Int} {f1 : Int} {f2 : Int} {w' : World} {m : Nat} (hq : W.drewN m = w') (h : IsS63 w0 W g f0 f1 f2) : IsS63 w0 w' g f0 f1 f2 := by subst hq; exact IsS63.drewN h m
theorem IsS63.apart {w0 W : World} {g : Nat} {f0 : List Int} {f1 : Int} {f2 : Int} {α : Type} {d : Kd α} {e : Nat} {base : Nat} {ok : Nat → Prop} {v : Value} {xs : List α} (h : IsS63 w0 W g f0 f1 f2) (ho : d.R e W base ok v xs) (ht : ∀ q, q ∈ e :: d.E → q ≠ 63) : d.R e W base (fun k => ok k ∧ k ≠ g) v xs := by
  obtain ⟨A0, c0, hb, hg, hr0⟩ := h
  exact Kd.R_types ho hb ht
theorem IsS63.own_ne {w0 W : World} {g : Nat} {f0 : List Int} {f1 : Int} {f2 : Int} {α : Type} {d : Kd α} {e : Nat} {base : Nat} {ok : Nat → Prop} {v : Value} {xs : List α} (h : IsS63 w0 W g f0 f1 f2) (ho : d.R e W base ok v xs) (ht : e ≠ 63) : some g ≠ v.ownBlock := by
  obtain ⟨A0, c0, hb, hg, hr0⟩ := h
  exact Kd.R_ne ho hb ht
theorem IsS63.apartQ {w0 W : World} {g : Nat} {f0 : List Int} {f1 : Int} {f2 : Int} {α : Type} {d : Kd α} {e : Nat} {base : Nat} {ok : Nat → Prop} {v : Value} {xs : List α} (h : IsS63 w0 W g f0 f1 f2) (ho : d.Q e W base ok v xs) (ht : ∀ q, q ∈ e :: d.E → q ≠ 63) : d.Q e W base (fun k => ok k ∧ k ≠ g) v xs := by
  obtain ⟨A0, c0, hb, hg, hr0⟩ := h
  exact Kd.Q_types ho hb ht
theorem IsS63.own_neQ {w0 W : World} {g : Nat} {f0 : List Int} {f1 : Int} {f2 : Int} {α : Type} {d : Kd α} {e : Nat} {base : Nat} {ok : Nat → Prop} {v : Value} {xs : List α} (h : IsS63 w0 W g f0 f1 f2) (ho : d.Q e W base ok v xs) (ht : e ≠ 63) : some g ≠ v.ownBlock := by
  obtain ⟨A0, c0, hb, hg, hr0⟩ := h
  exact Kd.Q_ne ho hb ht
theorem IsS63.apartS {w0 W : World} {g : Nat} {f0 : List Int} {f1 : Int} {f2 : Int} {α : Type} {d : Kd α} {e : Nat} {base : Nat} {ok : Nat → Prop} {v : Value} {xs : List α} (h : IsS63 w0 W g f0 f1 f2) (ho : d.S e W base ok v xs) (ht : ∀ q, q ∈ e :: d.E → q ≠ 63) : d.S e W base (fun k => ok k ∧ k ≠ g) v xs := by
  obtain ⟨A0, c0, hb, hg, hr0⟩ := h
  exact Kd.S_types ho hb ht
theorem IsS63.own_neS {w0 W : World} {g : Nat} {f0 : List Int} {f1 : Int} {f2 : Int} {α : Type} {d : Kd α} {e : Nat} {base : Nat} {ok : Nat → Prop} {v : Value} {xs : List α} (h : IsS63 w0 W g f0 f1 f2) (ho : d.S e W base ok v xs) (ht : e ≠ 63) : some g ≠ v.ownBlock := by
  obtain ⟨A0, c0, hb, hg, hr0⟩ := h
  exact Kd.S_ne ho hb ht
theorem IsS63.lt {w0 W : World} {g : Nat} {f0 : List Int} {f1 : Int} {f2 : Int} (h : IsS63 w0 W g f0 f1 f2) : g < W.heap.size := by
  obtain ⟨A0, c0, hb, hg, hr0⟩ := h
  exact blk_lt hb
theorem IsS63.ge {w0 W : World} {g : Nat} {f0 : List Int} {f1 : Int} {f2 : Int} (h : IsS63 w0 W g f0 f1 f2) : w0.heap.size ≤ g := by
  obtain ⟨A0, c0, hb, hg, hr0⟩ := h
  exact hg
theorem IsS63.ne_blk {w0 W : World} {g : Nat} {f0 : List Int} {f1 : Int} {f2 : Int} {a : Nat} {cs : Array Value} {t : TypeId} {fr : Nat × Nat} (h : IsS63 w0 W g f0 f1 f2) (hb2 : W.heap[a]? = some (.cells cs t fr)) (ht : t ≠ 63) : g ≠ a := by
  obtain ⟨A0, c0, hb, hg, hr0⟩ := h
  rintro rfl
  rw [hb] at hb2
  injection hb2 with hb2
  injection hb2 with _ ht2
  exact ht ht2.symm
theorem IsS63.far {w0 W : World} {g : Nat} {f0 : List Int} {f1 : Int} {f2 : Int} {p : Addr} (h : IsS63 w0 W g f0 f1 f2) (hne : g ≠ p.block) (u : Value) : IsS63 w0 (W.setCell p u) g f0 f1 f2 := by
  obtain ⟨A0, c0, hb, hg, hr0⟩ := h
  exact ⟨A0, c0, blk_far hb hne u, hg, hr0⟩
theorem cellS63_0 {W : World} {g : Nat} {A0 : Option Addr} {c0 : Nat} {f0 : List Int} {f1 : Int} {f2 : Int} (h : W.heap[g]? = some (.cells #[.slice A0 f0.length c0, .int .i64 f1, .int .i64 f2] 63 (0, 0))) : W.cell? ⟨g, 0, none⟩ = some (.slice A0 f0.length c0) := (blk_cell h 0).trans rfl
theorem cellS63_1 {W : World} {g : Nat} {A0 : Option Addr} {c0 : Nat} {f0 : List Int} {f1 : Int} {f2 : Int} (h : W.heap[g]? = some (.cells #[.slice A0 f0.length c0, .int .i64 f1, .int .i64 f2] 63 (0, 0))) : W.cell? ⟨g, 1, none⟩ = some (.int .i64 f1) := (blk_cell h 1).trans rfl
theorem IsS63.set_1 {w0 W : World} {g : Nat} {f0 : List Int} {f1 : Int} {f2 : Int} (h : IsS63 w0 W g f0 f1 f2) (x : Int) : IsS63 w0 (W.setCell ⟨g, 1, none⟩ (.int .i64 x)) g f0 x f2 := by
  obtain ⟨A0, c0, hb, hg, hr0⟩ := h
  exact ⟨A0, c0, by simpa using blk_set hb 1 (.int .i64 x), hg, hr0⟩
theorem cellS63_2 {W : World} {g : Nat} {A0 : Option Addr} {c0 : Nat} {f0 : List Int} {f1 : Int} {f2 : Int} (h : W.heap[g]? = some (.cells #[.slice A0 f0.length c0, .int .i64 f1, .int .i64 f2] 63 (0, 0))) : W.cell? ⟨g, 2, none⟩ = some (.int .i64 f2) := (blk_cell h 2).trans rfl
theorem IsS63.set_2 {w0 W : World} {g : Nat} {f0 : List Int} {f1 : Int} {f2 : Int} (h : IsS63 w0 W g f0 f1 f2) (x : Int) : IsS63 w0 (W.setCell ⟨g, 2, none⟩ (.int .i64 x)) g f0 f1 x := by
  obtain ⟨A0, c0, hb, hg, hr0⟩ := h
  exact ⟨A0, c0, by simpa using blk_set hb 2 (.int .i64 x), hg, hr0⟩
theorem IsS63.new (w0 W : World) (A0 : Option Addr) (c0 : Nat) (f0 : List Int) (f1 : Int) (f2 : Int) (hB : Below w0.heap.size w0 W) (hr0 : Kd.C (Kd.int .i64) w0 A0 f0.length f0) : IsS63 w0 (W.alloc (.cells #[.slice A0 f0.length c0, .int .i64 f1, .int .i64 f2] 63)) W.heap.size f0 f1 f2 := ⟨A0, c0, by simpa using heap_alloc_new W _, hB.size, hr0⟩

/-! ### exactpplmake_New: function 14 -/
def exactpplmake_New.f (l0 : List Int) : Option (List Int × Int × Int) := if (l0.length : Int) > 1000 then (if 1000 ≤ (l0.length : Int) then (some (l0.take 1000, 0, 0)) else (none)) else (some (l0, 0, 0))
set_option maxHeartbeats 8000000 in
set_option maxRecDepth 100000 in
theorem exactpplmake_New.calls (A0 : Option Addr) (c0 : Nat) (l0 : List Int) (r1 : List Int) (r2 : Int) (r3 : Int) (w0 w : World) (hB : Below w0.heap.size w0 w) (hr0 : Kd.C (Kd.int .i64) w0 A0 l0.length l0) (hc0 : l0.length ≤ c0) (h : exactpplmake_New.f l0 = some (r1, r2, r3)) :
    Calls Tryd.prog 14 #[.slice A0 l0.length c0] w fun e w' => ∃ g_ : Nat, e = .returned (.pointer (some ⟨g_, 0, none⟩)) ∧ IsS63 w0 w' g_ r1 r2 r3 ∧ Below w0.heap.size w0 w' ∧ Below w.heap.size w w' := by
  have hu63 := Tryd.underlying63
  have HR0 := Aside0.mk hr0
  have HC0 := Aside0.mk hc0
  clear hr0 hc0
  have HBW := Aside0.mk (Below.refl w.heap.size w)
  have HW0 := Aside0.mk hB.size
  have HB := Aside0.mk hB
  clear hB
  have H : (if (l0.length : Int) > 1000 then (if 1000 ≤ (l0.length : Int) then (some (l0.take 1000, 0, 0)) else (none)) else (some (l0, 0, 0))) = some (r1, r2, r3) := h
  clear h
  by_cases c2 : (l0.length : Int) > 1000
  · rw [if_pos c2] at H
    have c2b0 : decide (1000 < (l0.length : Int)) = true := decide_eq_true c2
    have c2b1 : decide (1000 < l0.length) = true := decide_eq_true (by omega)
    clear c2
    by_cases c3 : 1000 ≤ (l0.length : Int)
    · rw [if_pos c3] at H
      have c3b0 := eq_true c3
      have c3b1 : decide (1000 ≤ (l0.length : Int)) = true := decide_eq_true c3
      clear c3
      simp only [Option.some.injEq, Prod.mk.injEq] at H
      obtain ⟨rfl, rfl, rfl⟩ := H
      obtain ⟨i04, hi04, _, hsz4, _⟩ := info_parts info3
      obtain ⟨hcut4, hA4, hC4⟩ := print_take_of (P := Tryd.prog) (Value.int .i64) 0 29 3 .i64 Tryd.underlying29 hi04 hsz4 A0 c0 l0 1000 (by omega) (of_decide_eq_true (by first | (with_reducible assumption) | assumption)) HC0.out
      have HR212 := Aside0.mk (Kd.C_of_reads (h1 := fun _ => rfl) (hA4 _ (Kd.reads_of_C HR0.out)))
      have HC212 := Aside0.mk hC4
      clear hA4 hC4 hi04 hsz4
      go_enter Tryd.func14, Tryd.ntmps14
      go_wp2_with (first | ((with_reducible refine gate_dst (N := 10) rfl ?_); refine box_event ?hg (N := 10) ?hd (cs := #[.slice A0 (l0.take 1000).length c0, .int .i64 0, .int .i64 0]) (t := 63) ?hr ?_; (case hd => rfl); (case hg => rfl); (case hr => first | (go_simp; done) | (go_simp; rfl)); intro gb213 hg w5 hbox hb; have n0_ := Aside0.mk (below_step HBW.out hb); have n1_ := Aside0.mk (below_step (by repeat (first | (with_reducible first | exact HB.out | apply below_alloc | apply pw_below_drewN | apply below_drew1) | exact HB.out)) hb); have n2_ := Aside0.mk (hbox); have n3_ := Aside0.mk ((by rw [hg]; exact (below_size (by repeat (first | (with_reducible first | exact HBW.out | apply below_alloc | apply pw_below_drewN | apply below_drew1) | exact HBW.out))) : w.heap.size ≤ gb213)); have n4_ := Aside0.mk ((Nat.le_trans HW0.out (by rw [hg]; exact (below_size (by repeat (first | (with_reducible first | exact HBW.out | apply below_alloc | apply pw_below_drewN | apply below_drew1) | exact HBW.out))) : w.heap.size ≤ gb213) : w0.heap.size ≤ gb213)); clear HBW; clear HB; have HBW := n0_; have HB := n1_; have BK213 := n2_; have GW213 := n3_; have GE213 := n4_; clear n0_ n1_ n2_ n3_ n4_; clear hb hbox hg))
      go_ret
      exact ⟨_, rfl, (show IsS63 w0 _ gb213 (l0.take 1000) 0 0 from ⟨_, _, by (with_reducible repeat (first | refine blk_drewN ?_ _ | refine blk_drew ?_ | refine blk_alloc ?_ _)); exact BK213.out, GE213.out, HR212.out⟩), by repeat (first | (with_reducible first | exact HB.out | apply below_alloc | apply pw_below_drewN | apply below_drew1 | refine below_set ?_ GE213.out) | exact HB.out), by repeat (first | (with_reducible first | exact HBW.out | apply below_alloc | apply pw_below_drewN | apply below_drew1 | refine below_set ?_ GW213.out) | exact HBW.out)⟩
    · rw [if_neg c3] at H
      exact absurd H (by simp)
  · rw [if_neg c2] at H
    have c2b0 : decide (1000 < (l0.length : Int)) = false := decide_eq_false c2
    have c2b1 : decide (1000 < l0.length) = false := decide_eq_false (by omega)
    clear c2
    simp only [Option.some.injEq, Prod.mk.injEq] at H
    obtain ⟨rfl, rfl, rfl⟩ := H
    go_enter Tryd.func14, Tryd.ntmps14
    go_wp2_with (first | ((with_reducible refine gate_dst (N := 10) rfl ?_); refine box_event ?hg (N := 10) ?hd (cs := #[.slice A0 l0.length c0, .int .i64 0, .int .i64 0]) (t := 63) ?hr ?_; (case hd => rfl); (case hg => rfl); (case hr => first | (go_simp; done) | (go_simp; rfl)); intro gb214 hg w6 hbox hb; have n0_ := Aside0.mk (below_step HBW.out hb); have n1_ := Aside0.mk (below_step (by repeat (first | (with_reducible first | exact HB.out | apply below_alloc | apply pw_below_drewN | apply below_drew1) | exact HB.out)) hb); have n2_ := Aside0.mk (hbox); have n3_ := Aside0.mk ((by rw [hg]; exact (below_size (by repeat (first | (with_reducible first | exact HBW.out | apply below_alloc | apply pw_below_drewN | apply below_drew1) | exact HBW.out))) : w.heap.size ≤ gb214)); have n4_ := Aside0.mk ((Nat.le_trans HW0.out (by rw [hg]; exact (below_size (by repeat (first | (with_reducible first | exact HBW.out | apply below_alloc | apply pw_below_drewN | apply below_drew1) | exact HBW.out))) : w.heap.size ≤ gb214) : w0.heap.size ≤ gb214)); clear HBW; clear HB; have HBW := n0_; have HB := n1_; have BK214 := n2_; have GW214 := n3_; have GE214 := n4_; clear n0_ n1_ n2_ n3_ n4_; clear hb hbox hg))
    go_ret
    exact ⟨_, rfl, (show IsS63 w0 _ gb214 l0 0 0 from ⟨_, _, by (with_reducible repeat (first | refine blk_drewN ?_ _ | refine blk_drew ?_ | refine blk_alloc ?_ _)); exact BK214.out, GE214.out, HR0.out⟩), by repeat (first | (with_reducible first | exact HB.out | apply below_alloc | apply pw_below_drewN | apply below_drew1 | refine below_set ?_ GE214.out) | exact HB.out), by repeat (first | (with_reducible first | exact HBW.out | apply below_alloc | apply pw_below_drewN | apply below_drew1 | refine below_set ?_ GW214.out) | exact HBW.out)⟩

end Go.Proofs.YtggelekooacmnaaDoor.Q
namespace Go.Proofs.YtggelekooacmnaaDoor.Q
open Go.RowKit Go.Proofs.YtggelekooacmnaaDoorW.PrintWords Go.Proofs.YtggelekooacmnaaDoorW.PrintLast Go.Proofs.YtggelekooacmnaaDoorW.PrintMore
attribute [local go_sem] max2_int min2_int max_two min_two max_three min_three max_four min_four   -- for this text's walks alone
set_option linter.unusedVariables false
set_option linter.unusedSimpArgs false

/-! ### exactpplmake_Src_Raw: function 43 -/
def exactpplmake_Src_Raw.f (s0_0 : List Int) (s0_1 : Int) (s0_2 : Int) : Option (Int × Int × Int) := if s0_1 ≥ (s0_0.length : Int) then (some (0, s0_1, s0_2)) else (if 0 ≤ (wrap64 ((wrap64 (s0_1 + 1)) - 1)) then (if (wrap64 ((wrap64 (s0_1 + 1)) - 1)) < (s0_0.length : Int) then (some (rd s0_0 (wrap64 ((wrap64 (s0_1 + 1)) - 1)), wrap64 (s0_1 + 1), s0_2)) else (none)) else (none))
set_option maxHeartbeats 8000000 in
set_option maxRecDepth 100000 in
theorem exactpplmake_Src_Raw.calls (g : Nat) (s0_0 : List Int) (s0_1 : Int) (s0_2 : Int) (r1 : Int) (r2 : Int) (r3 : Int) (w0 w : World) (hI : IsS63 w0 w g s0_0 s0_1 s0_2) (hB : Below w0.heap.size w0 w) (h : exactpplmake_Src_Raw.f s0_0 s0_1 s0_2 = some (r1, r2, r3)) :
    Calls Tryd.prog 43 #[.pointer (some ⟨g, 0, none⟩)] w fun e w' => e = .returned (.int .i64 r1) ∧ IsS63 w0 w' g s0_0 r2 r3 ∧ Below w0.heap.size w0 w' ∧ KeepBut w w' g none := by
  have HI0 := Aside0.mk hI
  have HK := Aside0.mk (KeepBut.refl w g none)
  have HL := Aside0.mk hB.size
  clear hI
  have HW0 := Aside0.mk hB.size
  have HB := Aside0.mk hB
  clear hB
  have H : (if s0_1 ≥ (s0_0.length : Int) then (some (0, s0_1, s0_2)) else (if 0 ≤ (wrap64 ((wrap64 (s0_1 + 1)) - 1)) then (if (wrap64 ((wrap64 (s0_1 + 1)) - 1)) < (s0_0.length : Int) then (some (rd s0_0 (wrap64 ((wrap64 (s0_1 + 1)) - 1)), wrap64 (s0_1 + 1), s0_2)) else (none)) else (none))) = some (r1, r2, r3) := h
  clear h
  by_cases c2 : s0_1 ≥ (s0_0.length : Int)
  · rw [if_pos c2] at H
    have c2b0 : decide ((s0_0.length : Int) ≤ s0_1) = true := decide_eq_true c2
    clear c2
    simp only [Option.some.injEq, Prod.mk.injEq] at H
    obtain ⟨rfl, rfl, rfl⟩ := H
    obtain ⟨ASz3_0, cSz3_0, HGz3, hgz3, HSz3_0⟩ := HI0.out
    have hcz3_0 := cellS63_0 HGz3
    have hcz3_1 := cellS63_1 HGz3
    have hcz3_2 := cellS63_2 HGz3
    have hfz3_1 := blk_frozen HGz3 1
    have hfz3_2 := blk_frozen HGz3 2
    clear HGz3 hgz3
    go_enter Tryd.func43, Tryd.ntmps43
    go_wp2
    repeat (go_quiet (fail); try go_wp2)
    go_ret
    exact ⟨by first | rfl | (simp [errW_none, errW_some] <;> rfl) | (simp [*, errW_none, errW_some] <;> rfl), by repeat (first | (with_reducible first | exact HI0.out | apply IsS63.alloc | apply IsS63.drewN | apply IsS63.drew | apply IsS63.set_1 | apply IsS63.set_2) | exact HI0.out), by repeat (first | (with_reducible first | exact HB.out | apply below_alloc | apply pw_below_drewN | apply below_drew1 | refine below_set ?_ (IsS63.ge HI0.out)) | exact HB.out), by repeat (first | (with_reducible first | exact HK.out | apply KeepBut.set_ | apply keep_drewN | apply keep_drew | apply keep_alloc) | exact HK.out)⟩
  · rw [if_neg c2] at H
    have c2b0 : decide ((s0_0.length : Int) ≤ s0_1) = false := decide_eq_false c2
    clear c2
    obtain ⟨ji4, hji4⟩ : ∃ j_ : Int, (wrap64 ((wrap64 (s0_1 + 1)) - 1)) = j_ := ⟨_, rfl⟩
    replace H : (if 0 ≤ (ji4) then (if (ji4) < (s0_0.length : Int) then (some (rd s0_0 (ji4), wrap64 (s0_1 + 1), s0_2)) else (none)) else (none)) = some (r1, r2, r3) := by first | (rw [hji4] at H; exact H) | (simp only [hji4] at H ⊢; exact H)
    have hji4w : (IntKind.i64.wrap ((wrap64 (s0_1 + 1)) - 1)) = ji4 := (i64_w _).trans hji4
    by_cases c5 : 0 ≤ (ji4)
    · rw [if_pos c5] at H
      have c5b0 : decide (0 ≤ (ji4)) = true := decide_eq_true c5
      clear c5
      by_cases c6 : (ji4) < (s0_0.length : Int)
      · rw [if_pos c6] at H
        have c6b0 : decide ((ji4) < (s0_0.length : Int)) = true := decide_eq_true c6
        clear c6
        simp only [Option.some.injEq, Prod.mk.injEq] at H
        obtain ⟨rfl, rfl, rfl⟩ := H
        obtain ⟨ASz7_0, cSz7_0, HGz7, hgz7, HSz7_0⟩ := HI0.out
        have hcz7_0 := cellS63_0 HGz7
        have hcz7_1 := cellS63_1 HGz7
        have hcz7_2 := cellS63_2 HGz7
        have hfz7_1 := blk_frozen HGz7 1
        have hfz7_2 := blk_frozen HGz7 2
        clear HGz7 hgz7
        have p215 : 0 ≤ ((ji4) : Int) := of_decide_eq_true (by first | (with_reducible assumption) | assumption)
        have q215 : (ji4) < (s0_0.length : Int) := of_decide_eq_true (by first | (with_reducible assumption) | assumption)
        obtain ⟨ad215, e215, hx215_0⟩ := Kd.at_int HSz7_0 (ji4) p215 q215
        cases e215
        have hn215_0 : ad215.block ≠ g := Nat.ne_of_lt (Nat.lt_of_lt_of_le (by have := World.block_lt_of_cell? _ _ hx215_0; first | rwa [add_block] at this | exact this) (IsS63.ge HI0.out))
        replace hx215_0 := pw_cell_below HB.out hx215_0
        replace hx215_0 := (cell_far (p := ⟨g, 1, none⟩) (by first | (rw [add_block]; exact hn215_0) | (show (Addr.add _ _).block ≠ _; rw [add_block]; exact hn215_0) | exact hn215_0) (.int .i64 (wrap64 (s0_1 + 1)))).trans hx215_0
        (try have hy215_0 := fun (n_ : Nat) => (show (((w.drewN n_).setCell ⟨g, 1, none⟩ (.int .i64 (wrap64 (s0_1 + 1))))).cell? _ = some _ from hx215_0))
        clear hn215_0
        replace p215 := eq_true p215
        replace q215 := eq_true q215
        go_enter Tryd.func43, Tryd.ntmps43
        go_wp2
        repeat (go_quiet (fail); try go_wp2)
        all_goals go_ret
        all_goals exact ⟨by first | rfl | (simp [errW_none, errW_some] <;> rfl) | (simp only [← hji4]; first | rfl | (simp [errW_none, errW_some] <;> rfl)) | (simp; rw [← hji4]; (first | unfold mn | unfold mx); split <;> omega) | (simp; (first | unfold mn at hji4 | unfold mx at hji4); split at hji4 <;> omega) | (simp [*, errW_none, errW_some] <;> rfl), by repeat (first | (with_reducible first | exact HI0.out | apply IsS63.alloc | apply IsS63.drewN | apply IsS63.drew | apply IsS63.set_1 | apply IsS63.set_2) | exact HI0.out), by repeat (first | (with_reducible first | exact HB.out | apply below_alloc | apply pw_below_drewN | apply below_drew1 | refine below_set ?_ (IsS63.ge HI0.out)) | exact HB.out), by repeat (first | (with_reducible first | exact HK.out | apply KeepBut.set_ | apply keep_drewN | apply keep_drew | apply keep_alloc) | exact HK.out)⟩
      · rw [if_neg c6] at H
        exact absurd H (by simp)
    · rw [if_neg c5] at H
      exact absurd H (by simp)

end Go.Proofs.YtggelekooacmnaaDoor.Q
namespace Go.Proofs.YtggelekooacmnaaDoor.Q
open Go.RowKit Go.Proofs.YtggelekooacmnaaDoorW.PrintWords Go.Proofs.YtggelekooacmnaaDoorW.PrintLast Go.Proofs.YtggelekooacmnaaDoorW.PrintMore
attribute [local go_sem] max2_int min2_int max_two min_two max_three min_three max_four min_four   -- for this text's walks alone
set_option linter.unusedVariables false
set_option linter.unusedSimpArgs false

/-! ### exactpplmake_Src_N: function 20 -/
def exactpplmake_Src_N.f (s0_0 : List Int) (s0_1 : Int) (s0_2 : Int) (a1 : Int) : Option (Int × Int × Int) := if a1 < 1 then (some (0, s0_1, s0_2)) else ((exactpplmake_Src_Raw.f s0_0 s0_1 s0_2).bind fun bt216 => (if a1 = 0 then (none) else (if (Int.tmod bt216.1 a1) < 0 then (some (wrap64 ((Int.tmod bt216.1 a1) + a1), bt216.2.1, bt216.2.2)) else (some (Int.tmod bt216.1 a1, bt216.2.1, bt216.2.2)))))
set_option maxHeartbeats 8000000 in
set_option maxRecDepth 100000 in
theorem exactpplmake_Src_N.calls (g : Nat) (s0_0 : List Int) (s0_1 : Int) (s0_2 : Int) (a1 : Int) (r1 : Int) (r2 : Int) (r3 : Int) (w0 w : World) (hI : IsS63 w0 w g s0_0 s0_1 s0_2) (hB : Below w0.heap.size w0 w) (h : exactpplmake_Src_N.f s0_0 s0_1 s0_2 a1 = some (r1, r2, r3)) :
    Calls Tryd.prog 20 #[.pointer (some ⟨g, 0, none⟩), .int .i64 a1] w fun e w' => e = .returned (.int .i64 r1) ∧ IsS63 w0 w' g s0_0 r2 r3 ∧ Below w0.heap.size w0 w' ∧ KeepBut w w' g none := by
  have HI0 := Aside0.mk hI
  have HK := Aside0.mk (KeepBut.refl w g none)
  have HL := Aside0.mk hB.size
  clear hI
  have HW0 := Aside0.mk hB.size
  have HB := Aside0.mk hB
  clear hB
  have H : (if a1 < 1 then (some (0, s0_1, s0_2)) else ((exactpplmake_Src_Raw.f s0_0 s0_1 s0_2).bind fun bt216 => (if a1 = 0 then (none) else (if (Int.tmod bt216.1 a1) < 0 then (some (wrap64 ((Int.tmod bt216.1 a1) + a1), bt216.2.1, bt216.2.2)) else (some (Int.tmod bt216.1 a1, bt216.2.1, bt216.2.2)))))) = some (r1, r2, r3) := h
  clear h
  by_cases c3 : a1 < 1
  · rw [if_pos c3] at H
    have c3b0 : decide (a1 < 1) = true := decide_eq_true c3
    clear c3
    simp only [Option.some.injEq, Prod.mk.injEq] at H
    obtain ⟨rfl, rfl, rfl⟩ := H
    go_enter Tryd.func20, Tryd.ntmps20
    go_wp2
    go_ret
    exact ⟨by first | rfl | (simp [errW_none, errW_some] <;> rfl) | (simp [*, errW_none, errW_some] <;> rfl), by repeat (first | (with_reducible first | exact HI0.out | apply IsS63.alloc | apply IsS63.drewN | apply IsS63.drew | apply IsS63.set_1 | apply IsS63.set_2) | exact HI0.out), by repeat (first | (with_reducible first | exact HB.out | apply below_alloc | apply pw_below_drewN | apply below_drew1 | refine below_set ?_ (IsS63.ge HI0.out)) | exact HB.out), by repeat (first | (with_reducible first | exact HK.out | apply KeepBut.set_ | apply keep_drewN | apply keep_drew | apply keep_alloc) | exact HK.out)⟩
  · rw [if_neg c3] at H
    have c3b0 : decide (a1 < 1) = false := decide_eq_false c3
    clear c3
    replace H := Option.bind_eq_some_iff.mp H
    obtain ⟨⟨t216, t217, t218⟩, A40, H⟩ := H
    replace H : (if a1 = 0 then (none) else (if (Int.tmod t216 a1) < 0 then (some (wrap64 ((Int.tmod t216 a1) + a1), t217, t218)) else (some (Int.tmod t216 a1, t217, t218)))) = some (r1, r2, r3) := H
    have A4 := Aside0.mk A40
    clear A40
    by_cases c5 : a1 = 0
    · rw [if_pos c5] at H
      exact absurd H (by simp)
    · rw [if_neg c5] at H
      have c5b0 : (a1 == 0) = false := beq_eq_false_iff_ne.mpr c5
      have c5b1 : (a1 != 0) = true := bne_iff_ne.mpr c5
      by_cases c6 : (Int.tmod t216 a1) < 0
      · rw [if_pos c6] at H
        have c6b0 : decide ((Int.tmod t216 a1) < 0) = true := decide_eq_true c6
        clear c6
        simp only [Option.some.injEq, Prod.mk.injEq] at H
        obtain ⟨rfl, rfl, rfl⟩ := H
        go_enter Tryd.func20, Tryd.ntmps20
        go_wp2_with (first | ((with_reducible refine gate_callee (f := 43) rfl ?_); refine goesL_ (some 9) rfl rfl Tryd.func43 (by kernel_rfl) rfl #[.pointer (some ⟨g, 0, none⟩)] rfl (by (try simp only [List.map_toArray, List.map_cons, List.map_nil]); first | done | rfl | (simp only [List.length_drop, List.length_take]; rfl)) ?_; (with_reducible refine (exactpplmake_Src_Raw.calls g s0_0 s0_1 s0_2 t216 t217 t218 w0 _ ?side1 ?side2 A4.out).mono ?_); (case side1 => repeat (first | (with_reducible first | exact HI0.out | apply IsS63.alloc | apply IsS63.drewN | apply IsS63.drew | apply IsS63.set_1 | apply IsS63.set_2) | exact HI0.out)); (case side2 => repeat (first | (with_reducible first | exact HB.out | apply below_alloc | apply pw_below_drewN | apply below_drew1 | refine below_set ?_ (IsS63.ge HI0.out)) | exact HB.out)); rintro e w7 ⟨rfl, hi, hb, hk⟩; refine ⟨_, rfl, ?_⟩; have n0_ := Aside0.mk (KeepBut.trans (by repeat (first | (with_reducible first | exact HK.out | apply KeepBut.set_ | apply keep_drewN | apply keep_drew | apply keep_alloc) | exact HK.out)) hk (.inl rfl)); have n1_ := Aside0.mk (hb); have n2_ := Aside0.mk (hi); clear HK; clear HB; clear HI0; have HK := n0_; have HB := n1_; have HI0 := n2_; clear n0_ n1_ n2_; (try clear hb); (try clear hb2); (try clear hk); (try clear hi)))
        go_ret
        exact ⟨by first | rfl | (simp [errW_none, errW_some] <;> rfl) | (simp [*, errW_none, errW_some] <;> rfl), by repeat (first | (with_reducible first | exact HI0.out | apply IsS63.alloc | apply IsS63.drewN | apply IsS63.drew | apply IsS63.set_1 | apply IsS63.set_2) | exact HI0.out), by repeat (first | (with_reducible first | exact HB.out | apply below_alloc | apply pw_below_drewN | apply below_drew1 | refine below_set ?_ (IsS63.ge HI0.out)) | exact HB.out), by repeat (first | (with_reducible first | exact HK.out | apply KeepBut.set_ | apply keep_drewN | apply keep_drew | apply keep_alloc) | exact HK.out)⟩
      · rw [if_neg c6] at H
        have c6b0 : decide ((Int.tmod t216 a1) < 0) = false := decide_eq_false c6
        clear c6
        simp only [Option.some.injEq, Prod.mk.injEq] at H
        obtain ⟨rfl, rfl, rfl⟩ := H
        go_enter Tryd.func20, Tryd.ntmps20
        go_wp2_with (first | ((with_reducible refine gate_callee (f := 43) rfl ?_); refine goesL_ (some 9) rfl rfl Tryd.func43 (by kernel_rfl) rfl #[.pointer (some ⟨g, 0, none⟩)] rfl (by (try simp only [List.map_toArray, List.map_cons, List.map_nil]); first | done | rfl | (simp only [List.length_drop, List.length_take]; rfl)) ?_; (with_reducible refine (exactpplmake_Src_Raw.calls g s0_0 s0_1 s0_2 t216 t217 t218 w0 _ ?side1 ?side2 A4.out).mono ?_); (case side1 => repeat (first | (with_reducible first | exact HI0.out | apply IsS63.alloc | apply IsS63.drewN | apply IsS63.drew | apply IsS63.set_1 | apply IsS63.set_2) | exact HI0.out)); (case side2 => repeat (first | (with_reducible first | exact HB.out | apply below_alloc | apply pw_below_drewN | apply below_drew1 | refine below_set ?_ (IsS63.ge HI0.out)) | exact HB.out)); rintro e w8 ⟨rfl, hi, hb, hk⟩; refine ⟨_, rfl, ?_⟩; have n0_ := Aside0.mk (KeepBut.trans (by repeat (first | (with_reducible first | exact HK.out | apply KeepBut.set_ | apply keep_drewN | apply keep_drew | apply keep_alloc) | exact HK.out)) hk (.inl rfl)); have n1_ := Aside0.mk (hb); have n2_ := Aside0.mk (hi); clear HK; clear HB; clear HI0; have HK := n0_; have HB := n1_; have HI0 := n2_; clear n0_ n1_ n2_; (try clear hb); (try clear hb2); (try clear hk); (try clear hi)))
        go_ret
        exact ⟨by first | rfl | (simp [errW_none, errW_some] <;> rfl) | (simp [*, errW_none, errW_some] <;> rfl), by repeat (first | (with_reducible first | exact HI0.out | apply IsS63.alloc | apply IsS63.drewN | apply IsS63.drew | apply IsS63.set_1 | apply IsS63.set_2) | exact HI0.out), by repeat (first | (with_reducible first | exact HB.out | apply below_alloc | apply pw_below_drewN | apply below_drew1 | refine below_set ?_ (IsS63.ge HI0.out)) | exact HB.out), by repeat (first | (with_reducible first | exact HK.out | apply KeepBut.set_ | apply keep_drewN | apply keep_drew | apply keep_alloc) | exact HK.out)⟩

end Go.Proofs.YtggelekooacmnaaDoor.Q
namespace Go.Proofs.YtggelekooacmnaaDoor.Q
open Go.RowKit Go.Proofs.YtggelekooacmnaaDoorW.PrintWords Go.Proofs.YtggelekooacmnaaDoorW.PrintLast Go.Proofs.YtggelekooacmnaaDoorW.PrintMore
attribute [local go_sem] max2_int min2_int max_two min_two max_three min_three max_four min_four   -- for this text's walks alone
set_option linter.unusedVariables false
set_option linter.unusedSimpArgs false

/-! ### exactpplmake_Src_Range: function 17 -/
def exactpplmake_Src_Range.f (s0_0 : List Int) (s0_1 : Int) (s0_2 : Int) (a1 : Int) (a2 : Int) : Option (Int × Int × Int) := (exactpplmake_Src_N.f s0_0 s0_1 s0_2 (wrap64 ((wrap64 (a2 - a1)) + 1))).bind fun bt219 => (some (wrap64 (a1 + bt219.1), bt219.2.1, bt219.2.2))
set_option maxHeartbeats 8000000 in
set_option maxRecDepth 100000 in
theorem exactpplmake_Src_Range.calls (g : Nat) (s0_0 : List Int) (s0_1 : Int) (s0_2 : Int) (a1 : Int) (a2 : Int) (r1 : Int) (r2 : Int) (r3 : Int) (w0 w : World) (hI : IsS63 w0 w g s0_0 s0_1 s0_2) (hB : Below w0.heap.size w0 w) (h : exactpplmake_Src_Range.f s0_0 s0_1 s0_2 a1 a2 = some (r1, r2, r3)) :
    Calls Tryd.prog 17 #[.pointer (some ⟨g, 0, none⟩), .int .i64 a1, .int .i64 a2] w fun e w' => e = .returned (.int .i64 r1) ∧ IsS63 w0 w' g s0_0 r2 r3 ∧ Below w0.heap.size w0 w' ∧ KeepBut w w' g none := by
  have HI0 := Aside0.mk hI
  have HK := Aside0.mk (KeepBut.refl w g none)
  have HL := Aside0.mk hB.size
  clear hI
  have HW0 := Aside0.mk hB.size
  have HB := Aside0.mk hB
  clear hB
  have H : ((exactpplmake_Src_N.f s0_0 s0_1 s0_2 (wrap64 ((wrap64 (a2 - a1)) + 1))).bind fun bt219 => (some (wrap64 (a1 + bt219.1), bt219.2.1, bt219.2.2))) = some (r1, r2, r3) := h
  clear h
  replace H := Option.bind_eq_some_iff.mp H
  obtain ⟨⟨t219, t220, t221⟩, A40, H⟩ := H
  replace H : (some (wrap64 (a1 + t219), t220, t221)) = some (r1, r2, r3) := H
  have A4 := Aside0.mk A40
  clear A40
  simp only [Option.some.injEq, Prod.mk.injEq] at H
  obtain ⟨rfl, rfl, rfl⟩ := H
  go_enter Tryd.func17, Tryd.ntmps17
  go_wp2_with (first | ((with_reducible refine gate_callee (f := 20) rfl ?_); refine goesL_ (some 13) rfl rfl Tryd.func20 (by kernel_rfl) rfl #[.pointer (some ⟨g, 0, none⟩), .int .i64 (wrap64 ((wrap64 (a2 - a1)) + 1))] rfl (by (try simp only [List.map_toArray, List.map_cons, List.map_nil]); first | done | rfl | (simp only [List.length_drop, List.length_take]; rfl)) ?_; (with_reducible refine (exactpplmake_Src_N.calls g s0_0 s0_1 s0_2 (wrap64 ((wrap64 (a2 - a1)) + 1)) t219 t220 t221 w0 _ ?side1 ?side2 A4.out).mono ?_); (case side1 => repeat (first | (with_reducible first | exact HI0.out | apply IsS63.alloc | apply IsS63.drewN | apply IsS63.drew | apply IsS63.set_1 | apply IsS63.set_2) | exact HI0.out)); (case side2 => repeat (first | (with_reducible first | exact HB.out | apply below_alloc | apply pw_below_drewN | apply below_drew1 | refine below_set ?_ (IsS63.ge HI0.out)) | exact HB.out)); rintro e w5 ⟨rfl, hi, hb, hk⟩; refine ⟨_, rfl, ?_⟩; have n0_ := Aside0.mk (KeepBut.trans (by repeat (first | (with_reducible first | exact HK.out | apply KeepBut.set_ | apply keep_drewN | apply keep_drew | apply keep_alloc) | exact HK.out)) hk (.inl rfl)); have n1_ := Aside0.mk (hb); have n2_ := Aside0.mk (hi); clear HK; clear HB; clear HI0; have HK := n0_; have HB := n1_; have HI0 := n2_; clear n0_ n1_ n2_; (try clear hb); (try clear hb2); (try clear hk); (try clear hi)))
  go_ret
  exact ⟨by first | rfl | (simp [errW_none, errW_some] <;> rfl) | (simp [*, errW_none, errW_some] <;> rfl), by repeat (first | (with_reducible first | exact HI0.out | apply IsS63.alloc | apply IsS63.drewN | apply IsS63.drew | apply IsS63.set_1 | apply IsS63.set_2) | exact HI0.out), by repeat (first | (with_reducible first | exact HB.out | apply below_alloc | apply pw_below_drewN | apply below_drew1 | refine below_set ?_ (IsS63.ge HI0.out)) | exact HB.out), by repeat (first | (with_reducible first | exact HK.out | apply KeepBut.set_ | apply keep_drewN | apply keep_drew | apply keep_alloc) | exact HK.out)⟩

end Go.Proofs.YtggelekooacmnaaDoor.Q
namespace Go.Proofs.YtggelekooacmnaaDoor.Q
open Go.RowKit Go.Proofs.YtggelekooacmnaaDoorW.PrintWords Go.Proofs.YtggelekooacmnaaDoorW.PrintLast Go.Proofs.YtggelekooacmnaaDoorW.PrintMore
attribute [local go_sem] max2_int min2_int max_two min_two max_three min_three max_four min_four   -- for this text's walks alone
set_option linter.unusedVariables false
set_option linter.unusedSimpArgs false

/-! ### exactpplmake_Src_Type: function 15 -/
mutual
def exactpplmake_Src_Type.j0 : Nat → Int → Int → List Int → Int → Int → Option (Int × Int × Int × Int × (List (S24)) × Int × Int)
 | 0, _, _, _, _, _ => none
 | k + 1, x1, x5, x1000, x1001, x1002 => if x5 = 0 then (some (1, 0, 0, 0, ([] : List (S24)), x1001, x1002)) else (if x5 = 1 then (exactpplmake_Src_Type.j1 k x1 x5 (x5 == 1) x1000 x1001 x1002) else (exactpplmake_Src_Type.j1 k x1 x5 (x5 == 2) x1000 x1001 x1002))
def exactpplmake_Src_Type.j1 : Nat → Int → Int → Bool → List Int → Int → Int → Option (Int × Int × Int × Int × (List (S24)) × Int × Int)
 | 0, _, _, _, _, _, _ => none
 | k + 1, x1, x15, x19, x1000, x1001, x1002 => if x19 = true then ((exactpplmake_Src_Range.f x1000 x1001 x1002 (-2) 3).bind fun bt229 => ((exactpplmake_Src_N.f x1000 bt229.2.1 bt229.2.2 4).bind fun bt232 => (some (2, bt229.1, wrap64 (bt229.1 + bt232.1), 0, ([] : List (S24)), bt232.2.1, bt232.2.2)))) else (if x15 = 3 then (exactpplmake_Src_Type.j2 k x1 (x15 == 3) x1000 x1001 x1002) else (exactpplmake_Src_Type.j2 k x1 (x15 == 4) x1000 x1001 x1002))
def exactpplmake_Src_Type.j2 : Nat → Int → Bool → List Int → Int → Int → Option (Int × Int × Int × Int × (List (S24)) × Int × Int)
 | 0, _, _, _, _, _ => none
 | k + 1, x1, x30, x1000, x1001, x1002 => if x30 = true then ((exactpplmake_Src_Range.f x1000 x1001 x1002 2 3).bind fun bt236 => (exactpplmake_Src_Type.l0 k x1 bt236.1 x1000 bt236.2.1 bt236.2.2 5 0 0 0 ([] : List (S24)))) else ((exactpplmake_Src_Range.f x1000 x1001 x1002 1 2).bind fun bt251 => ((exactpplmake_Src_Type.f k x1000 bt251.2.1 bt251.2.2 1).bind fun bt254 => (some (6, 0, 0, bt251.1, (([(⟨bt254.1, bt254.2.1, bt254.2.2.1, bt254.2.2.2.1, bt254.2.2.2.2.1⟩ : S24)] : List (S24))), bt254.2.2.2.2.2.1, bt254.2.2.2.2.2.2))))
def exactpplmake_Src_Type.l0 : Nat → Int → Int → List Int → Int → Int → Int → Int → Int → Int → List (S24) → Option (Int × Int × Int × Int × (List (S24)) × Int × Int)
 | 0, _, _, _, _, _, _, _, _, _, _ => none
 | k + 1, x1, x8, x1000, x1001, x1002, x236000, x236001, x236002, x236003, x236004 => if x8 > 0 then ((exactpplmake_Src_Type.f k x1000 x1001 x1002 (wrap64 (x1 - 1))).bind fun bt239 => (if x236004.length < 2513169434916 then (exactpplmake_Src_Type.l0 k x1 (wrap64 (x8 - 1)) x1000 bt239.2.2.2.2.2.1 bt239.2.2.2.2.2.2 x236000 x236001 x236002 x236003 (x236004 ++ [(⟨bt239.1, bt239.2.1, bt239.2.2.1, bt239.2.2.2.1, bt239.2.2.2.2.1⟩ : S24)])) else (none))) else (some (x236000, x236001, x236002, x236003, x236004, x1001, x1002))
def exactpplmake_Src_Type.f : Nat → List Int → Int → Int → Int → Option (Int × Int × Int × Int × (List (S24)) × Int × Int)
 | 0, _, _, _, _ => none
 | k + 1, s0_0, s0_1, s0_2, a1 => (exactpplmake_Src_N.f s0_0 s0_1 s0_2 6).bind fun bt223 => (if a1 ≤ 1 then ((exactpplmake_Src_N.f s0_0 bt223.2.1 bt223.2.2 3).bind fun bt226 => (exactpplmake_Src_Type.j0 k a1 bt226.1 s0_0 bt226.2.1 bt226.2.2)) else (exactpplmake_Src_Type.j0 k a1 bt223.1 s0_0 bt223.2.1 bt223.2.2))
end
theorem exactpplmake_Src_Type.mono_l : ∀ k, (∀ y0 y1 y2 y3, LeO (exactpplmake_Src_Type.f k y0 y1 y2 y3) (exactpplmake_Src_Type.f (k + 1) y0 y1 y2 y3)) ∧ (∀ y0 y1 y2 y3 y4, LeO (exactpplmake_Src_Type.j0 k y0 y1 y2 y3 y4) (exactpplmake_Src_Type.j0 (k + 1) y0 y1 y2 y3 y4)) ∧ (∀ y0 y1 y2 y3 y4 y5, LeO (exactpplmake_Src_Type.j1 k y0 y1 y2 y3 y4 y5) (exactpplmake_Src_Type.j1 (k + 1) y0 y1 y2 y3 y4 y5)) ∧ (∀ y0 y1 y2 y3 y4, LeO (exactpplmake_Src_Type.j2 k y0 y1 y2 y3 y4) (exactpplmake_Src_Type.j2 (k + 1) y0 y1 y2 y3 y4)) ∧ (∀ y0 y1 y2 y3 y4 y5 y6 y7 y8 y9, LeO (exactpplmake_Src_Type.l0 k y0 y1 y2 y3 y4 y5 y6 y7 y8 y9) (exactpplmake_Src_Type.l0 (k + 1) y0 y1 y2 y3 y4 y5 y6 y7 y8 y9))
 | 0 => ⟨fun _ _ _ _ r h => by simp [exactpplmake_Src_Type.f] at h, fun _ _ _ _ _ r h => by simp [exactpplmake_Src_Type.j0] at h, fun _ _ _ _ _ _ r h => by simp [exactpplmake_Src_Type.j1] at h, fun _ _ _ _ _ r h => by simp [exactpplmake_Src_Type.j2] at h, fun _ _ _ _ _ _ _ _ _ _ r h => by simp [exactpplmake_Src_Type.l0] at h⟩
 | k + 1 => by
  obtain ⟨ih0, ih1, ih2, ih3, ih4⟩ := exactpplmake_Src_Type.mono_l k
  refine ⟨?_, ?_, ?_, ?_, ?_⟩
  ·intro y0 y1 y2 y3
   unfold exactpplmake_Src_Type.f
   repeat' first
   | (with_reducible exact ih0 _ _ _ _)
   | (with_reducible exact ih1 _ _ _ _ _)
   | (with_reducible exact ih2 _ _ _ _ _ _)
   | (with_reducible exact ih3 _ _ _ _ _)
   | (with_reducible exact ih4 _ _ _ _ _ _ _ _ _ _)
   | (with_reducible exact LeO.refl _)
   | (with_reducible exact LeO.none _)
   | (with_reducible refine LeO.ite ?_ ?_)
   | (with_reducible refine LeO.bind ?_ (fun _ => ?_))
   | exact ih0 _ _ _ _
   | exact ih1 _ _ _ _ _
   | exact ih2 _ _ _ _ _ _
   | exact ih3 _ _ _ _ _
   | exact ih4 _ _ _ _ _ _ _ _ _ _
   | exact LeO.none _
   | refine LeO.ite ?_ ?_
   | refine LeO.bind ?_ (fun _ => ?_)
  ·intro y0 y1 y2 y3 y4
   unfold exactpplmake_Src_Type.j0
   repeat' first
   | (with_reducible exact ih0 _ _ _ _)
   | (with_reducible exact ih1 _ _ _ _ _)
   | (with_reducible exact ih2 _ _ _ _ _ _)
   | (with_reducible exact ih3 _ _ _ _ _)
   | (with_reducible exact ih4 _ _ _ _ _ _ _ _ _ _)
   | (with_reducible exact LeO.refl _)
   | (with_reducible exact LeO.none _)
   | (with_reducible refine LeO.ite ?_ ?_)
   | (with_reducible refine LeO.bind ?_ (fun _ => ?_))
   | exact ih0 _ _ _ _
   | exact ih1 _ _ _ _ _
   | exact ih2 _ _ _ _ _ _
   | exact ih3 _ _ _ _ _
   | exact ih4 _ _ _ _ _ _ _ _ _ _
   | exact LeO.none _
   | refine LeO.ite ?_ ?_
   | refine LeO.bind ?_ (fun _ => ?_)
  ·intro y0 y1 y2 y3 y4 y5
   unfold exactpplmake_Src_Type.j1
   repeat' first
   | (with_reducible exact ih0 _ _ _ _)
   | (with_reducible exact ih1 _ _ _ _ _)
   | (with_reducible exact ih2 _ _ _ _ _ _)
   | (with_reducible exact ih3 _ _ _ _ _)
   | (with_reducible exact ih4 _ _ _ _ _ _ _ _ _ _)
   | (with_reducible exact LeO.refl _)
   | (with_reducible exact LeO.none _)
   | (with_reducible refine LeO.ite ?_ ?_)
   | (with_reducible refine LeO.bind ?_ (fun _ => ?_))
   | exact ih0 _ _ _ _
   | exact ih1 _ _ _ _ _
   | exact ih2 _ _ _ _ _ _
   | exact ih3 _ _ _ _ _
   | exact ih4 _ _ _ _ _ _ _ _ _ _
   | exact LeO.none _
   | refine LeO.ite ?_ ?_
   | refine LeO.bind ?_ (fun _ => ?_)
  ·intro y0 y1 y2 y3 y4
   unfold exactpplmake_Src_Type.j2
   repeat' first
   | (with_reducible exact ih0 _ _ _ _)
   | (with_reducible exact ih1 _ _ _ _ _)
   | (with_reducible exact ih2 _ _ _ _ _ _)
   | (with_reducible exact ih3 _ _ _ _ _)
   | (with_reducible exact ih4 _ _ _ _ _ _ _ _ _ _)
   | (with_reducible exact LeO.refl _)
   | (with_reducible exact LeO.none _)
   | (with_reducible refine LeO.ite ?_ ?_)
   | (with_reducible refine LeO.bind ?_ (fun _ => ?_))
   | exact ih0 _ _ _ _
   | exact ih1 _ _ _ _ _
   | exact ih2 _ _ _ _ _ _
   | exact ih3 _ _ _ _ _
   | exact ih4 _ _ _ _ _ _ _ _ _ _
   | exact LeO.none _
   | refine LeO.ite ?_ ?_
   | refine LeO.bind ?_ (fun _ => ?_)
  ·intro y0 y1 y2 y3 y4 y5 y6 y7 y8 y9
   unfold exactpplmake_Src_Type.l0
   repeat' first
   | (with_reducible exact ih0 _ _ _ _)
   | (with_reducible exact ih1 _ _ _ _ _)
   | (with_reducible exact ih2 _ _ _ _ _ _)
   | (with_reducible exact ih3 _ _ _ _ _)
   | (with_reducible exact ih4 _ _ _ _ _ _ _ _ _ _)
   | (with_reducible exact LeO.refl _)
   | (with_reducible exact LeO.none _)
   | (with_reducible refine LeO.ite ?_ ?_)
   | (with_reducible refine LeO.bind ?_ (fun _ => ?_))
   | exact ih0 _ _ _ _
   | exact ih1 _ _ _ _ _
   | exact ih2 _ _ _ _ _ _
   | exact ih3 _ _ _ _ _
   | exact ih4 _ _ _ _ _ _ _ _ _ _
   | exact LeO.none _
   | refine LeO.ite ?_ ?_
   | refine LeO.bind ?_ (fun _ => ?_)
theorem exactpplmake_Src_Type.mono : ∀ a0 a1 a2 a3 k, LeO (exactpplmake_Src_Type.f k a0 a1 a2 a3) (exactpplmake_Src_Type.f (k + 1) a0 a1 a2 a3) := by
 intro a0 a1 a2 a3 k
 obtain ⟨ih0, ih1, ih2, ih3, ih4⟩ := exactpplmake_Src_Type.mono_l k
 exact ih0 a0 a1 a2 a3
def exactpplmake_Src_Type.T17 : Bool × List (List Nat × List Nat) := (true, [([], []), ([0], [0]), ([], []), ([], []), ([3], [3]), ([2, 4], [2, 4]), ([5], [5]), ([1, 6, 5], [1, 6]), ([0, 1, 2, 3, 4, 5, 6, 7], []), ([8, 7, 7, 0, 1, 2, 3, 4, 5, 6, 7], [7, 8])])
def exactpplmake_Src_Type.B17 : List Nat := [0, 1, 0, 0, 8, 28, 60, 127, 255, 511]
theorem exactpplmake_Src_Type.tab17 : rtab .any (opsOf Tryd.f15 17) = exactpplmake_Src_Type.T17 := by kernel_rfl
theorem exactpplmake_Src_Type.bits17 : waitsOk exactpplmake_Src_Type.T17.2 exactpplmake_Src_Type.B17 = true := by kernel_rfl
set_option maxHeartbeats 8000000 in
set_option maxRecDepth 100000 in
theorem exactpplmake_Src_Type.calls (k : Nat) : ∀ (g : Nat) (s0_0 : List Int) (s0_1 : Int) (s0_2 : Int) (a1 : Int) (r1 : Int) (r2 : Int) (r3 : Int) (r4 : Int) (r5 : List (S24)) (r6 : Int) (r7 : Int) (w0 w : World) (hI : IsS63 w0 w g s0_0 s0_1 s0_2) (hB : Below w0.heap.size w0 w) (h : exactpplmake_Src_Type.f k s0_0 s0_1 s0_2 a1 = some (r1, r2, r3, r4, r5, r6, r7)),
  Calls Tryd.prog 15 #[.pointer (some ⟨g, 0, none⟩), .int .i64 a1] w fun e w' => ∃ v4_ : Value, e = .returned (.agg #[.int .i64 r1, .int .i64 r2, .int .i64 r3, .int .i64 r4, v4_]) ∧ Kd.N k24 24 w' w.heap.size (fun k_ => (w.heap.size ≤ k_)) v4_ r5 ∧ IsS63 w0 w' g s0_0 r6 r7 ∧ Below w0.heap.size w0 w' ∧ KeepBut w w' g none := by
 induction k using Nat.strongRecOn with
 | _ k ih =>
 intro g s0_0 s0_1 s0_2 a1 r1 r2 r3 r4 r5 r6 r7 w0 w hI hB h
 cases k with
 | zero => exact absurd h (by simp [exactpplmake_Src_Type.f])
 | succ k =>
 simp only [exactpplmake_Src_Type.f] at h
 have hu24 := Tryd.underlying24
 have HI0 := Aside0.mk hI
 have HK := Aside0.mk (KeepBut.refl w g none)
 have HL := Aside0.mk hB.size
 clear hI
 have HW0 := Aside0.mk hB.size
 have HB := Aside0.mk hB
 clear hB
 have H : ((exactpplmake_Src_N.f s0_0 s0_1 s0_2 6).bind fun bt223 => (if a1 ≤ 1 then ((exactpplmake_Src_N.f s0_0 bt223.2.1 bt223.2.2 3).bind fun bt226 => (exactpplmake_Src_Type.j0 k a1 bt226.1 s0_0 bt226.2.1 bt226.2.2)) else (exactpplmake_Src_Type.j0 k a1 bt223.1 s0_0 bt223.2.1 bt223.2.2))) = some (r1, r2, r3, r4, r5, r6, r7) := h
 clear h
 replace H := Option.bind_eq_some_iff.mp H
 obtain ⟨⟨t223, t224, t225⟩, A30, H⟩ := H
 replace H : (if a1 ≤ 1 then ((exactpplmake_Src_N.f s0_0 t224 t225 3).bind fun bt226 => (exactpplmake_Src_Type.j0 k a1 bt226.1 s0_0 bt226.2.1 bt226.2.2)) else (exactpplmake_Src_Type.j0 k a1 t223 s0_0 t224 t225)) = some (r1, r2, r3, r4, r5, r6, r7) := H
 have A3 := Aside0.mk A30
 clear A30
 have HC4 := Aside0.mk H
 clear H
 go_enter Tryd.func15, Tryd.ntmps15
 go_upto_if 12 with (first | ((with_reducible refine gate_dst (N := 4) rfl ?_); refine box_event ?hg (N := 4) ?hd (cs := #[.int .i64 0, .int .i64 0, .int .i64 0, .int .i64 0, .slice none 0 0]) (t := 24) ?hr ?_; (case hd => rfl); (case hg => rfl); (case hr => first | (go_simp; done) | (go_simp; rfl)); intro gb222 hg w5 hbox hb; have BK222 := Aside0.mk (hbox); have GW222 := Aside0.mk ((by rw [hg]; exact (keep_size (w := w) (g := g) (row := none) (by repeat (first | (with_reducible first | exact HK.out | apply KeepBut.set_ | apply keep_drewN | apply keep_drew | apply keep_alloc) | exact HK.out))) : w.heap.size ≤ gb222)); have GE222 := Aside0.mk ((Nat.le_trans HW0.out (by rw [hg]; exact (keep_size (w := w) (g := g) (row := none) (by repeat (first | (with_reducible first | exact HK.out | apply KeepBut.set_ | apply keep_drewN | apply keep_drew | apply keep_alloc) | exact HK.out))) : w.heap.size ≤ gb222) : w0.heap.size ≤ gb222)); have NB0_222 := Aside0.mk ((by rw [hg]; exact Nat.ne_of_lt (IsS63.lt (show IsS63 w0 _ g s0_0 s0_1 s0_2 from si_)) : g ≠ gb222)); have NB222_0 := Aside0.mk ((by rw [hg]; exact Nat.ne_of_gt (IsS63.lt (show IsS63 w0 _ g s0_0 s0_1 s0_2 from si_)) : gb222 ≠ g)); replace HI0 := Aside0.mk (IsS63.below si_ hb); replace HK := Aside0.mk (KeepBut.trans (by repeat (first | (with_reducible first | exact HK.out | apply KeepBut.set_ | apply keep_drewN | apply keep_drew | apply keep_alloc) | exact HK.out)) (KeepBut.of_below hb g none) (.inl rfl)); replace HB := Aside0.mk (below_step bl_ hb); clear hb hbox hg) | ((with_reducible refine gate_callee (f := 20) rfl ?_); refine goesL_ (some 10) rfl rfl Tryd.func20 (by kernel_rfl) rfl #[.pointer (some ⟨g, 0, none⟩), .int .i64 6] rfl (by (try simp only [List.map_toArray, List.map_cons, List.map_nil]); first | done | rfl | (simp only [List.length_drop, List.length_take]; rfl)) ?_; (with_reducible refine (exactpplmake_Src_N.calls g s0_0 s0_1 s0_2 6 t223 t224 t225 w0 _ ?side1 ?side2 A3.out).mono ?_); (case side1 => repeat (first | (with_reducible first | exact HI0.out | apply IsS63.alloc | apply IsS63.drewN | apply IsS63.drew | apply IsS63.set_1 | apply IsS63.set_2 | refine IsS63.far ?_ NB0_222.out _) | exact HI0.out)); (case side2 => repeat (first | (with_reducible first | exact HB.out | apply below_alloc | apply pw_below_drewN | apply below_drew1 | refine below_set ?_ (IsS63.ge HI0.out) | refine below_set ?_ GE222.out) | exact HB.out)); rintro e w6 ⟨rfl, hi, hb, hk⟩; refine ⟨_, rfl, ?_⟩; replace BK222 := Aside0.mk (KeepBut.blk hk (g' := gb222) (o := .cells #[.int .i64 0, .int .i64 0, .int .i64 0, .int .i64 0, .slice none 0 0] 24 (0, 0)) bk_ NB222_0.out (by simp)); replace HK := Aside0.mk (KeepBut.trans (by repeat (first | (with_reducible first | exact HK.out | apply KeepBut.set_ | apply keep_drewN | apply keep_drew | apply keep_alloc | refine keep_far ?_ GW222.out _) | exact HK.out)) hk (.inl rfl)); replace HB := Aside0.mk (hb); replace HI0 := Aside0.mk (hi); (try clear hb); (try clear hb2); (try clear hk); (try clear hi)))
 (try simp only [Act.put, List.setIfInBounds_toArray, List.set_cons_zero, List.set_cons_succ])
 go_cut [5] (fun v5 wc => ∃ (kq : Nat) (x5_3 : Int) (x1001_3 : Int) (x1002_3 : Int), v5 = .int .i64 x5_3 ∧ Aside0 (exactpplmake_Src_Type.j0 kq a1 x5_3 s0_0 x1001_3 x1002_3 = some (r1, r2, r3, r4, r5, r6, r7)) ∧ Aside0 (kq ≤ k) ∧ Aside0 (wc.heap[gb222]? = some (.cells #[.int .i64 0, .int .i64 0, .int .i64 0, .int .i64 0, (.slice none 0 0)] 24 (0, 0))) ∧ Aside0 (IsS63 w0 wc g s0_0 x1001_3 x1002_3) ∧ Aside0 (KeepBut w wc g none) ∧ Aside0 (Below w0.heap.size w0 wc))
 case first =>
  have H := HC4.out
  clear HC4
  by_cases c7 : a1 ≤ 1
  ·rw [if_pos c7] at H
   have c7b0 : decide (a1 ≤ 1) = true := decide_eq_true c7
   clear c7
   (first | rw [c7b0] | (simp only [i64_w, i32_w]; rw [c7b0]) | skip)
   replace H := Option.bind_eq_some_iff.mp H
   obtain ⟨⟨t226, t227, t228⟩, A80, H⟩ := H
   replace H : (exactpplmake_Src_Type.j0 k a1 t226 s0_0 t227 t228) = some (r1, r2, r3, r4, r5, r6, r7) := H
   have A8 := Aside0.mk A80
   clear A80
   have H' := Aside0.mk H
   clear H
   go_wp2_with (first | ((with_reducible refine gate_callee (f := 20) rfl ?_); refine goesL_ (some 14) rfl rfl Tryd.func20 (by kernel_rfl) rfl #[.pointer (some ⟨g, 0, none⟩), .int .i64 3] rfl (by (try simp only [List.map_toArray, List.map_cons, List.map_nil]); first | done | rfl | (simp only [List.length_drop, List.length_take]; rfl)) ?_; (with_reducible refine (exactpplmake_Src_N.calls g s0_0 t224 t225 3 t226 t227 t228 w0 _ ?side1 ?side2 A8.out).mono ?_); (case side1 => repeat (first | (with_reducible first | exact HI0.out | apply IsS63.alloc | apply IsS63.drewN | apply IsS63.drew | apply IsS63.set_1 | apply IsS63.set_2 | refine IsS63.far ?_ NB0_222.out _) | exact HI0.out)); (case side2 => repeat (first | (with_reducible first | exact HB.out | apply below_alloc | apply pw_below_drewN | apply below_drew1 | refine below_set ?_ (IsS63.ge HI0.out) | refine below_set ?_ GE222.out) | exact HB.out)); rintro e w9 ⟨rfl, hi, hb, hk⟩; refine ⟨_, rfl, ?_⟩; replace BK222 := Aside0.mk (KeepBut.blk hk (g' := gb222) (o := .cells #[.int .i64 0, .int .i64 0, .int .i64 0, .int .i64 0, .slice none 0 0] 24 (0, 0)) bk_ NB222_0.out (by simp)); replace HK := Aside0.mk (KeepBut.trans (by repeat (first | (with_reducible first | exact HK.out | apply KeepBut.set_ | apply keep_drewN | apply keep_drew | apply keep_alloc | refine keep_far ?_ GW222.out _) | exact HK.out)) hk (.inl rfl)); replace HB := Aside0.mk (hb); replace HI0 := Aside0.mk (hi); (try clear hb); (try clear hb2); (try clear hk); (try clear hi)))
   go_meet
   case rel => exact ⟨_, (t226), (t227), (t228), rs_, H', ⟨by first | omega | exact Nat.le_refl _⟩, ⟨bk_⟩, ⟨si_⟩, ⟨by repeat (first | (with_reducible first | exact HK.out | apply KeepBut.set_ | apply keep_drewN | apply keep_drew | apply keep_alloc | refine keep_far ?_ GW222.out _) | exact HK.out)⟩, ⟨bl_⟩⟩
  ·rw [if_neg c7] at H
   have c7b0 : decide (a1 ≤ 1) = false := decide_eq_false c7
   clear c7
   (first | rw [c7b0] | (simp only [i64_w, i32_w]; rw [c7b0]) | skip)
   have H' := Aside0.mk H
   clear H
   go_wp2
   go_meet
   case rel => exact ⟨_, (t223), (t224), (t225), rs_, H', ⟨by first | omega | exact Nat.le_refl _⟩, ⟨bk_⟩, ⟨si_⟩, ⟨by repeat (first | (with_reducible first | exact HK.out | apply KeepBut.set_ | apply keep_drewN | apply keep_drew | apply keep_alloc | refine keep_far ?_ GW222.out _) | exact HK.out)⟩, ⟨bl_⟩⟩
 case rest =>
  clear HC4
  try clear c1
  try clear c2
  try clear p2
  try clear c7
  try clear c7b0
  obtain ⟨kq, x5_3, x1001_3, x1002_3, rfl, HA, HJ3, BK222, HI0, HK, HB⟩ := hcut
  cases kq with
  | zero => exact absurd HA.out (by simp [exactpplmake_Src_Type.j0])
  | succ kj3 =>
   have H := HA.out
   clear HA
   simp only [exactpplmake_Src_Type.j0] at H
   by_cases c10 : x5_3 = 0
   ·rw [if_pos c10] at H
    have c10b0 : (x5_3 == 0) = true := beq_iff_eq.mpr c10
    have c10b1 : (x5_3 != 0) = false := bne_eq_false_iff_eq.mpr c10
    clear c10
    simp only [Option.some.injEq, Prod.mk.injEq] at H
    obtain ⟨rfl, rfl, rfl, rfl, rfl, rfl, rfl⟩ := H
    have hnb11 := NB222_0.out
    have hnc11 := NB0_222.out
    obtain ⟨hcz12_0, hcz12_1, hcz12_2, hcz12_3, hcz12_4, hfz12_0, hfz12_1, hfz12_2, hfz12_3, hfz12_4⟩ := cf5_ BK222.out
    go_wp2
    refine bodyPost_ret (results_cell_row rfl _ _ gb222 24 #[.int .i64 1, .int .i64 0, .int .i64 0, .int .i64 0, .slice none 0 0] (0, 0) _ rfl (by (with_reducible repeat (first | refine blk_drewN ?_ _ | refine blk_drew ?_ | refine blk_alloc ?_ _)); refine blk_put (cs := #[.int .i64 1, .int .i64 0, .int .i64 0, .int .i64 0, .slice none 0 0]) ?_ 4 _ rfl; (with_reducible repeat (first | refine blk_drewN ?_ _ | refine blk_drew ?_ | refine blk_alloc ?_ _)); refine blk_put (cs := #[.int .i64 1, .int .i64 0, .int .i64 0, .int .i64 0, .slice none 0 0]) ?_ 3 _ rfl; (with_reducible repeat (first | refine blk_drewN ?_ _ | refine blk_drew ?_ | refine blk_alloc ?_ _)); refine blk_put (cs := #[.int .i64 1, .int .i64 0, .int .i64 0, .int .i64 0, .slice none 0 0]) ?_ 2 _ rfl; (with_reducible repeat (first | refine blk_drewN ?_ _ | refine blk_drew ?_ | refine blk_alloc ?_ _)); refine blk_put (cs := #[.int .i64 1, .int .i64 0, .int .i64 0, .int .i64 0, .slice none 0 0]) ?_ 1 _ rfl; (with_reducible repeat (first | refine blk_drewN ?_ _ | refine blk_drew ?_ | refine blk_alloc ?_ _)); refine blk_put (cs := #[.int .i64 0, .int .i64 0, .int .i64 0, .int .i64 0, .slice none 0 0]) ?_ 0 _ rfl; (with_reducible repeat (first | refine blk_drewN ?_ _ | refine blk_drew ?_ | refine blk_alloc ?_ _)); exact BK222.out) Tryd.underlying24 rfl (by kernel_rfl)) rfl ?_
    exact ⟨_, re_, by first | exact Kd.R_nil _ _ _ _ _ | exact Kd.N_nil _ _ _ _ _ | exact Kd.V_nil _ _ _ _ _ | exact Kd.Q_nil _ _ _ _ _ | exact Kd.S_nil _ _ _ _ _, si_, bl_, by repeat (first | (with_reducible first | exact HK.out | apply KeepBut.set_ | apply keep_drewN | apply keep_drew | apply keep_alloc | refine keep_far ?_ GW222.out _) | exact HK.out)⟩
   ·rw [if_neg c10] at H
    have c10b0 : (x5_3 == 0) = false := beq_eq_false_iff_ne.mpr c10
    have c10b1 : (x5_3 != 0) = true := bne_iff_ne.mpr c10
    have HC13 := Aside0.mk H
    clear H
    go_upto_if 19 with (fail)
    go_cut [19] (fun v19 wc => ∃ (kq : Nat) (x19_12 : Bool), v19 = .bool x19_12 ∧ Aside0 (exactpplmake_Src_Type.j1 kq a1 x5_3 x19_12 s0_0 x1001_3 x1002_3 = some (r1, r2, r3, r4, r5, r6, r7)) ∧ Aside0 (kq ≤ kj3) ∧ Aside0 (wc.heap[gb222]? = some (.cells #[.int .i64 0, .int .i64 0, .int .i64 0, .int .i64 0, (.slice none 0 0)] 24 (0, 0))) ∧ Aside0 (IsS63 w0 wc g s0_0 x1001_3 x1002_3) ∧ Aside0 (KeepBut w wc g none) ∧ Aside0 (Below w0.heap.size w0 wc))
    case first =>
     have H := HC13.out
     clear HC13
     by_cases c14 : x5_3 = 1
     ·rw [if_pos c14] at H
      have c14b0 : (x5_3 == 1) = true := beq_iff_eq.mpr c14
      have c14b1 : (x5_3 != 1) = false := bne_eq_false_iff_eq.mpr c14
      clear c14
      (first | rw [c14b0] | (simp only [i64_w, i32_w]; rw [c14b0]) | skip)
      have H' := Aside0.mk H
      clear H
      go_wp2
      go_meet
      case rel => exact ⟨_, ((x5_3 == 1)), rs_, H', ⟨by have := HJ3.out; first | omega | exact Nat.le_refl _⟩, ⟨bk_⟩, ⟨si_⟩, ⟨by repeat (first | (with_reducible first | exact HK.out | apply KeepBut.set_ | apply keep_drewN | apply keep_drew | apply keep_alloc | refine keep_far ?_ GW222.out _) | exact HK.out)⟩, ⟨bl_⟩⟩
     ·rw [if_neg c14] at H
      have c14b0 : (x5_3 == 1) = false := beq_eq_false_iff_ne.mpr c14
      have c14b1 : (x5_3 != 1) = true := bne_iff_ne.mpr c14
      (first | rw [c14b0] | (simp only [i64_w, i32_w]; rw [c14b0]) | skip)
      have H' := Aside0.mk H
      clear H
      go_wp2
      go_meet
      case rel => exact ⟨_, ((x5_3 == 2)), rs_, H', ⟨by have := HJ3.out; first | omega | exact Nat.le_refl _⟩, ⟨bk_⟩, ⟨si_⟩, ⟨by repeat (first | (with_reducible first | exact HK.out | apply KeepBut.set_ | apply keep_drewN | apply keep_drew | apply keep_alloc | refine keep_far ?_ GW222.out _) | exact HK.out)⟩, ⟨bl_⟩⟩
    case rest =>
     clear HC13
     try clear c1
     try clear c2
     try clear p2
     try clear c7
     try clear c7b0
     try clear c10
     try clear c10b0
     try clear c10b1
     try clear c11
     try clear c14
     try clear c14b0
     try clear c14b1
     try clear hcz12_0 hcz12_1 hcz12_2 hcz12_3 hcz12_4 hfz12_0 hfz12_1 hfz12_2 hfz12_3 hfz12_4
     try clear p2
     obtain ⟨kq, x19_12, rfl, HA, HJ12, BK222, HI0, HK, HB⟩ := hcut
     cases kq with
     | zero => exact absurd HA.out (by simp [exactpplmake_Src_Type.j1])
     | succ kj12 =>
      have H := HA.out
      clear HA
      simp only [exactpplmake_Src_Type.j1] at H
      by_cases c15 : x19_12 = true
      ·subst c15
       have H1 : ((exactpplmake_Src_Range.f s0_0 x1001_3 x1002_3 (-2) 3).bind fun bt229 => ((exactpplmake_Src_N.f s0_0 bt229.2.1 bt229.2.2 4).bind fun bt232 => (some (2, bt229.1, wrap64 (bt229.1 + bt232.1), 0, ([] : List (S24)), bt232.2.1, bt232.2.2)))) = some (r1, r2, r3, r4, r5, r6, r7) := by rw [if_pos rfl] at H; exact H
       clear H
       have H := H1
       clear H1
       replace H := Option.bind_eq_some_iff.mp H
       obtain ⟨⟨t229, t230, t231⟩, A160, H⟩ := H
       replace H : ((exactpplmake_Src_N.f s0_0 t230 t231 4).bind fun bt232 => (some (2, t229, wrap64 (t229 + bt232.1), 0, ([] : List (S24)), bt232.2.1, bt232.2.2))) = some (r1, r2, r3, r4, r5, r6, r7) := H
       have A16 := Aside0.mk A160
       clear A160
       replace H := Option.bind_eq_some_iff.mp H
       obtain ⟨⟨t232, t233, t234⟩, A170, H⟩ := H
       replace H : (some (2, t229, wrap64 (t229 + t232), 0, ([] : List (S24)), t233, t234)) = some (r1, r2, r3, r4, r5, r6, r7) := H
       have A17 := Aside0.mk A170
       clear A170
       simp only [Option.some.injEq, Prod.mk.injEq] at H
       obtain ⟨rfl, rfl, rfl, rfl, rfl, rfl, rfl⟩ := H
       go_wp2_with (first | ((with_reducible refine gate_callee (f := 17) rfl ?_); refine goesL_ (some 23) rfl rfl Tryd.func17 (by kernel_rfl) rfl #[.pointer (some ⟨g, 0, none⟩), .int .i64 (-2), .int .i64 3] rfl (by (try simp only [List.map_toArray, List.map_cons, List.map_nil]); first | done | rfl | (simp only [List.length_drop, List.length_take]; rfl)) ?_; (with_reducible refine (exactpplmake_Src_Range.calls g s0_0 x1001_3 x1002_3 (-2) 3 t229 t230 t231 w0 _ ?side1 ?side2 A16.out).mono ?_); (case side1 => repeat (first | (with_reducible first | exact HI0.out | apply IsS63.alloc | apply IsS63.drewN | apply IsS63.drew | apply IsS63.set_1 | apply IsS63.set_2 | refine IsS63.far ?_ NB0_222.out _) | exact HI0.out)); (case side2 => repeat (first | (with_reducible first | exact HB.out | apply below_alloc | apply pw_below_drewN | apply below_drew1 | refine below_set ?_ (IsS63.ge HI0.out) | refine below_set ?_ GE222.out) | exact HB.out)); rintro e w18 ⟨rfl, hi, hb, hk⟩; refine ⟨_, rfl, ?_⟩; replace BK222 := Aside0.mk (KeepBut.blk hk (g' := gb222) (o := .cells #[.int .i64 0, .int .i64 0, .int .i64 0, .int .i64 0, .slice none 0 0] 24 (0, 0)) bk_ NB222_0.out (by simp)); replace HK := Aside0.mk (KeepBut.trans (by repeat (first | (with_reducible first | exact HK.out | apply KeepBut.set_ | apply keep_drewN | apply keep_drew | apply keep_alloc | refine keep_far ?_ GW222.out _) | exact HK.out)) hk (.inl rfl)); replace HB := Aside0.mk (hb); replace HI0 := Aside0.mk (hi); (try clear hb); (try clear hb2); (try clear hk); (try clear hi)) | ((with_reducible refine gate_callee (f := 20) rfl ?_); refine goesL_ (some 27) rfl rfl Tryd.func20 (by kernel_rfl) rfl #[.pointer (some ⟨g, 0, none⟩), .int .i64 4] rfl (by (try simp only [List.map_toArray, List.map_cons, List.map_nil]); first | done | rfl | (simp only [List.length_drop, List.length_take]; rfl)) ?_; (with_reducible refine (exactpplmake_Src_N.calls g s0_0 t230 t231 4 t232 t233 t234 w0 _ ?side1 ?side2 A17.out).mono ?_); (case side1 => repeat (first | (with_reducible first | exact HI0.out | apply IsS63.alloc | apply IsS63.drewN | apply IsS63.drew | apply IsS63.set_1 | apply IsS63.set_2 | refine IsS63.far ?_ NB0_222.out _) | exact HI0.out)); (case side2 => repeat (first | (with_reducible first | exact HB.out | apply below_alloc | apply pw_below_drewN | apply below_drew1 | refine below_set ?_ (IsS63.ge HI0.out) | refine below_set ?_ GE222.out) | exact HB.out)); rintro e w19 ⟨rfl, hi, hb, hk⟩; refine ⟨_, rfl, ?_⟩; replace BK222 := Aside0.mk (KeepBut.blk hk (g' := gb222) (o := .cells #[.int .i64 0, .int .i64 0, .int .i64 0, .int .i64 0, .slice none 0 0] 24 (0, 0)) bk_ NB222_0.out (by simp)); replace HK := Aside0.mk (KeepBut.trans (by repeat (first | (with_reducible first | exact HK.out | apply KeepBut.set_ | apply keep_drewN | apply keep_drew | apply keep_alloc | refine keep_far ?_ GW222.out _) | exact HK.out)) hk (.inl rfl)); replace HB := Aside0.mk (hb); replace HI0 := Aside0.mk (hi); (try clear hb); (try clear hb2); (try clear hk); (try clear hi); have hnb20 := NB222_0.out; have hnc20 := NB0_222.out; obtain ⟨hcz21_0, hcz21_1, hcz21_2, hcz21_3, hcz21_4, hfz21_0, hfz21_1, hfz21_2, hfz21_3, hfz21_4⟩ := cf5_ BK222.out))
       refine bodyPost_ret (results_cell_row rfl _ _ gb222 24 #[.int .i64 2, .int .i64 t229, .int .i64 (wrap64 (t229 + t232)), .int .i64 0, .slice none 0 0] (0, 0) _ rfl (by (with_reducible repeat (first | refine blk_drewN ?_ _ | refine blk_drew ?_ | refine blk_alloc ?_ _)); refine blk_put (cs := #[.int .i64 2, .int .i64 t229, .int .i64 (wrap64 (t229 + t232)), .int .i64 0, .slice none 0 0]) ?_ 4 _ rfl; (with_reducible repeat (first | refine blk_drewN ?_ _ | refine blk_drew ?_ | refine blk_alloc ?_ _)); refine blk_put (cs := #[.int .i64 2, .int .i64 t229, .int .i64 (wrap64 (t229 + t232)), .int .i64 0, .slice none 0 0]) ?_ 3 _ rfl; (with_reducible repeat (first | refine blk_drewN ?_ _ | refine blk_drew ?_ | refine blk_alloc ?_ _)); refine blk_put (cs := #[.int .i64 2, .int .i64 t229, .int .i64 0, .int .i64 0, .slice none 0 0]) ?_ 2 _ rfl; (with_reducible repeat (first | refine blk_drewN ?_ _ | refine blk_drew ?_ | refine blk_alloc ?_ _)); refine blk_put (cs := #[.int .i64 2, .int .i64 0, .int .i64 0, .int .i64 0, .slice none 0 0]) ?_ 1 _ rfl; (with_reducible repeat (first | refine blk_drewN ?_ _ | refine blk_drew ?_ | refine blk_alloc ?_ _)); refine blk_put (cs := #[.int .i64 0, .int .i64 0, .int .i64 0, .int .i64 0, .slice none 0 0]) ?_ 0 _ rfl; (with_reducible repeat (first | refine blk_drewN ?_ _ | refine blk_drew ?_ | refine blk_alloc ?_ _)); exact BK222.out) Tryd.underlying24 rfl (by kernel_rfl)) rfl ?_
       exact ⟨_, re_, by first | exact Kd.R_nil _ _ _ _ _ | exact Kd.N_nil _ _ _ _ _ | exact Kd.V_nil _ _ _ _ _ | exact Kd.Q_nil _ _ _ _ _ | exact Kd.S_nil _ _ _ _ _, si_, bl_, by repeat (first | (with_reducible first | exact HK.out | apply KeepBut.set_ | apply keep_drewN | apply keep_drew | apply keep_alloc | refine keep_far ?_ GW222.out _) | exact HK.out)⟩
      ·replace c15 := Bool.eq_false_iff.mpr c15
       subst c15
       have H1 : (if x5_3 = 3 then (exactpplmake_Src_Type.j2 kj12 a1 (x5_3 == 3) s0_0 x1001_3 x1002_3) else (exactpplmake_Src_Type.j2 kj12 a1 (x5_3 == 4) s0_0 x1001_3 x1002_3)) = some (r1, r2, r3, r4, r5, r6, r7) := by rw [if_neg (show ¬ (false = true) by decide)] at H; exact H
       clear H
       have H := H1
       clear H1
       have HC22 := Aside0.mk H
       clear H
       go_upto_if 30 with (fail)
       go_cut [30] (fun v30 wc => ∃ (kq : Nat) (x30_21 : Bool), v30 = .bool x30_21 ∧ Aside0 (exactpplmake_Src_Type.j2 kq a1 x30_21 s0_0 x1001_3 x1002_3 = some (r1, r2, r3, r4, r5, r6, r7)) ∧ Aside0 (kq ≤ kj12) ∧ Aside0 (wc.heap[gb222]? = some (.cells #[.int .i64 0, .int .i64 0, .int .i64 0, .int .i64 0, (.slice none 0 0)] 24 (0, 0))) ∧ Aside0 (IsS63 w0 wc g s0_0 x1001_3 x1002_3) ∧ Aside0 (KeepBut w wc g none) ∧ Aside0 (Below w0.heap.size w0 wc))
       case first =>
        have H := HC22.out
        clear HC22
        by_cases c23 : x5_3 = 3
        ·rw [if_pos c23] at H
         have c23b0 : (x5_3 == 3) = true := beq_iff_eq.mpr c23
         have c23b1 : (x5_3 != 3) = false := bne_eq_false_iff_eq.mpr c23
         clear c23
         (first | rw [c23b0] | (simp only [i64_w, i32_w]; rw [c23b0]) | skip)
         have H' := Aside0.mk H
         clear H
         go_wp2
         go_meet
         case rel => exact ⟨_, ((x5_3 == 3)), rs_, H', ⟨by have := HJ3.out; have := HJ12.out; first | omega | exact Nat.le_refl _⟩, ⟨bk_⟩, ⟨si_⟩, ⟨by repeat (first | (with_reducible first | exact HK.out | apply KeepBut.set_ | apply keep_drewN | apply keep_drew | apply keep_alloc | refine keep_far ?_ GW222.out _) | exact HK.out)⟩, ⟨bl_⟩⟩
        ·rw [if_neg c23] at H
         have c23b0 : (x5_3 == 3) = false := beq_eq_false_iff_ne.mpr c23
         have c23b1 : (x5_3 != 3) = true := bne_iff_ne.mpr c23
         (first | rw [c23b0] | (simp only [i64_w, i32_w]; rw [c23b0]) | skip)
         have H' := Aside0.mk H
         clear H
         go_wp2
         go_meet
         case rel => exact ⟨_, ((x5_3 == 4)), rs_, H', ⟨by have := HJ3.out; have := HJ12.out; first | omega | exact Nat.le_refl _⟩, ⟨bk_⟩, ⟨si_⟩, ⟨by repeat (first | (with_reducible first | exact HK.out | apply KeepBut.set_ | apply keep_drewN | apply keep_drew | apply keep_alloc | refine keep_far ?_ GW222.out _) | exact HK.out)⟩, ⟨bl_⟩⟩
       case rest =>
        clear HC22
        try clear c1
        try clear c2
        try clear p2
        try clear p6
        try clear c7
        try clear c7b0
        try clear c10
        try clear c10b0
        try clear c10b1
        try clear c11
        try clear c14
        try clear c14b0
        try clear c14b1
        try clear c15
        try clear c17
        try clear c20
        try clear c23
        try clear c23b0
        try clear c23b1
        try clear hcz12_0 hcz12_1 hcz12_2 hcz12_3 hcz12_4 hfz12_0 hfz12_1 hfz12_2 hfz12_3 hfz12_4
        try clear hcz21_0 hcz21_1 hcz21_2 hcz21_3 hcz21_4 hfz21_0 hfz21_1 hfz21_2 hfz21_3 hfz21_4
        try clear p2
        obtain ⟨kq, x30_21, rfl, HA, HJ21, BK222, HI0, HK, HB⟩ := hcut
        cases kq with
        | zero => exact absurd HA.out (by simp [exactpplmake_Src_Type.j2])
        | succ kj21 =>
         have H := HA.out
         clear HA
         simp only [exactpplmake_Src_Type.j2] at H
         by_cases c24 : x30_21 = true
         ·subst c24
          have H1 : ((exactpplmake_Src_Range.f s0_0 x1001_3 x1002_3 2 3).bind fun bt236 => (exactpplmake_Src_Type.l0 kj21 a1 bt236.1 s0_0 bt236.2.1 bt236.2.2 5 0 0 0 ([] : List (S24)))) = some (r1, r2, r3, r4, r5, r6, r7) := by rw [if_pos rfl] at H; exact H
          clear H
          have H := H1
          clear H1
          replace H := Option.bind_eq_some_iff.mp H
          obtain ⟨⟨t236, t237, t238⟩, A250, H⟩ := H
          replace H : (exactpplmake_Src_Type.l0 kj21 a1 t236 s0_0 t237 t238 5 0 0 0 ([] : List (S24))) = some (r1, r2, r3, r4, r5, r6, r7) := H
          have A25 := Aside0.mk A250
          clear A250
          have H' := Aside0.mk H
          clear H
          go_wp2_with (first | ((with_reducible refine gate_dst (N := 7) rfl ?_); refine box_event ?hg (N := 7) ?hd (cs := #[.int .i64 0, .int .i64 0, .int .i64 0, .int .i64 0, .slice none 0 0]) (t := 24) ?hr ?_; (case hd => rfl); (case hg => rfl); (case hr => first | (go_simp; done) | (go_simp; rfl)); intro gb235 hg w26 hbox hb; have BK235 := Aside0.mk (hbox); have GW235 := Aside0.mk ((by rw [hg]; exact (keep_size (w := w) (g := g) (row := none) (by repeat (first | (with_reducible first | exact HK.out | apply KeepBut.set_ | apply keep_drewN | apply keep_drew | apply keep_alloc | refine keep_far ?_ GW222.out _) | exact HK.out))) : w.heap.size ≤ gb235)); have GE235 := Aside0.mk ((Nat.le_trans HW0.out (by rw [hg]; exact (keep_size (w := w) (g := g) (row := none) (by repeat (first | (with_reducible first | exact HK.out | apply KeepBut.set_ | apply keep_drewN | apply keep_drew | apply keep_alloc | refine keep_far ?_ GW222.out _) | exact HK.out))) : w.heap.size ≤ gb235) : w0.heap.size ≤ gb235)); have NB222_235 := Aside0.mk ((by rw [hg]; exact Nat.ne_of_lt (blk_lt (g := gb222) (o := .cells #[.int .i64 0, .int .i64 0, .int .i64 0, .int .i64 0, .slice none 0 0] 24 (0, 0)) bk_) : gb222 ≠ gb235)); have NB235_222 := Aside0.mk ((by rw [hg]; exact Nat.ne_of_gt (blk_lt (g := gb222) (o := .cells #[.int .i64 0, .int .i64 0, .int .i64 0, .int .i64 0, .slice none 0 0] 24 (0, 0)) bk_) : gb235 ≠ gb222)); have NB0_235 := Aside0.mk ((by rw [hg]; exact Nat.ne_of_lt (IsS63.lt (show IsS63 w0 _ g s0_0 x1001_3 x1002_3 from si_)) : g ≠ gb235)); have NB235_0 := Aside0.mk ((by rw [hg]; exact Nat.ne_of_gt (IsS63.lt (show IsS63 w0 _ g s0_0 x1001_3 x1002_3 from si_)) : gb235 ≠ g)); replace BK222 := Aside0.mk (blk_below (g := gb222) (o := .cells #[.int .i64 0, .int .i64 0, .int .i64 0, .int .i64 0, .slice none 0 0] 24 (0, 0)) bk_ hb); replace HI0 := Aside0.mk (IsS63.below si_ hb); replace HK := Aside0.mk (KeepBut.trans (by repeat (first | (with_reducible first | exact HK.out | apply KeepBut.set_ | apply keep_drewN | apply keep_drew | apply keep_alloc | refine keep_far ?_ GW222.out _) | exact HK.out)) (KeepBut.of_below hb g none) (.inl rfl)); replace HB := Aside0.mk (below_step bl_ hb); clear hb hbox hg; have hnb27 := NB235_222.out; have hnc27 := NB222_235.out; have hnb28 := NB235_0.out; have hnc28 := NB0_235.out; obtain ⟨hcz29_0, hcz29_1, hcz29_2, hcz29_3, hcz29_4, hfz29_0, hfz29_1, hfz29_2, hfz29_3, hfz29_4⟩ := cf5_ BK235.out) | ((with_reducible refine gate_callee (f := 17) rfl ?_); refine goesL_ (some 35) rfl rfl Tryd.func17 (by kernel_rfl) rfl #[.pointer (some ⟨g, 0, none⟩), .int .i64 2, .int .i64 3] rfl (by (try simp only [List.map_toArray, List.map_cons, List.map_nil]); first | done | rfl | (simp only [List.length_drop, List.length_take]; rfl)) ?_; (with_reducible refine (exactpplmake_Src_Range.calls g s0_0 x1001_3 x1002_3 2 3 t236 t237 t238 w0 _ ?side1 ?side2 A25.out).mono ?_); (case side1 => repeat (first | (with_reducible first | exact HI0.out | apply IsS63.alloc | apply IsS63.drewN | apply IsS63.drew | apply IsS63.set_1 | apply IsS63.set_2 | refine IsS63.far ?_ NB0_222.out _ | refine IsS63.far ?_ NB0_235.out _) | exact HI0.out)); (case side2 => repeat (first | (with_reducible first | exact HB.out | apply below_alloc | apply pw_below_drewN | apply below_drew1 | refine below_set ?_ (IsS63.ge HI0.out) | refine below_set ?_ GE222.out | refine below_set ?_ GE235.out) | exact HB.out)); rintro e w30 ⟨rfl, hi, hb, hk⟩; refine ⟨_, rfl, ?_⟩; replace BK222 := Aside0.mk (KeepBut.blk hk (g' := gb222) (o := .cells #[.int .i64 0, .int .i64 0, .int .i64 0, .int .i64 0, .slice none 0 0] 24 (0, 0)) (by (with_reducible repeat (first | refine blk_drewN ?_ _ | refine blk_drew ?_ | refine blk_alloc ?_ _)); refine blk_far ?_ NB222_235.out _; (with_reducible repeat (first | refine blk_drewN ?_ _ | refine blk_drew ?_ | refine blk_alloc ?_ _)); refine blk_far ?_ NB222_235.out _; (with_reducible repeat (first | refine blk_drewN ?_ _ | refine blk_drew ?_ | refine blk_alloc ?_ _)); refine blk_far ?_ NB222_235.out _; (with_reducible repeat (first | refine blk_drewN ?_ _ | refine blk_drew ?_ | refine blk_alloc ?_ _)); refine blk_far ?_ NB222_235.out _; (with_reducible repeat (first | refine blk_drewN ?_ _ | refine blk_drew ?_ | refine blk_alloc ?_ _)); refine blk_far ?_ NB222_235.out _; (with_reducible repeat (first | refine blk_drewN ?_ _ | refine blk_drew ?_ | refine blk_alloc ?_ _)); exact BK222.out) NB222_0.out (by simp)); replace BK235 := Aside0.mk (KeepBut.blk hk (g' := gb235) (o := .cells #[.int .i64 5, .int .i64 0, .int .i64 0, .int .i64 0, .slice none 0 0] 24 (0, 0)) (by (with_reducible repeat (first | refine blk_drewN ?_ _ | refine blk_drew ?_ | refine blk_alloc ?_ _)); refine blk_put (cs := #[.int .i64 5, .int .i64 0, .int .i64 0, .int .i64 0, .slice none 0 0]) ?_ 4 _ rfl; (with_reducible repeat (first | refine blk_drewN ?_ _ | refine blk_drew ?_ | refine blk_alloc ?_ _)); refine blk_put (cs := #[.int .i64 5, .int .i64 0, .int .i64 0, .int .i64 0, .slice none 0 0]) ?_ 3 _ rfl; (with_reducible repeat (first | refine blk_drewN ?_ _ | refine blk_drew ?_ | refine blk_alloc ?_ _)); refine blk_put (cs := #[.int .i64 5, .int .i64 0, .int .i64 0, .int .i64 0, .slice none 0 0]) ?_ 2 _ rfl; (with_reducible repeat (first | refine blk_drewN ?_ _ | refine blk_drew ?_ | refine blk_alloc ?_ _)); refine blk_put (cs := #[.int .i64 5, .int .i64 0, .int .i64 0, .int .i64 0, .slice none 0 0]) ?_ 1 _ rfl; (with_reducible repeat (first | refine blk_drewN ?_ _ | refine blk_drew ?_ | refine blk_alloc ?_ _)); refine blk_put (cs := #[.int .i64 0, .int .i64 0, .int .i64 0, .int .i64 0, .slice none 0 0]) ?_ 0 _ rfl; (with_reducible repeat (first | refine blk_drewN ?_ _ | refine blk_drew ?_ | refine blk_alloc ?_ _)); exact BK235.out) NB235_0.out (by simp)); replace HK := Aside0.mk (KeepBut.trans (by repeat (first | (with_reducible first | exact HK.out | apply KeepBut.set_ | apply keep_drewN | apply keep_drew | apply keep_alloc | refine keep_far ?_ GW222.out _ | refine keep_far ?_ GW235.out _) | exact HK.out)) hk (.inl rfl)); replace HB := Aside0.mk (hb); replace HI0 := Aside0.mk (hi); (try clear hb); (try clear hb2); (try clear hk); (try clear hi)))
          go_loopg [8] kj21 (fun kq v8 w' => ∃ (x8_4 : Int) (x1001_4 : Int) (x1002_4 : Int) (x236004_4 : List (S24)) (u236004 : Value), v8 = .int .i64 x8_4 ∧ Aside0 (exactpplmake_Src_Type.l0 kq a1 x8_4 s0_0 x1001_4 x1002_4 5 0 0 0 x236004_4 = some (r1, r2, r3, r4, r5, r6, r7)) ∧ Aside0 (kq ≤ kj21) ∧ Aside0 (Kd.N k24 24 w' w.heap.size (fun k_ => (w.heap.size ≤ k_) ∧ k_ ≠ gb222 ∧ k_ ≠ gb235 ∧ k_ ≠ g) u236004 x236004_4) ∧ Aside0 (w'.heap[gb222]? = some (.cells #[.int .i64 0, .int .i64 0, .int .i64 0, .int .i64 0, (.slice none 0 0)] 24 (0, 0))) ∧ Aside0 (w'.heap[gb235]? = some (.cells #[.int .i64 5, .int .i64 0, .int .i64 0, .int .i64 0, u236004] 24 (0, 0))) ∧ Aside0 (IsS63 w0 w' g s0_0 x1001_4 x1002_4) ∧ Aside0 (KeepBut w w' g none) ∧ Aside0 (Below w0.heap.size w0 w'))
          case atStart => exact ⟨(t236), (t237), (t238), (([] : List (S24))), (.slice none 0 0), rs_, H', ⟨Nat.le_refl _⟩, ⟨by first | exact Kd.R_nil _ _ _ _ _ | exact Kd.N_nil _ _ _ _ _ | exact Kd.V_nil _ _ _ _ _ | exact Kd.Q_nil _ _ _ _ _ | exact Kd.S_nil _ _ _ _ _⟩, ⟨bk_⟩, ⟨bk_⟩, ⟨si_⟩, ⟨by repeat (first | (with_reducible first | exact HK.out | apply KeepBut.set_ | apply keep_drewN | apply keep_drew | apply keep_alloc | refine keep_far ?_ GW222.out _ | refine keep_far ?_ GW235.out _) | exact HK.out)⟩, ⟨bl_⟩⟩
          case round =>
           clear H'
           try clear c1
           try clear c2
           try clear p2
           try clear p6
           try clear c7
           try clear c7b0
           try clear c10
           try clear c10b0
           try clear c10b1
           try clear c11
           try clear c14
           try clear c14b0
           try clear c14b1
           try clear c15
           try clear c17
           try clear c20
           try clear c23
           try clear c23b0
           try clear c23b1
           try clear c24
           try clear c27
           try clear c28
           try clear hcz12_0 hcz12_1 hcz12_2 hcz12_3 hcz12_4 hfz12_0 hfz12_1 hfz12_2 hfz12_3 hfz12_4
           try clear hcz21_0 hcz21_1 hcz21_2 hcz21_3 hcz21_4 hfz21_0 hfz21_1 hfz21_2 hfz21_3 hfz21_4
           try clear hcz29_0 hcz29_1 hcz29_2 hcz29_3 hcz29_4 hfz29_0 hfz29_1 hfz29_2 hfz29_3 hfz29_4
           try clear p2
           try clear p6
           obtain ⟨x8_4, x1001_4, x1002_4, x236004_4, u236004, rfl, HA, HK4, HO_236004, BK222, BK235, HI0, HK, HB⟩ := hrel
           cases gk with
           | zero => exact absurd HA.out (by simp [exactpplmake_Src_Type.l0])
           | succ k4 =>
            have H := HA.out
            clear HA
            simp only [exactpplmake_Src_Type.l0] at H
            by_cases c31 : x8_4 > 0
            ·rw [if_pos c31] at H
             have c31b0 : decide (0 < x8_4) = true := decide_eq_true c31
             clear c31
             replace H := Option.bind_eq_some_iff.mp H
             obtain ⟨⟨t239, t240, t241, t242, t243, t246, t247⟩, A320, H⟩ := H
             replace H : (if x236004_4.length < 2513169434916 then (exactpplmake_Src_Type.l0 k4 a1 (wrap64 (x8_4 - 1)) s0_0 t246 t247 5 0 0 0 (x236004_4 ++ [(⟨t239, t240, t241, t242, t243⟩ : S24)])) else (none)) = some (r1, r2, r3, r4, r5, r6, r7) := H
             have A32 := Aside0.mk A320
             clear A320
             by_cases c33 : x236004_4.length < 2513169434916
             ·rw [if_pos c33] at H
              have LMc33 := Aside0.mk c33
              clear c33
              obtain ⟨y248, hy248⟩ : ∃ y_ : List (S24), y_ = (x236004_4 ++ [(⟨t239, t240, t241, t242, t243⟩ : S24)]) := ⟨_, rfl⟩
              replace H : (exactpplmake_Src_Type.l0 k4 a1 (wrap64 (x8_4 - 1)) s0_0 t246 t247 5 0 0 0 y248) = some (r1, r2, r3, r4, r5, r6, r7) := by first | (rw [hy248]; with_reducible exact H) | (have H2_ := (Option.bind_some _ _).symm.trans H; rw [hy248]; with_reducible exact H2_) | (have H2_ := (Option.bind_some _ _).symm.trans H; with_reducible exact H2_) | with_reducible exact H | (rw [hy248]; exact H) | exact H
              have Ny248 := Aside0.mk hy248
              clear hy248
              have H' := Aside0.mk H
              clear H
              try go_wp2
              replace HO_236004 := Aside0.mk (Kd.N_drew HO_236004.out)
              replace BK222 := Aside0.mk (blk_drew BK222.out)
              replace BK235 := Aside0.mk (blk_drew BK235.out)
              replace HI0 := Aside0.mk (IsS63.drew HI0.out)
              replace HK := Aside0.mk (keep_drew HK.out)
              replace HB := Aside0.mk (below_drew1 HB.out)
              refine start_ (n := 10) (S := fun w' => w'.cell? ⟨gb235, 0, none⟩ = some (.int .i64 5) ∧ w'.cell? ⟨gb235, 1, none⟩ = some (.int .i64 0) ∧ w'.cell? ⟨gb235, 2, none⟩ = some (.int .i64 0) ∧ w'.cell? ⟨gb235, 3, none⟩ = some (.int .i64 0) ∧ w'.cell? ⟨gb235, 4, none⟩ = some (u236004)) (ds := [9]) #[false, false, false, false, false, false, false, false, false, false] (by kernel_rfl) rfl rfl ⟨(blk_cell BK235.out 0).trans rfl, (blk_cell BK235.out 1).trans rfl, (blk_cell BK235.out 2).trans rfl, (blk_cell BK235.out 3).trans rfl, (blk_cell BK235.out 4).trans rfl⟩ (fun hHeld => ?_); refine with_tabW exactpplmake_Src_Type.tab17 exactpplmake_Src_Type.bits17 (fun HT_ HW_ => ?_)
              generalize wr.drew = w34 at HO_236004 BK222 BK235 HI0 HK HB hHeld ⊢
              refine pu_ HT_ 0 40 (bm 10 1) ?_
              refine pu_ HT_ 2 42 (bm 10 5) ?_
              refine pu_ HT_ 3 43 (bm 10 13) ?_
              refine pu_ HT_ 4 44 (bm 10 29) ?_
              refine ta_ HT_ HW_ 1 41 (bm 10 31) hHeld ?_
              refine one_ (i := 5) (N := some 45) #[true, true, true, true, true, true, false, false, false, false] rfl rfl (one_of HT_.out (by kernel_rfl)) (by decide) (fun K hK => ?_)
              refine goes_ Tryd.func15 (by kernel_rfl) rfl #[.pointer (some ⟨g, 0, none⟩), .int .i64 (wrap64 (a1 - 1))] (by rfl) rfl rfl (by (try simp only [List.map_toArray, List.map_cons, List.map_nil]); first | done | rfl | (simp only [List.length_drop, List.length_take]; rfl)) ?_
              with_reducible refine (ih k4 (by have := HJ3.out; have := HJ12.out; have := HJ21.out; have := HK4.out; omega) g s0_0 x1001_4 x1002_4 (wrap64 (a1 - 1)) t239 t240 t241 t242 t243 t246 t247 w0 _ ?side1 ?side2 A32.out).mono ?_
              (case side1 => repeat (first | (with_reducible first | exact HI0.out | apply IsS63.alloc | apply IsS63.drewN | apply IsS63.drew | apply IsS63.set_1 | apply IsS63.set_2 | refine IsS63.far ?_ NB0_222.out _ | refine IsS63.far ?_ NB0_235.out _) | exact HI0.out))
              (case side2 => repeat (first | (with_reducible first | exact HB.out | apply below_alloc | apply pw_below_drewN | apply below_drew1 | refine below_set ?_ (IsS63.ge HI0.out) | refine below_set ?_ GE222.out | refine below_set ?_ GE235.out) | exact HB.out))
              rintro e w35 ⟨v244, rfl, ho0, hi, hb, hk⟩
              refine ⟨_, rfl, ?_⟩
              have HO245 := Aside0.mk (Kd.N_lower (Kd.N_mono (ok' := fun k_ => (w.heap.size ≤ k_) ∧ some k_ ≠ (u236004 : Value).ownBlock ∧ k_ ≠ gb222 ∧ k_ ≠ gb235 ∧ k_ ≠ g) ho0 (fun k_ hk_ => ⟨(Nat.le_trans (keep_size (w := w) (g := g) (row := none) (by repeat (first | (with_reducible first | exact HK.out | apply KeepBut.set_ | apply keep_drewN | apply keep_drew | apply keep_alloc | refine keep_far ?_ GW222.out _ | refine keep_far ?_ GW235.out _) | exact HK.out))) hk_), (Kd.fresh' (Kd.N_lt (pN_ HO_236004.out)) k_ hk_), (Kd.freshB (g := gb222) (o := .cells #[.int .i64 0, .int .i64 0, .int .i64 0, .int .i64 0, .slice none 0 0] 24 (0, 0)) bk_ k_ hk_), (Kd.freshB (g := gb235) (o := .cells #[.int .i64 5, .int .i64 0, .int .i64 0, .int .i64 0, u236004] 24 (0, 0)) bk_ k_ hk_), (IsS63.fresh si_ k_ hk_)⟩)) (keep_size (w := w) (g := g) (row := none) (by repeat (first | (with_reducible first | exact HK.out | apply KeepBut.set_ | apply keep_drewN | apply keep_drew | apply keep_alloc | refine keep_far ?_ GW222.out _ | refine keep_far ?_ GW235.out _) | exact HK.out))))
              replace HO_236004 := Aside0.mk (Kd.N_mono (Kd.N_told (Kd.N_oldK (Kd.N_mono (ok := fun k_ => (((w.heap.size ≤ k_)) ∧ (k_ ≠ gb222 ∧ (k_ ≠ gb235 ∧ k_ ≠ g)))) (pN_ HO_236004.out) (fun k_ hk_ => (⟨hk_, hk_.2.2.2⟩ : _ ∧ k_ ≠ g))) hk) (by first | exact Kd.N_base ho0 | exact Kd.R_base ho0 | exact Kd.N_base (Kd.S_N ho0))) (fun _ h_ => h_.1))
              replace BK222 := Aside0.mk (KeepBut.blk hk (g' := gb222) (o := .cells #[.int .i64 0, .int .i64 0, .int .i64 0, .int .i64 0, .slice none 0 0] 24 (0, 0)) bk_ NB222_0.out (by simp))
              replace BK235 := Aside0.mk (KeepBut.blk hk (g' := gb235) (o := .cells #[.int .i64 5, .int .i64 0, .int .i64 0, .int .i64 0, u236004] 24 (0, 0)) bk_ NB235_0.out (by simp))
              replace HK := Aside0.mk (KeepBut.trans (by repeat (first | (with_reducible first | exact HK.out | apply KeepBut.set_ | apply keep_drewN | apply keep_drew | apply keep_alloc | refine keep_far ?_ GW222.out _ | refine keep_far ?_ GW235.out _) | exact HK.out)) hk (.inl rfl))
              replace HB := Aside0.mk (hb)
              replace HI0 := Aside0.mk (hi)
              (try clear hb)
              (try clear hb2)
              (try clear hk)
              (try clear hi)
              (try clear ho0)
              obtain ⟨Ao37, co37, eo37⟩ := Kd.N_slice HO245.out
              (first | subst eo37 | (injection eo37 with f1_ f2_ f3_; have f4_ := f1_.symm; have f5_ := f3_.symm; clear f1_ f2_ f3_; subst f4_; subst f5_))
              refine hK.out _ _ ⟨(blk_cell BK235.out 0).trans rfl, (blk_cell BK235.out 1).trans rfl, (blk_cell BK235.out 2).trans rfl, (blk_cell BK235.out 3).trans rfl, (blk_cell BK235.out 4).trans rfl⟩ (fun hHeld => ?_)
              clear hK K
              refine norm_ (a' := ?_) ?_ ?_
              rotate_left
              ·show Act.put _ (some 45) _ = _
               simp only [Act.put, List.setIfInBounds_toArray, List.set_cons_zero, List.set_cons_succ, i64_w, i32_w]
               rfl
              refine one_ (i := 6) (N := some 46) #[true, true, true, true, true, true, true, false, false, false] rfl rfl (one_of HT_.out (by kernel_rfl)) (by decide) (fun K hK => ?_)
              refine value_ (w1 := ?_) (v := ?_) (by rfl) rfl ?_ ?_
              rotate_left 2
              ·go_simp
               constructor
               ·rfl
               ·rfl
              refine hK.out _ _ ⟨(blk_cell (blk_alloc BK235.out _) 0).trans rfl, (blk_cell (blk_alloc BK235.out _) 1).trans rfl, (blk_cell (blk_alloc BK235.out _) 2).trans rfl, (blk_cell (blk_alloc BK235.out _) 3).trans rfl, (blk_cell (blk_alloc BK235.out _) 4).trans rfl⟩ (fun hHeld => ?_)
              clear hK K
              refine norm_ (a' := ?_) ?_ ?_
              rotate_left
              ·show Act.put _ (some 46) _ = _
               simp only [Act.put, List.setIfInBounds_toArray, List.set_cons_zero, List.set_cons_succ, i64_w, i32_w]
               rfl
              refine one_ (i := 7) (N := some 47) #[true, true, true, true, true, true, true, true, false, false] rfl rfl (one_of HT_.out (by kernel_rfl)) (by decide) (fun K hK => ?_)
              refine Kd.N_append_step k24 w.heap.size (by rfl) (.tmp 41) (.tmp 46) 22 24 (.agg #[(.int .i64 0), (.int .i64 0), (.int .i64 0), (.int .i64 0), (.slice none 0 0)]) 56 rfl Tryd.underlying22 info24 rfl (by decide) (by omega) u236004 x236004_4 (⟨t239, t240, t241, t242, t243⟩ : S24) [.int .i64 t239, .int .i64 t240, .int .i64 t241, .int .i64 t242, .slice Ao37 t243.length co37] (fun k_ => (w.heap.size ≤ k_) ∧ k_ ≠ gb222 ∧ k_ ≠ gb235 ∧ k_ ≠ g) (fun k_ => ((fun k_ => (w.heap.size ≤ k_) ∧ k_ ≠ gb222 ∧ k_ ≠ gb235 ∧ k_ ≠ g)) k_ ∧ some k_ ≠ (u236004 : Value).ownBlock) rfl rfl ?aP (fun _ hk => hk) ?aF ?aO (Below.refl _ _) ?aS ?aL ?_
              (case aP => exact (k24_mkF _ _ (⟨t239, t240, t241, t242, t243⟩ : S24) (Kd.N_reads' (Kd.N_mono (ok' := (fun k_ => ((fun k_ => (w.heap.size ≤ k_) ∧ k_ ≠ gb222 ∧ k_ ≠ gb235 ∧ k_ ≠ g)) k_ ∧ some k_ ≠ (u236004 : Value).ownBlock)) (HO245.out) (fun k_ hk => ⟨⟨hk.1, ⟨hk.2.2.1, ⟨hk.2.2.2.1, hk.2.2.2.2⟩⟩⟩, hk.2.1⟩))).2.1 (Kd.N_F (Kd.N_mono (ok' := (fun k_ => ((fun k_ => (w.heap.size ≤ k_) ∧ k_ ≠ gb222 ∧ k_ ≠ gb235 ∧ k_ ≠ g)) k_ ∧ some k_ ≠ (u236004 : Value).ownBlock)) (HO245.out) (fun k_ hk => ⟨⟨hk.1, ⟨hk.2.2.1, ⟨hk.2.2.2.1, hk.2.2.2.2⟩⟩⟩, hk.2.1⟩)))))
              (case aF => exact (fun k_ hk => ⟨(Nat.le_trans (keep_size (w := w) (g := g) (row := none) (by repeat (first | (with_reducible first | exact HK.out | apply KeepBut.set_ | apply keep_drewN | apply keep_drew | apply keep_alloc | refine keep_far ?_ GW222.out _ | refine keep_far ?_ GW235.out _) | exact HK.out))) hk), Kd.freshB (g := gb222) (o := .cells #[.int .i64 0, .int .i64 0, .int .i64 0, .int .i64 0, .slice none 0 0] 24 (0, 0)) bk_ k_ hk, Kd.freshB (g := gb235) (o := .cells #[.int .i64 5, .int .i64 0, .int .i64 0, .int .i64 0, u236004] 24 (0, 0)) bk_ k_ hk, IsS63.fresh si_ k_ hk⟩))
              (case aO => exact (by (with_reducible repeat (first | apply Kd.N_alloc | apply Kd.N_drewN | apply Kd.N_drew)); exact Kd.N_mono HO_236004.out (fun _ hk => ⟨hk.1.1, ⟨hk.1.2.1, ⟨hk.1.2.2.1, hk.1.2.2.2⟩⟩⟩)))
              (case aS => exact (keep_size (w := w) (g := g) (row := none) (by repeat (first | (with_reducible first | exact HK.out | apply KeepBut.set_ | apply keep_drewN | apply keep_drew | apply keep_alloc | refine keep_far ?_ GW222.out _ | refine keep_far ?_ GW235.out _) | exact HK.out))))
              (case aL => have := LMc33.out; omega)
              intro v249 w36 ho hb hg hat
              rw [← Ny248.out] at ho
              have HO250 := Aside0.mk (ho)
              replace BK222 := Aside0.mk (blk_grown (g := gb222) (o := .cells #[.int .i64 0, .int .i64 0, .int .i64 0, .int .i64 0, .slice none 0 0] 24 (0, 0)) bk_ hg (Kd.N_away HO_236004.out (fun _ hk => hk.1.2.1)))
              replace BK235 := Aside0.mk (blk_grown (g := gb235) (o := .cells #[.int .i64 5, .int .i64 0, .int .i64 0, .int .i64 0, u236004] 24 (0, 0)) bk_ hg (Kd.N_away HO_236004.out (fun _ hk => hk.1.2.2.1)))
              replace HI0 := Aside0.mk (IsS63.grown si_ hg (IsS63.own_neN HI0.out HO_236004.out (by decide)))
              replace HB := Aside0.mk (below_weaken bl_ HL.out hb)
              replace HK := Aside0.mk (KeepBut.trans (by repeat (first | (with_reducible first | exact HK.out | apply KeepBut.set_ | apply keep_drewN | apply keep_drew | apply keep_alloc | refine keep_far ?_ GW222.out _ | refine keep_far ?_ GW235.out _) | exact HK.out)) (KeepBut.of_grown hg g) (Kd.N_base2 HO_236004.out))
              clear HO_236004 HO245
              clear ho hb hg hat
              obtain ⟨Ao38, co38, eo38⟩ := Kd.N_slice HO250.out
              (first | subst eo38 | (injection eo38 with f1_ f2_ f3_; have f4_ := f1_.symm; have f5_ := f3_.symm; clear f1_ f2_ f3_; subst f4_; subst f5_))
              refine hK.out _ _ ⟨(blk_cell BK235.out 0).trans rfl, (blk_cell BK235.out 1).trans rfl, (blk_cell BK235.out 2).trans rfl, (blk_cell BK235.out 3).trans rfl, (blk_cell BK235.out 4).trans rfl⟩ (fun hHeld => ?_)
              clear hK K
              refine norm_ (a' := ?_) ?_ ?_
              rotate_left
              ·show Act.put _ (some 47) _ = _
               simp only [Act.put, List.setIfInBounds_toArray, List.set_cons_zero, List.set_cons_succ, i64_w, i32_w]
               rfl
              refine pu_ HT_ 8 48 (bm 10 511) ?_
              refine last_ (i := 9) (N := none) #[true, true, true, true, true, true, true, true, true, true] rfl rfl (one_of HT_.out (by kernel_rfl)) (by decide) (fun K hK => ?_)
              have hs39 : w36.cell? ⟨gb235, 4, none⟩ = some (u236004) := (blk_cell BK235.out 4).trans rfl
              have hfs39 := blk_frozen BK235.out 4
              have hns39_0 := NB222_235.out
              have hms39_0 := NB235_222.out
              refine skip_ (w1 := ?_) (by rfl) rfl ?_ ?_
              rotate_left
              ·go_simp
               rfl
              refine hK.out _ _ ?_
              clear hK K
              refine done_ (done_of HT_.out (by kernel_rfl)) ?_
              try go_wp2
              go_roundg k4
              case measure => have := HJ3.out; have := HJ12.out; have := HJ21.out; have := HK4.out; omega
              case rel => exact ⟨(wrap64 (x8_4 - 1)), (t246), (t247), (y248), (.slice Ao38 y248.length co38), rs_, H', ⟨by have := HJ3.out; have := HJ12.out; have := HJ21.out; have := HK4.out; omega⟩, ⟨by (with_reducible repeat (first | apply Kd.N_alloc | apply Kd.N_drewN | apply Kd.N_drew)); exact Kd.N_mono (Kd.N_far (p := ⟨gb235, 4, none⟩) (Kd.N_mono HO250.out (fun k_ hk => (⟨hk, by first | exact hk.2.2.1 | exact hk.1 | exact hk.2 | exact hk.1.1 | exact hk.1.2⟩ : _ ∧ k_ ≠ gb235))) (fun _ hk => hk.2) (.slice Ao38 y248.length co38)) (fun _ hk => ⟨hk.1.1, ⟨hk.1.2.1, ⟨hk.1.2.2.1, hk.1.2.2.2⟩⟩⟩)⟩, ⟨by (with_reducible repeat (first | refine blk_drewN ?_ _ | refine blk_drew ?_ | refine blk_alloc ?_ _)); refine blk_far ?_ NB222_235.out _; (with_reducible repeat (first | refine blk_drewN ?_ _ | refine blk_drew ?_ | refine blk_alloc ?_ _)); exact BK222.out⟩, ⟨by (with_reducible repeat (first | refine blk_drewN ?_ _ | refine blk_drew ?_ | refine blk_alloc ?_ _)); refine blk_put (cs := #[.int .i64 5, .int .i64 0, .int .i64 0, .int .i64 0, u236004]) ?_ 4 _ rfl; (with_reducible repeat (first | refine blk_drewN ?_ _ | refine blk_drew ?_ | refine blk_alloc ?_ _)); exact BK235.out⟩, ⟨si_⟩, ⟨by repeat (first | (with_reducible first | exact HK.out | apply KeepBut.set_ | apply keep_drewN | apply keep_drew | apply keep_alloc | refine keep_far ?_ GW222.out _ | refine keep_far ?_ GW235.out _) | exact HK.out)⟩, ⟨bl_⟩⟩
             ·rw [if_neg c33] at H
              exact absurd H (by simp)
            ·rw [if_neg c31] at H
             have c31b0 : decide (0 < x8_4) = false := decide_eq_false c31
             clear c31
             simp only [Option.some.injEq, Prod.mk.injEq] at H
             obtain ⟨rfl, rfl, rfl, rfl, rfl, rfl, rfl⟩ := H
             have hnb40 := NB235_222.out
             have hnc40 := NB222_235.out
             have hnb41 := NB235_0.out
             have hnc41 := NB0_235.out
             obtain ⟨hcz42_0, hcz42_1, hcz42_2, hcz42_3, hcz42_4, hfz42_0, hfz42_1, hfz42_2, hfz42_3, hfz42_4⟩ := cf5_ BK235.out
             have hnb43 := NB222_0.out
             have hnc43 := NB0_222.out
             obtain ⟨hcz44_0, hcz44_1, hcz44_2, hcz44_3, hcz44_4, hfz44_0, hfz44_1, hfz44_2, hfz44_3, hfz44_4⟩ := cf5_ BK222.out
             obtain ⟨Ao45, co45, eo45⟩ := Kd.N_slice HO_236004.out
             subst eo45
             go_wp2
             refine bodyPost_ret (results_cell_row rfl _ _ gb222 24 #[.int .i64 5, .int .i64 0, .int .i64 0, .int .i64 0, .slice Ao45 x236004_4.length co45] (0, 0) _ rfl (by (with_reducible repeat (first | refine blk_drewN ?_ _ | refine blk_drew ?_ | refine blk_alloc ?_ _)); refine blk_put (cs := #[.int .i64 5, .int .i64 0, .int .i64 0, .int .i64 0, .slice none 0 0]) ?_ 4 _ rfl; (with_reducible repeat (first | refine blk_drewN ?_ _ | refine blk_drew ?_ | refine blk_alloc ?_ _)); refine blk_put (cs := #[.int .i64 5, .int .i64 0, .int .i64 0, .int .i64 0, .slice none 0 0]) ?_ 3 _ rfl; (with_reducible repeat (first | refine blk_drewN ?_ _ | refine blk_drew ?_ | refine blk_alloc ?_ _)); refine blk_put (cs := #[.int .i64 5, .int .i64 0, .int .i64 0, .int .i64 0, .slice none 0 0]) ?_ 2 _ rfl; (with_reducible repeat (first | refine blk_drewN ?_ _ | refine blk_drew ?_ | refine blk_alloc ?_ _)); refine blk_put (cs := #[.int .i64 5, .int .i64 0, .int .i64 0, .int .i64 0, .slice none 0 0]) ?_ 1 _ rfl; (with_reducible repeat (first | refine blk_drewN ?_ _ | refine blk_drew ?_ | refine blk_alloc ?_ _)); refine blk_put (cs := #[.int .i64 0, .int .i64 0, .int .i64 0, .int .i64 0, .slice none 0 0]) ?_ 0 _ rfl; (with_reducible repeat (first | refine blk_drewN ?_ _ | refine blk_drew ?_ | refine blk_alloc ?_ _)); exact BK222.out) Tryd.underlying24 rfl (by kernel_rfl)) rfl ?_
             exact ⟨_, re_, by (with_reducible repeat (first | apply Kd.N_alloc | apply Kd.N_drewN | apply Kd.N_drew)); exact Kd.N_mono (Kd.N_far (p := ⟨gb222, 4, none⟩) (Kd.N_far (p := ⟨gb222, 3, none⟩) (Kd.N_far (p := ⟨gb222, 2, none⟩) (Kd.N_far (p := ⟨gb222, 1, none⟩) (Kd.N_far (p := ⟨gb222, 0, none⟩) (Kd.N_mono HO_236004.out (fun k_ hk => (⟨hk, by first | exact hk.2.1 | exact hk.1 | exact hk.2 | exact hk.1.1 | exact hk.1.2⟩ : _ ∧ k_ ≠ gb222))) (fun _ hk => hk.2) (.int .i64 5)) (fun _ hk => hk.2) (.int .i64 0)) (fun _ hk => hk.2) (.int .i64 0)) (fun _ hk => hk.2) (.int .i64 0)) (fun _ hk => hk.2) (.slice Ao45 x236004_4.length co45)) (fun _ hk => hk.1.1), si_, bl_, by repeat (first | (with_reducible first | exact HK.out | apply KeepBut.set_ | apply keep_drewN | apply keep_drew | apply keep_alloc | refine keep_far ?_ GW222.out _ | refine keep_far ?_ GW235.out _) | exact HK.out)⟩
         ·replace c24 := Bool.eq_false_iff.mpr c24
          subst c24
          have H1 : ((exactpplmake_Src_Range.f s0_0 x1001_3 x1002_3 1 2).bind fun bt251 => ((exactpplmake_Src_Type.f kj21 s0_0 bt251.2.1 bt251.2.2 1).bind fun bt254 => (some (6, 0, 0, bt251.1, (([(⟨bt254.1, bt254.2.1, bt254.2.2.1, bt254.2.2.2.1, bt254.2.2.2.2.1⟩ : S24)] : List (S24))), bt254.2.2.2.2.2.1, bt254.2.2.2.2.2.2)))) = some (r1, r2, r3, r4, r5, r6, r7) := by rw [if_neg (show ¬ (false = true) by decide)] at H; exact H
          clear H
          have H := H1
          clear H1
          replace H := Option.bind_eq_some_iff.mp H
          obtain ⟨⟨t251, t252, t253⟩, A460, H⟩ := H
          replace H : ((exactpplmake_Src_Type.f kj21 s0_0 t252 t253 1).bind fun bt254 => (some (6, 0, 0, t251, (([(⟨bt254.1, bt254.2.1, bt254.2.2.1, bt254.2.2.2.1, bt254.2.2.2.2.1⟩ : S24)] : List (S24))), bt254.2.2.2.2.2.1, bt254.2.2.2.2.2.2))) = some (r1, r2, r3, r4, r5, r6, r7) := H
          have A46 := Aside0.mk A460
          clear A460
          replace H := Option.bind_eq_some_iff.mp H
          obtain ⟨⟨t254, t255, t256, t257, t258, t261, t262⟩, A470, H⟩ := H
          replace H : (some (6, 0, 0, t251, (([(⟨t254, t255, t256, t257, t258⟩ : S24)] : List (S24))), t261, t262)) = some (r1, r2, r3, r4, r5, r6, r7) := H
          have A47 := Aside0.mk A470
          clear A470
          obtain ⟨y263, hy263⟩ : ∃ y_ : List (S24), y_ = (([(⟨t254, t255, t256, t257, t258⟩ : S24)] : List (S24))) := ⟨_, rfl⟩
          replace H : (some (6, 0, 0, t251, y263, t261, t262)) = some (r1, r2, r3, r4, r5, r6, r7) := by first | (rw [hy263]; with_reducible exact H) | (have H2_ := (Option.bind_some _ _).symm.trans H; rw [hy263]; with_reducible exact H2_) | (have H2_ := (Option.bind_some _ _).symm.trans H; with_reducible exact H2_) | with_reducible exact H | (rw [hy263]; exact H) | exact H
          have Ny263 := Aside0.mk hy263
          clear hy263
          simp only [Option.some.injEq, Prod.mk.injEq] at H
          obtain ⟨rfl, rfl, rfl, rfl, rfl, rfl, rfl⟩ := H
          go_wp2_with (first | ((with_reducible refine gate_callee (f := 17) rfl ?_); refine goesL_ (some 51) rfl rfl Tryd.func17 (by kernel_rfl) rfl #[.pointer (some ⟨g, 0, none⟩), .int .i64 1, .int .i64 2] rfl (by (try simp only [List.map_toArray, List.map_cons, List.map_nil]); first | done | rfl | (simp only [List.length_drop, List.length_take]; rfl)) ?_; (with_reducible refine (exactpplmake_Src_Range.calls g s0_0 x1001_3 x1002_3 1 2 t251 t252 t253 w0 _ ?side1 ?side2 A46.out).mono ?_); (case side1 => repeat (first | (with_reducible first | exact HI0.out | apply IsS63.alloc | apply IsS63.drewN | apply IsS63.drew | apply IsS63.set_1 | apply IsS63.set_2 | refine IsS63.far ?_ NB0_222.out _) | exact HI0.out)); (case side2 => repeat (first | (with_reducible first | exact HB.out | apply below_alloc | apply pw_below_drewN | apply below_drew1 | refine below_set ?_ (IsS63.ge HI0.out) | refine below_set ?_ GE222.out) | exact HB.out)); rintro e w48 ⟨rfl, hi, hb, hk⟩; refine ⟨_, rfl, ?_⟩; replace BK222 := Aside0.mk (KeepBut.blk hk (g' := gb222) (o := .cells #[.int .i64 0, .int .i64 0, .int .i64 0, .int .i64 0, .slice none 0 0] 24 (0, 0)) bk_ NB222_0.out (by simp)); replace HK := Aside0.mk (KeepBut.trans (by repeat (first | (with_reducible first | exact HK.out | apply KeepBut.set_ | apply keep_drewN | apply keep_drew | apply keep_alloc | refine keep_far ?_ GW222.out _) | exact HK.out)) hk (.inl rfl)); replace HB := Aside0.mk (hb); replace HI0 := Aside0.mk (hi); (try clear hb); (try clear hb2); (try clear hk); (try clear hi)) | ((with_reducible refine gate_callee (f := 15) rfl ?_); refine goesL_ (some 53) rfl rfl Tryd.func15 (by kernel_rfl) rfl #[.pointer (some ⟨g, 0, none⟩), .int .i64 1] rfl (by (try simp only [List.map_toArray, List.map_cons, List.map_nil]); first | done | rfl | (simp only [List.length_drop, List.length_take]; rfl)) ?_; (with_reducible refine (ih kj21 (by have := HJ3.out; have := HJ12.out; have := HJ21.out; omega) g s0_0 t252 t253 1 t254 t255 t256 t257 t258 t261 t262 w0 _ ?side1 ?side2 A47.out).mono ?_); (case side1 => repeat (first | (with_reducible first | exact HI0.out | apply IsS63.alloc | apply IsS63.drewN | apply IsS63.drew | apply IsS63.set_1 | apply IsS63.set_2 | refine IsS63.far ?_ NB0_222.out _) | exact HI0.out)); (case side2 => repeat (first | (with_reducible first | exact HB.out | apply below_alloc | apply pw_below_drewN | apply below_drew1 | refine below_set ?_ (IsS63.ge HI0.out) | refine below_set ?_ GE222.out) | exact HB.out)); rintro e w49 ⟨v259, rfl, ho0, hi, hb, hk⟩; refine ⟨_, rfl, ?_⟩; have HO260 := Aside0.mk (Kd.N_lower (Kd.N_mono (ok' := fun k_ => (w.heap.size ≤ k_) ∧ k_ ≠ gb222 ∧ k_ ≠ g) ho0 (fun k_ hk_ => ⟨(Nat.le_trans (keep_size (w := w) (g := g) (row := none) (by repeat (first | (with_reducible first | exact HK.out | apply KeepBut.set_ | apply keep_drewN | apply keep_drew | apply keep_alloc | refine keep_far ?_ GW222.out _) | exact HK.out))) hk_), (Kd.freshB (g := gb222) (o := .cells #[.int .i64 0, .int .i64 0, .int .i64 0, .int .i64 0, .slice none 0 0] 24 (0, 0)) bk_ k_ hk_), (IsS63.fresh si_ k_ hk_)⟩)) (keep_size (w := w) (g := g) (row := none) (by repeat (first | (with_reducible first | exact HK.out | apply KeepBut.set_ | apply keep_drewN | apply keep_drew | apply keep_alloc | refine keep_far ?_ GW222.out _) | exact HK.out)))); replace BK222 := Aside0.mk (KeepBut.blk hk (g' := gb222) (o := .cells #[.int .i64 0, .int .i64 0, .int .i64 0, .int .i64 0, .slice none 0 0] 24 (0, 0)) bk_ NB222_0.out (by simp)); replace HK := Aside0.mk (KeepBut.trans (by repeat (first | (with_reducible first | exact HK.out | apply KeepBut.set_ | apply keep_drewN | apply keep_drew | apply keep_alloc | refine keep_far ?_ GW222.out _) | exact HK.out)) hk (.inl rfl)); replace HB := Aside0.mk (hb); replace HI0 := Aside0.mk (hi); (try clear hb); (try clear hb2); (try clear hk); (try clear hi); (try clear ho0); obtain ⟨Ao50, co50, eo50⟩ := Kd.N_slice HO260.out; subst eo50) | ((with_reducible refine gate_dst (N := 54) rfl ?_); refine Kd.N_lit k24 _ 24 ?hg (N' := 54) ?hd (xs := ([(⟨t254, t255, t256, t257, t258⟩ : S24)] : List (S24))) (inner := [.int .i64 t254, .int .i64 t255, .int .i64 t256, .int .i64 t257, .slice Ao50 t258.length co50]) (ok := (fun k_ => (w.heap.size ≤ k_) ∧ k_ ≠ gb222 ∧ k_ ≠ g)) (okp := (fun k_ => (w.heap.size ≤ k_) ∧ k_ ≠ gb222 ∧ k_ ≠ g)) ?hr ?hp (fun _ hk => hk) ((show ∀ k_, w49.heap.size ≤ k_ → (fun k_ => (w.heap.size ≤ k_) ∧ k_ ≠ gb222 ∧ k_ ≠ g) k_ from fun k_ hk => ⟨(Nat.le_trans (keep_size (w := w) (g := g) (row := none) (by repeat (first | (with_reducible first | exact HK.out | apply KeepBut.set_ | apply keep_drewN | apply keep_drew | apply keep_alloc | refine keep_far ?_ GW222.out _) | exact HK.out))) hk), Kd.freshB (g := gb222) (o := .cells #[.int .i64 0, .int .i64 0, .int .i64 0, .int .i64 0, .slice none 0 0] 24 (0, 0)) bk_ k_ hk, IsS63.fresh si_ k_ hk⟩) _ (Nat.le_refl _)) (Below.refl _ _) (Nat.le_refl _) (by simp) ?_; (case hd => rfl); (case hg => rfl); (case hr => first | (go_simp; done) | (go_simp; rfl)); (case hp => exact (Reps.c5 (show Kd.FK k24 _ _ (⟨t254, t255, t256, t257, t258⟩ : S24) [.int .i64 t254, .int .i64 t255, .int .i64 t256, .int .i64 t257, .slice Ao50 t258.length co50] from (k24_mkF _ _ (⟨t254, t255, t256, t257, t258⟩ : S24) (Kd.N_reads' (Kd.N_mono (ok' := (fun k_ => (w.heap.size ≤ k_) ∧ k_ ≠ gb222 ∧ k_ ≠ g)) (HO260.out) (fun k_ hk => ⟨hk.1, ⟨hk.2.1, hk.2.2⟩⟩))).2.1 (Kd.N_F (Kd.N_mono (ok' := (fun k_ => (w.heap.size ≤ k_) ∧ k_ ≠ gb222 ∧ k_ ≠ g)) (HO260.out) (fun k_ hk => ⟨hk.1, ⟨hk.2.1, hk.2.2⟩⟩))))) (Reps.none _ _))); intro v264 w51 ho52 hb hg_ hnew_; clear hg_ hnew_; (first | rw [← Ny263.out] at ho52 | (simp only [Int.reduceToNat] at ho52; rw [← Ny263.out] at ho52)); have HO265 := Aside0.mk (Kd.N_lower ho52 (keep_size (w := w) (g := g) (row := none) (by repeat (first | (with_reducible first | exact HK.out | apply KeepBut.set_ | apply keep_drewN | apply keep_drew | apply keep_alloc | refine keep_far ?_ GW222.out _) | exact HK.out)))); replace BK222 := Aside0.mk (blk_below (g := gb222) (o := .cells #[.int .i64 0, .int .i64 0, .int .i64 0, .int .i64 0, .slice none 0 0] 24 (0, 0)) bk_ hb); replace HI0 := Aside0.mk (IsS63.below si_ hb); replace HK := Aside0.mk (KeepBut.trans (by repeat (first | (with_reducible first | exact HK.out | apply KeepBut.set_ | apply keep_drewN | apply keep_drew | apply keep_alloc | refine keep_far ?_ GW222.out _) | exact HK.out)) (KeepBut.of_below hb g none) (.inl rfl)); replace HB := Aside0.mk (below_step bl_ hb); clear HO260; clear hb ho52; obtain ⟨Ao53, co53, eo53⟩ := Kd.N_slice HO265.out; subst eo53; have hnb54 := NB222_0.out; have hnc54 := NB0_222.out; obtain ⟨hcz55_0, hcz55_1, hcz55_2, hcz55_3, hcz55_4, hfz55_0, hfz55_1, hfz55_2, hfz55_3, hfz55_4⟩ := cf5_ BK222.out))
          refine bodyPost_ret (results_cell_row rfl _ _ gb222 24 #[.int .i64 6, .int .i64 0, .int .i64 0, .int .i64 t251, .slice Ao53 y263.length co53] (0, 0) _ rfl (by (with_reducible repeat (first | refine blk_drewN ?_ _ | refine blk_drew ?_ | refine blk_alloc ?_ _)); refine blk_put (cs := #[.int .i64 6, .int .i64 0, .int .i64 0, .int .i64 t251, .slice none 0 0]) ?_ 4 _ rfl; (with_reducible repeat (first | refine blk_drewN ?_ _ | refine blk_drew ?_ | refine blk_alloc ?_ _)); refine blk_put (cs := #[.int .i64 6, .int .i64 0, .int .i64 0, .int .i64 0, .slice none 0 0]) ?_ 3 _ rfl; (with_reducible repeat (first | refine blk_drewN ?_ _ | refine blk_drew ?_ | refine blk_alloc ?_ _)); refine blk_put (cs := #[.int .i64 6, .int .i64 0, .int .i64 0, .int .i64 0, .slice none 0 0]) ?_ 2 _ rfl; (with_reducible repeat (first | refine blk_drewN ?_ _ | refine blk_drew ?_ | refine blk_alloc ?_ _)); refine blk_put (cs := #[.int .i64 6, .int .i64 0, .int .i64 0, .int .i64 0, .slice none 0 0]) ?_ 1 _ rfl; (with_reducible repeat (first | refine blk_drewN ?_ _ | refine blk_drew ?_ | refine blk_alloc ?_ _)); refine blk_put (cs := #[.int .i64 0, .int .i64 0, .int .i64 0, .int .i64 0, .slice none 0 0]) ?_ 0 _ rfl; (with_reducible repeat (first | refine blk_drewN ?_ _ | refine blk_drew ?_ | refine blk_alloc ?_ _)); exact BK222.out) Tryd.underlying24 rfl (by kernel_rfl)) rfl ?_
          exact ⟨_, re_, by (with_reducible repeat (first | apply Kd.N_alloc | apply Kd.N_drewN | apply Kd.N_drew)); exact Kd.N_mono (Kd.N_far (p := ⟨gb222, 4, none⟩) (Kd.N_far (p := ⟨gb222, 3, none⟩) (Kd.N_far (p := ⟨gb222, 2, none⟩) (Kd.N_far (p := ⟨gb222, 1, none⟩) (Kd.N_far (p := ⟨gb222, 0, none⟩) (Kd.N_mono HO265.out (fun k_ hk => (⟨hk, by first | exact hk.2.1 | exact hk.1 | exact hk.2 | exact hk.1.1 | exact hk.1.2⟩ : _ ∧ k_ ≠ gb222))) (fun _ hk => hk.2) (.int .i64 6)) (fun _ hk => hk.2) (.int .i64 0)) (fun _ hk => hk.2) (.int .i64 0)) (fun _ hk => hk.2) (.int .i64 t251)) (fun _ hk => hk.2) (.slice Ao53 y263.length co53)) (fun _ hk => hk.1.1), si_, bl_, by repeat (first | (with_reducible first | exact HK.out | apply KeepBut.set_ | apply keep_drewN | apply keep_drew | apply keep_alloc | refine keep_far ?_ GW222.out _) | exact HK.out)⟩

end Go.Proofs.YtggelekooacmnaaDoor.Q
namespace Go.Proofs.YtggelekooacmnaaDoor.Q
open Go.RowKit Go.Proofs.YtggelekooacmnaaDoorW.PrintWords Go.Proofs.YtggelekooacmnaaDoorW.PrintLast Go.Proofs.YtggelekooacmnaaDoorW.PrintMore
attribute [local go_sem] max2_int min2_int max_two min_two max_three min_three max_four min_four   -- for this text's walks alone
set_option linter.unusedVariables false
set_option linter.unusedSimpArgs false

/-! ### exactpplref06_Depth: function 45 -/
mutual
def exactpplref06_Depth.l0 : Nat → Int → Int → Int → Int → Int → Int → Int → List (S24) → Option (Int)
  | 0, _, _, _, _, _, _, _, _ => none
  | k + 1, x1, x5, x6, x267000, x267001, x267002, x267003, x267004 => if x6 < (x267004.length : Int) then (if 0 ≤ x6 then ((exactpplref06_Depth.f k ((rd_T24 x267004 x6).f0) ((rd_T24 x267004 x6).f1) ((rd_T24 x267004 x6).f2) ((rd_T24 x267004 x6).f3) ((rd_T24 x267004 x6).f4) (wrap64 (x1 - 1))).bind fun t268 => (exactpplref06_Depth.l0 k x1 (mx x5 t268) (wrap64 (x6 + 1)) x267000 x267001 x267002 x267003 x267004)) else (none)) else (some (mn (wrap64 (x5 + 1)) x1))
def exactpplref06_Depth.f : Nat → Int → Int → Int → Int → List (S24) → Int → Option (Int)
  | 0, _, _, _, _, _, _ => none
  | k + 1, a0_0, a0_1, a0_2, a0_3, l0_4, a1 => if a1 > 1 then (exactpplref06_Depth.l0 k a1 0 0 a0_0 a0_1 a0_2 a0_3 l0_4) else (if (l0_4.length : Int) > 0 then (some a1) else (some (mn (0 + 1) a1)))
end
theorem exactpplref06_Depth.mono_l : ∀ k, (∀ y0 y1 y2 y3 y4 y5, LeO (exactpplref06_Depth.f k y0 y1 y2 y3 y4 y5) (exactpplref06_Depth.f (k + 1) y0 y1 y2 y3 y4 y5)) ∧ (∀ y0 y1 y2 y3 y4 y5 y6 y7, LeO (exactpplref06_Depth.l0 k y0 y1 y2 y3 y4 y5 y6 y7) (exactpplref06_Depth.l0 (k + 1) y0 y1 y2 y3 y4 y5 y6 y7))
  | 0 => ⟨fun _ _ _ _ _ _ r h => by simp [exactpplref06_Depth.f] at h, fun _ _ _ _ _ _ _ _ r h => by simp [exactpplref06_Depth.l0] at h⟩
  | k + 1 => by
    obtain ⟨ih0, ih1⟩ := exactpplref06_Depth.mono_l k
    refine ⟨?_, ?_⟩
    · intro y0 y1 y2 y3 y4 y5
      unfold exactpplref06_Depth.f
      repeat' first
      | (with_reducible exact ih0 _ _ _ _ _ _)
      | (with_reducible exact ih1 _ _ _ _ _ _ _ _)
      | (with_reducible exact LeO.refl _)
      | (with_reducible exact LeO.none _)
      | (with_reducible refine LeO.ite ?_ ?_)
      | (with_reducible refine LeO.bind ?_ (fun _ => ?_))
      | exact ih0 _ _ _ _ _ _
      | exact ih1 _ _ _ _ _ _ _ _
      | exact LeO.none _
      | refine LeO.ite ?_ ?_
      | refine LeO.bind ?_ (fun _ => ?_)
    · intro y0 y1 y2 y3 y4 y5 y6 y7
      unfold exactpplref06_Depth.l0
      repeat' first
      | (with_reducible exact ih0 _ _ _ _ _ _)
      | (with_reducible exact ih1 _ _ _ _ _ _ _ _)
      | (with_reducible exact LeO.refl _)
      | (with_reducible exact LeO.none _)
      | (with_reducible refine LeO.ite ?_ ?_)
      | (with_reducible refine LeO.bind ?_ (fun _ => ?_))
      | exact ih0 _ _ _ _ _ _
      | exact ih1 _ _ _ _ _ _ _ _
      | exact LeO.none _
      | refine LeO.ite ?_ ?_
      | refine LeO.bind ?_ (fun _ => ?_)
theorem exactpplref06_Depth.mono : ∀ a0 a1 a2 a3 a4 a5 k, LeO (exactpplref06_Depth.f k a0 a1 a2 a3 a4 a5) (exactpplref06_Depth.f (k + 1) a0 a1 a2 a3 a4 a5) := by
  intro a0 a1 a2 a3 a4 a5 k
  obtain ⟨ih0, ih1⟩ := exactpplref06_Depth.mono_l k
  exact ih0 a0 a1 a2 a3 a4 a5
set_option maxHeartbeats 8000000 in
set_option maxRecDepth 100000 in
theorem exactpplref06_Depth.calls (k : Nat) : ∀ (a0_0 : Int) (a0_1 : Int) (a0_2 : Int) (a0_3 : Int) (A0_4 : Option Addr) (c0_4 : Nat) (l0_4 : List (S24)) (a1 : Int) (r : Int) (w : World) (hr0_4 : Kd.C k24 w A0_4 l0_4.length l0_4) (hc0_4 : l0_4.length ≤ c0_4) (h : exactpplref06_Depth.f k a0_0 a0_1 a0_2 a0_3 l0_4 a1 = some r),
    Calls Tryd.prog 45 #[.agg #[.int .i64 a0_0, .int .i64 a0_1, .int .i64 a0_2, .int .i64 a0_3, .slice A0_4 l0_4.length c0_4], .int .i64 a1] w fun e w' => e = .returned (.int .i64 r) ∧ Below w.heap.size w w' := by
  induction k using Nat.strongRecOn with
  | _ k ih =>
  intro a0_0 a0_1 a0_2 a0_3 A0_4 c0_4 l0_4 a1 r w hr0_4 hc0_4 h
  cases k with
  | zero => exact absurd h (by simp [exactpplref06_Depth.f])
  | succ k =>
  simp only [exactpplref06_Depth.f] at h
  have hu24 := Tryd.underlying24
  have HR0_4 := Aside0.mk hr0_4
  have HC0_4 := Aside0.mk hc0_4
  clear hr0_4 hc0_4
  have HB := Aside0.mk (Below.refl w.heap.size w)
  have H : (if a1 > 1 then (exactpplref06_Depth.l0 k a1 0 0 a0_0 a0_1 a0_2 a0_3 l0_4) else (if (l0_4.length : Int) > 0 then (some a1) else (some (mn (0 + 1) a1)))) = some r := h
  clear h
  by_cases c3 : a1 > 1
  · rw [if_pos c3] at H
    have c3b0 : decide (1 < a1) = true := decide_eq_true c3
    clear c3
    have H' := Aside0.mk H
    clear H
    go_enter Tryd.func45, Tryd.ntmps45
    go_wp2_with (first | ((with_reducible refine gate_dst (N := 2) rfl ?_); refine box_event ?hg (N := 2) ?hd (cs := #[.int .i64 a0_0, .int .i64 a0_1, .int .i64 a0_2, .int .i64 a0_3, .slice A0_4 l0_4.length c0_4]) (t := 24) ?hr ?_; (case hd => rfl); (case hg => rfl); (case hr => first | (go_simp; done) | (go_simp; rfl)); intro gb266 hg w4 hbox hb; have n0_ := Aside0.mk (below_step (by repeat (first | (with_reducible first | exact HB.out | apply below_alloc | apply pw_below_drewN | apply below_drew1) | exact HB.out)) hb); have n1_ := Aside0.mk (hbox); have n2_ := Aside0.mk ((by rw [hg]; exact (below_size (by repeat (first | (with_reducible first | exact HB.out | apply below_alloc | apply pw_below_drewN | apply below_drew1) | exact HB.out))) : w.heap.size ≤ gb266)); have n3_ := Aside0.mk ((by rw [hg]; exact (below_size (by repeat (first | (with_reducible first | exact HB.out | apply below_alloc | apply pw_below_drewN | apply below_drew1) | exact HB.out))) : w.heap.size ≤ gb266)); clear HB; have HB := n0_; have BK266 := n1_; have GW266 := n2_; have GE266 := n3_; clear n0_ n1_ n2_ n3_; clear hb hbox hg))
    go_loopg [5, 6] k (fun kq v5 v6 w' => ∃ (x5_1 : Int) (x6_1 : Int), v5 = .int .i64 x5_1 ∧ v6 = .int .i64 x6_1 ∧ Aside0 (exactpplref06_Depth.l0 kq a1 x5_1 x6_1 a0_0 a0_1 a0_2 a0_3 l0_4 = some r) ∧ Aside0 (kq ≤ k) ∧ Aside0 (w'.heap[gb266]? = some (.cells #[.int .i64 a0_0, .int .i64 a0_1, .int .i64 a0_2, .int .i64 a0_3, (.slice A0_4 l0_4.length c0_4)] 24 (0, 0))) ∧ Aside0 (Below w.heap.size w w'))
    case atStart => exact ⟨(0), (0), (by first | rfl | (simp; done) | (simp [*]; done)), (by first | rfl | (simp; done) | (simp [*]; done)), H', ⟨Nat.le_refl _⟩, ⟨by (with_reducible repeat (first | refine blk_drewN ?_ _ | refine blk_drew ?_ | refine blk_alloc ?_ _)); exact BK266.out⟩, ⟨by repeat (first | (with_reducible first | exact HB.out | apply below_alloc | apply pw_below_drewN | apply below_drew1 | refine below_set ?_ GE266.out) | exact HB.out)⟩⟩
    case round =>
      clear H'
      try clear p2
      try clear c3
      try clear c3b0
      try clear c4
      obtain ⟨x5_1, x6_1, rfl, rfl, HA, HK1, BK266, HB⟩ := hrel
      cases gk with
      | zero => exact absurd HA.out (by simp [exactpplref06_Depth.l0])
      | succ k1 =>
        have H := HA.out
        clear HA
        simp only [exactpplref06_Depth.l0] at H
        by_cases c5 : x6_1 < (l0_4.length : Int)
        · rw [if_pos c5] at H
          have c5b0 : decide (x6_1 < (l0_4.length : Int)) = true := decide_eq_true c5
          clear c5
          by_cases c6 : 0 ≤ x6_1
          · rw [if_pos c6] at H
            have c6b0 : decide (0 ≤ x6_1) = true := decide_eq_true c6
            clear c6
            replace H := Option.bind_eq_some_iff.mp H
            obtain ⟨t268, A70, H⟩ := H
            replace H : (exactpplref06_Depth.l0 k1 a1 (mx x5_1 t268) (wrap64 (x6_1 + 1)) a0_0 a0_1 a0_2 a0_3 l0_4) = some r := H
            have A7 := Aside0.mk A70
            clear A70
            obtain ⟨ji8, hji8⟩ : ∃ j_ : Int, (mx x5_1 t268) = j_ := ⟨_, rfl⟩
            replace H : (exactpplref06_Depth.l0 k1 a1 ji8 (wrap64 (x6_1 + 1)) a0_0 a0_1 a0_2 a0_3 l0_4) = some r := by first | (rw [hji8] at H; exact H) | (simp only [hji8] at H ⊢; exact H)
            (try rw [hji8] at A7)
            have hji8_ : (if x5_1 < t268 then t268 else x5_1) = ji8 := hji8
            have H' := Aside0.mk H
            clear H
            have hcz9_0 : wr.cell? ⟨gb266, 0, none⟩ = some (.int .i64 a0_0) := (blk_cell BK266.out 0).trans rfl
            have hcz9_1 : wr.cell? ⟨gb266, 1, none⟩ = some (.int .i64 a0_1) := (blk_cell BK266.out 1).trans rfl
            have hcz9_2 : wr.cell? ⟨gb266, 2, none⟩ = some (.int .i64 a0_2) := (blk_cell BK266.out 2).trans rfl
            have hcz9_3 : wr.cell? ⟨gb266, 3, none⟩ = some (.int .i64 a0_3) := (blk_cell BK266.out 3).trans rfl
            have hcz9_4 : wr.cell? ⟨gb266, 4, none⟩ = some (.slice A0_4 l0_4.length c0_4) := (blk_cell BK266.out 4).trans rfl
            have hfz9_0 := blk_frozen BK266.out 0
            have hfz9_1 := blk_frozen BK266.out 1
            have hfz9_2 := blk_frozen BK266.out 2
            have hfz9_3 := blk_frozen BK266.out 3
            have hfz9_4 := blk_frozen BK266.out 4
            have p267 : 0 ≤ (x6_1 : Int) := of_decide_eq_true (by first | (with_reducible assumption) | assumption)
            have q267 : x6_1 < (l0_4.length : Int) := of_decide_eq_true (by first | (with_reducible assumption) | assumption)
            obtain ⟨ad267, A267_4, c267_4, e267, hx267_0, hx267_1, hx267_2, hx267_3, hx267_4, hl267_4, hi267_4⟩ := at_T24 HR0_4.out x6_1 p267 q267
            cases e267
            replace hx267_0 := (HB.out.cell (World.block_lt_of_cell? w _ hx267_0)).trans hx267_0
            replace hx267_1 := (HB.out.cell (World.block_lt_of_cell? w _ hx267_1)).trans hx267_1
            replace hx267_2 := (HB.out.cell (World.block_lt_of_cell? w _ hx267_2)).trans hx267_2
            replace hx267_3 := (HB.out.cell (World.block_lt_of_cell? w _ hx267_3)).trans hx267_3
            replace hx267_4 := (HB.out.cell (World.block_lt_of_cell? w _ hx267_4)).trans hx267_4
            have HR267_4 := Aside0.mk hi267_4
            have HC267_4 := Aside0.mk hl267_4
            clear hi267_4 hl267_4
            replace p267 := eq_true p267
            replace q267 := eq_true q267
            go_wp2_with (first | ((with_reducible refine gate_callee (f := 45) rfl ?_); refine goesL_ (some 24) rfl rfl Tryd.func45 (by kernel_rfl) rfl #[.agg #[.int .i64 ((rd_T24 l0_4 x6_1).f0), .int .i64 ((rd_T24 l0_4 x6_1).f1), .int .i64 ((rd_T24 l0_4 x6_1).f2), .int .i64 ((rd_T24 l0_4 x6_1).f3), .slice A267_4 ((rd_T24 l0_4 x6_1).f4).length c267_4], .int .i64 (wrap64 (a1 - 1))] rfl (by (try simp only [List.map_toArray, List.map_cons, List.map_nil]); first | done | rfl | (simp only [List.length_drop, List.length_take]; rfl)) ?_; (with_reducible refine (ih k1 (by have := HK1.out; omega) ((rd_T24 l0_4 x6_1).f0) ((rd_T24 l0_4 x6_1).f1) ((rd_T24 l0_4 x6_1).f2) ((rd_T24 l0_4 x6_1).f3) _ _ ((rd_T24 l0_4 x6_1).f4) (wrap64 (a1 - 1)) t268 _ ?side1 ?side2 A7.out).mono ?_); (case side1 => repeat (first | exact (Kd.C_below HR267_4.out HB.out) | (with_reducible refine Kd.C_alloc ?_ _) | (with_reducible refine Kd.C_drewN ?_ _) | (with_reducible refine Kd.C_drew ?_))); (case side2 => exact HC267_4.out); rintro e w10 ⟨rfl, hb⟩; refine ⟨_, rfl, ?_⟩; have n0_ := Aside0.mk (blk_below (g := gb266) (o := .cells #[.int .i64 a0_0, .int .i64 a0_1, .int .i64 a0_2, .int .i64 a0_3, .slice (some ad267) l0_4.length c0_4] 24 (0, 0)) (by (with_reducible repeat (first | refine blk_drewN ?_ _ | refine blk_drew ?_ | refine blk_alloc ?_ _)); exact BK266.out) hb); have n1_ := Aside0.mk (below_step (by repeat (first | (with_reducible first | exact HB.out | apply below_alloc | apply pw_below_drewN | apply below_drew1 | refine below_set ?_ GE266.out) | exact HB.out)) hb); clear BK266; clear HB; have BK266 := n0_; have HB := n1_; clear n0_ n1_; (try clear hb); (try clear hb2); (try clear hk); (try clear hi)))
            go_roundg k1
            case measure => have := HK1.out; omega
            case rel => exact ⟨(ji8), (wrap64 (x6_1 + 1)), (by first | rfl | (simp; done) | (simp only [← hji8] <;> (first | rfl | simp)) | (simp [*]; done)), (by first | rfl | (simp; done) | (simp [*]; done)), H', ⟨by have := HK1.out; omega⟩, ⟨by (with_reducible repeat (first | refine blk_drewN ?_ _ | refine blk_drew ?_ | refine blk_alloc ?_ _)); exact BK266.out⟩, ⟨by repeat (first | (with_reducible first | exact HB.out | apply below_alloc | apply pw_below_drewN | apply below_drew1 | refine below_set ?_ GE266.out) | exact HB.out)⟩⟩
          · rw [if_neg c6] at H
            exact absurd H (by simp)
        · rw [if_neg c5] at H
          have c5b0 : decide (x6_1 < (l0_4.length : Int)) = false := decide_eq_false c5
          clear c5
          obtain ⟨ji11, hji11⟩ : ∃ j_ : Int, (mn (wrap64 (x5_1 + 1)) a1) = j_ := ⟨_, rfl⟩
          replace H : (some ji11) = some r := by first | (rw [hji11] at H; exact H) | (simp only [hji11] at H ⊢; exact H)
          have hji11_ : (if a1 < (wrap64 (x5_1 + 1)) then a1 else (wrap64 (x5_1 + 1))) = ji11 := hji11
          obtain rfl := Option.some.inj H
          have hcz12_0 : wr.cell? ⟨gb266, 0, none⟩ = some (.int .i64 a0_0) := (blk_cell BK266.out 0).trans rfl
          have hcz12_1 : wr.cell? ⟨gb266, 1, none⟩ = some (.int .i64 a0_1) := (blk_cell BK266.out 1).trans rfl
          have hcz12_2 : wr.cell? ⟨gb266, 2, none⟩ = some (.int .i64 a0_2) := (blk_cell BK266.out 2).trans rfl
          have hcz12_3 : wr.cell? ⟨gb266, 3, none⟩ = some (.int .i64 a0_3) := (blk_cell BK266.out 3).trans rfl
          have hcz12_4 : wr.cell? ⟨gb266, 4, none⟩ = some (.slice A0_4 l0_4.length c0_4) := (blk_cell BK266.out 4).trans rfl
          have hfz12_0 := blk_frozen BK266.out 0
          have hfz12_1 := blk_frozen BK266.out 1
          have hfz12_2 := blk_frozen BK266.out 2
          have hfz12_3 := blk_frozen BK266.out 3
          have hfz12_4 := blk_frozen BK266.out 4
          go_wp2
          all_goals go_ret
          all_goals exact ⟨by first | rfl | (simp [errW_none, errW_some] <;> rfl) | (simp only [← hji11]; first | rfl | (simp [errW_none, errW_some] <;> rfl)) | (simp; rw [← hji11]; (first | unfold mn | unfold mx); split <;> omega) | (simp; (first | unfold mn at hji11 | unfold mx at hji11); split at hji11 <;> omega) | (simp [*, errW_none, errW_some] <;> rfl), by repeat (first | (with_reducible first | exact HB.out | apply below_alloc | apply pw_below_drewN | apply below_drew1 | refine below_set ?_ GE266.out) | exact HB.out)⟩
  · rw [if_neg c3] at H
    have c3b0 : decide (1 < a1) = false := decide_eq_false c3
    clear c3
    by_cases c13 : (l0_4.length : Int) > 0
    · rw [if_pos c13] at H
      have c13b0 : decide (0 < (l0_4.length : Int)) = true := decide_eq_true c13
      have c13b1 : decide (0 < l0_4.length) = true := decide_eq_true (by omega)
      clear c13
      obtain rfl := Option.some.inj H
      go_enter Tryd.func45, Tryd.ntmps45
      go_wp2_with (first | ((with_reducible refine gate_dst (N := 2) rfl ?_); refine box_event ?hg (N := 2) ?hd (cs := #[.int .i64 a0_0, .int .i64 a0_1, .int .i64 a0_2, .int .i64 a0_3, .slice A0_4 l0_4.length c0_4]) (t := 24) ?hr ?_; (case hd => rfl); (case hg => rfl); (case hr => first | (go_simp; done) | (go_simp; rfl)); intro gb266 hg w14 hbox hb; have n0_ := Aside0.mk (below_step (by repeat (first | (with_reducible first | exact HB.out | apply below_alloc | apply pw_below_drewN | apply below_drew1) | exact HB.out)) hb); have n1_ := Aside0.mk (hbox); have n2_ := Aside0.mk ((by rw [hg]; exact (below_size (by repeat (first | (with_reducible first | exact HB.out | apply below_alloc | apply pw_below_drewN | apply below_drew1) | exact HB.out))) : w.heap.size ≤ gb266)); have n3_ := Aside0.mk ((by rw [hg]; exact (below_size (by repeat (first | (with_reducible first | exact HB.out | apply below_alloc | apply pw_below_drewN | apply below_drew1) | exact HB.out))) : w.heap.size ≤ gb266)); clear HB; have HB := n0_; have BK266 := n1_; have GW266 := n2_; have GE266 := n3_; clear n0_ n1_ n2_ n3_; clear hb hbox hg; have hcz15_0 : w14.cell? ⟨gb266, 0, none⟩ = some (.int .i64 a0_0) := (blk_cell BK266.out 0).trans rfl; have hcz15_1 : w14.cell? ⟨gb266, 1, none⟩ = some (.int .i64 a0_1) := (blk_cell BK266.out 1).trans rfl; have hcz15_2 : w14.cell? ⟨gb266, 2, none⟩ = some (.int .i64 a0_2) := (blk_cell BK266.out 2).trans rfl; have hcz15_3 : w14.cell? ⟨gb266, 3, none⟩ = some (.int .i64 a0_3) := (blk_cell BK266.out 3).trans rfl; have hcz15_4 : w14.cell? ⟨gb266, 4, none⟩ = some (.slice A0_4 l0_4.length c0_4) := (blk_cell BK266.out 4).trans rfl; have hfz15_0 := blk_frozen BK266.out 0; have hfz15_1 := blk_frozen BK266.out 1; have hfz15_2 := blk_frozen BK266.out 2; have hfz15_3 := blk_frozen BK266.out 3; have hfz15_4 := blk_frozen BK266.out 4))
      go_ret
      exact ⟨by first | rfl | (simp [errW_none, errW_some] <;> rfl) | (simp [*, errW_none, errW_some] <;> rfl), by repeat (first | (with_reducible first | exact HB.out | apply below_alloc | apply pw_below_drewN | apply below_drew1 | refine below_set ?_ GE266.out) | exact HB.out)⟩
    · rw [if_neg c13] at H
      have c13b0 : decide (0 < (l0_4.length : Int)) = false := decide_eq_false c13
      have c13b1 : decide (0 < l0_4.length) = false := decide_eq_false (by omega)
      clear c13
      obtain ⟨ji16, hji16⟩ : ∃ j_ : Int, (mn (0 + 1) a1) = j_ := ⟨_, rfl⟩
      replace H : (some ji16) = some r := by first | (rw [hji16] at H; exact H) | (simp only [hji16] at H ⊢; exact H)
      (try (have hji16h : ji16 ≤ 1 := by (rw [← hji16]; unfold mn; (repeat' split) <;> omega)))
      (try (have hji16g : ji16 ≤ 64 := by omega))
      have hji16_ : (if a1 < (0 + 1) then a1 else (0 + 1)) = ji16 := hji16
      obtain rfl := Option.some.inj H
      go_enter Tryd.func45, Tryd.ntmps45
      go_wp2_with (first | ((with_reducible refine gate_dst (N := 2) rfl ?_); refine box_event ?hg (N := 2) ?hd (cs := #[.int .i64 a0_0, .int .i64 a0_1, .int .i64 a0_2, .int .i64 a0_3, .slice A0_4 l0_4.length c0_4]) (t := 24) ?hr ?_; (case hd => rfl); (case hg => rfl); (case hr => first | (go_simp; done) | (go_simp; rfl)); intro gb266 hg w17 hbox hb; have n0_ := Aside0.mk (below_step (by repeat (first | (with_reducible first | exact HB.out | apply below_alloc | apply pw_below_drewN | apply below_drew1) | exact HB.out)) hb); have n1_ := Aside0.mk (hbox); have n2_ := Aside0.mk ((by rw [hg]; exact (below_size (by repeat (first | (with_reducible first | exact HB.out | apply below_alloc | apply pw_below_drewN | apply below_drew1) | exact HB.out))) : w.heap.size ≤ gb266)); have n3_ := Aside0.mk ((by rw [hg]; exact (below_size (by repeat (first | (with_reducible first | exact HB.out | apply below_alloc | apply pw_below_drewN | apply below_drew1) | exact HB.out))) : w.heap.size ≤ gb266)); clear HB; have HB := n0_; have BK266 := n1_; have GW266 := n2_; have GE266 := n3_; clear n0_ n1_ n2_ n3_; clear hb hbox hg; have hcz18_0 : w17.cell? ⟨gb266, 0, none⟩ = some (.int .i64 a0_0) := (blk_cell BK266.out 0).trans rfl; have hcz18_1 : w17.cell? ⟨gb266, 1, none⟩ = some (.int .i64 a0_1) := (blk_cell BK266.out 1).trans rfl; have hcz18_2 : w17.cell? ⟨gb266, 2, none⟩ = some (.int .i64 a0_2) := (blk_cell BK266.out 2).trans rfl; have hcz18_3 : w17.cell? ⟨gb266, 3, none⟩ = some (.int .i64 a0_3) := (blk_cell BK266.out 3).trans rfl; have hcz18_4 : w17.cell? ⟨gb266, 4, none⟩ = some (.slice A0_4 l0_4.length c0_4) := (blk_cell BK266.out 4).trans rfl; have hfz18_0 := blk_frozen BK266.out 0; have hfz18_1 := blk_frozen BK266.out 1; have hfz18_2 := blk_frozen BK266.out 2; have hfz18_3 := blk_frozen BK266.out 3; have hfz18_4 := blk_frozen BK266.out 4))
      all_goals go_ret
      all_goals exact ⟨by first | rfl | (simp [errW_none, errW_some] <;> rfl) | (simp only [← hji16]; first | rfl | (simp [errW_none, errW_some] <;> rfl)) | (simp; rw [← hji16]; (first | unfold mn | unfold mx); split <;> omega) | (simp; (first | unfold mn at hji16 | unfold mx at hji16); split at hji16 <;> omega) | (simp [*, errW_none, errW_some] <;> rfl), by repeat (first | (with_reducible first | exact HB.out | apply below_alloc | apply pw_below_drewN | apply below_drew1 | refine below_set ?_ GE266.out) | exact HB.out)⟩

end Go.Proofs.YtggelekooacmnaaDoor.Q
namespace Go.Proofs.YtggelekooacmnaaDoor.Q
open Go.RowKit Go.Proofs.YtggelekooacmnaaDoorW.PrintWords Go.Proofs.YtggelekooacmnaaDoorW.PrintLast Go.Proofs.YtggelekooacmnaaDoorW.PrintMore
attribute [local go_sem] max2_int min2_int max_two min_two max_three min_three max_four min_four   -- for this text's walks alone
set_option linter.unusedVariables false
set_option linter.unusedSimpArgs false

/-! ### exactpplref06_wrong: function 46 -/
mutual
def exactpplref06_wrong.j0 : Nat → Int → Bool → Int → Int → Int → Int → List (S24) → Option (Int)
 | 0, _, _, _, _, _, _, _ => none
 | k + 1, x3, x14, x270000, x270001, x270002, x270003, x270004 => if x14 = true then (some 14) else (if x3 = 2 then (if x3 = 6 then (if x3 < 5 then (exactpplref06_wrong.j1 k x3 (decide ((x270004.length : Int) > 0)) x270000 x270001 x270002 x270003 x270004) else (exactpplref06_wrong.j1 k x3 false x270000 x270001 x270002 x270003 x270004)) else (if x270003 = 0 then (if x3 < 5 then (exactpplref06_wrong.j1 k x3 (decide ((x270004.length : Int) > 0)) x270000 x270001 x270002 x270003 x270004) else (exactpplref06_wrong.j1 k x3 false x270000 x270001 x270002 x270003 x270004)) else (exactpplref06_wrong.j1 k x3 true x270000 x270001 x270002 x270003 x270004))) else (if x270001 = 0 then (if x270002 = 0 then (if x3 = 6 then (if x3 < 5 then (exactpplref06_wrong.j1 k x3 (decide ((x270004.length : Int) > 0)) x270000 x270001 x270002 x270003 x270004) else (exactpplref06_wrong.j1 k x3 false x270000 x270001 x270002 x270003 x270004)) else (if x270003 = 0 then (if x3 < 5 then (exactpplref06_wrong.j1 k x3 (decide ((x270004.length : Int) > 0)) x270000 x270001 x270002 x270003 x270004) else (exactpplref06_wrong.j1 k x3 false x270000 x270001 x270002 x270003 x270004)) else (exactpplref06_wrong.j1 k x3 true x270000 x270001 x270002 x270003 x270004))) else (exactpplref06_wrong.j1 k x3 true x270000 x270001 x270002 x270003 x270004)) else (exactpplref06_wrong.j1 k x3 true x270000 x270001 x270002 x270003 x270004)))
def exactpplref06_wrong.j1 : Nat → Int → Bool → Int → Int → Int → Int → List (S24) → Option (Int)
 | 0, _, _, _, _, _, _, _ => none
 | k + 1, x3, x45, x270000, x270001, x270002, x270003, x270004 => if x45 = true then (some 2) else (if x3 = 2 then (if x270001 < (-1000) then (some 1) else (if x270001 > x270002 then (some 1) else (if x270002 > 1000 then (some 1) else (some 0)))) else (if x3 = 5 then (if (x270004.length : Int) < 2 then (exactpplref06_wrong.j2 k true x270000 x270001 x270002 x270003 x270004) else (exactpplref06_wrong.j2 k (decide ((x270004.length : Int) > 4)) x270000 x270001 x270002 x270003 x270004)) else (if x3 = 6 then (if x270003 < 1 then (exactpplref06_wrong.j4 k true x270000 x270001 x270002 x270003 x270004) else (exactpplref06_wrong.j4 k (decide (x270003 > 4)) x270000 x270001 x270002 x270003 x270004)) else (some 0))))
def exactpplref06_wrong.j2 : Nat → Bool → Int → Int → Int → Int → List (S24) → Option (Int)
 | 0, _, _, _, _, _, _ => none
 | k + 1, x75, x270000, x270001, x270002, x270003, x270004 => if x75 = true then (some 1) else (exactpplref06_wrong.l0 k 0 x270000 x270001 x270002 x270003 x270004)
def exactpplref06_wrong.l0 : Nat → Int → Int → Int → Int → Int → List (S24) → Option (Int)
 | 0, _, _, _, _, _, _ => none
 | k + 1, x4, x270000, x270001, x270002, x270003, x270004 => if x4 < (x270004.length : Int) then (if 0 ≤ x4 then ((exactpplref06_wrong.f k ((rd_T24 x270004 x4).f0) ((rd_T24 x270004 x4).f1) ((rd_T24 x270004 x4).f2) ((rd_T24 x270004 x4).f3) ((rd_T24 x270004 x4).f4)).bind fun t271 => (if t271 = 0 then (if ((rd_T24 x270004 x4).f0) = 3 then (some 8) else (if ((rd_T24 x270004 x4).f0) = 4 then (some 8) else (exactpplref06_wrong.l0 k (wrap64 (x4 + 1)) x270000 x270001 x270002 x270003 x270004))) else (some t271))) else (none)) else (some 0)
def exactpplref06_wrong.j4 : Nat → Bool → Int → Int → Int → Int → List (S24) → Option (Int)
 | 0, _, _, _, _, _, _ => none
 | k + 1, x117, x270000, x270001, x270002, x270003, x270004 => if x117 = true then (some 1) else (if (x270004.length : Int) = 1 then (if 0 < (x270004.length : Int) then ((exactpplref06_wrong.f k ((rd_T24 x270004 0).f0) ((rd_T24 x270004 0).f1) ((rd_T24 x270004 0).f2) ((rd_T24 x270004 0).f3) ((rd_T24 x270004 0).f4)).bind fun t275 => (if t275 = 0 then (if ((rd_T24 x270004 0).f0) = 1 then (some 0) else (if ((rd_T24 x270004 0).f0) = 2 then (some 0) else (some 8))) else (some t275))) else (none)) else (some 2))
def exactpplref06_wrong.f : Nat → Int → Int → Int → Int → List (S24) → Option (Int)
 | 0, _, _, _, _, _ => none
 | k + 1, a0_0, a0_1, a0_2, a0_3, l0_4 => if a0_0 < 1 then (exactpplref06_wrong.j0 k a0_0 true a0_0 a0_1 a0_2 a0_3 l0_4) else (exactpplref06_wrong.j0 k a0_0 (decide (a0_0 > 6)) a0_0 a0_1 a0_2 a0_3 l0_4)
end
theorem exactpplref06_wrong.mono_l : ∀ k, (∀ y0 y1 y2 y3 y4, LeO (exactpplref06_wrong.f k y0 y1 y2 y3 y4) (exactpplref06_wrong.f (k + 1) y0 y1 y2 y3 y4)) ∧ (∀ y0 y1 y2 y3 y4 y5 y6, LeO (exactpplref06_wrong.j0 k y0 y1 y2 y3 y4 y5 y6) (exactpplref06_wrong.j0 (k + 1) y0 y1 y2 y3 y4 y5 y6)) ∧ (∀ y0 y1 y2 y3 y4 y5 y6, LeO (exactpplref06_wrong.j1 k y0 y1 y2 y3 y4 y5 y6) (exactpplref06_wrong.j1 (k + 1) y0 y1 y2 y3 y4 y5 y6)) ∧ (∀ y0 y1 y2 y3 y4 y5, LeO (exactpplref06_wrong.j2 k y0 y1 y2 y3 y4 y5) (exactpplref06_wrong.j2 (k + 1) y0 y1 y2 y3 y4 y5)) ∧ (∀ y0 y1 y2 y3 y4 y5, LeO (exactpplref06_wrong.l0 k y0 y1 y2 y3 y4 y5) (exactpplref06_wrong.l0 (k + 1) y0 y1 y2 y3 y4 y5)) ∧ (∀ y0 y1 y2 y3 y4 y5, LeO (exactpplref06_wrong.j4 k y0 y1 y2 y3 y4 y5) (exactpplref06_wrong.j4 (k + 1) y0 y1 y2 y3 y4 y5))
 | 0 => ⟨fun _ _ _ _ _ r h => by simp [exactpplref06_wrong.f] at h, fun _ _ _ _ _ _ _ r h => by simp [exactpplref06_wrong.j0] at h, fun _ _ _ _ _ _ _ r h => by simp [exactpplref06_wrong.j1] at h, fun _ _ _ _ _ _ r h => by simp [exactpplref06_wrong.j2] at h, fun _ _ _ _ _ _ r h => by simp [exactpplref06_wrong.l0] at h, fun _ _ _ _ _ _ r h => by simp [exactpplref06_wrong.j4] at h⟩
 | k + 1 => by
  obtain ⟨ih0, ih1, ih2, ih3, ih4, ih5⟩ := exactpplref06_wrong.mono_l k
  refine ⟨?_, ?_, ?_, ?_, ?_, ?_⟩
  ·intro y0 y1 y2 y3 y4
   unfold exactpplref06_wrong.f
   repeat' first
   | (with_reducible exact ih0 _ _ _ _ _)
   | (with_reducible exact ih1 _ _ _ _ _ _ _)
   | (with_reducible exact ih2 _ _ _ _ _ _ _)
   | (with_reducible exact ih3 _ _ _ _ _ _)
   | (with_reducible exact ih4 _ _ _ _ _ _)
   | (with_reducible exact ih5 _ _ _ _ _ _)
   | (with_reducible exact LeO.refl _)
   | (with_reducible exact LeO.none _)
   | (with_reducible refine LeO.ite ?_ ?_)
   | (with_reducible refine LeO.bind ?_ (fun _ => ?_))
   | exact ih0 _ _ _ _ _
   | exact ih1 _ _ _ _ _ _ _
   | exact ih2 _ _ _ _ _ _ _
   | exact ih3 _ _ _ _ _ _
   | exact ih4 _ _ _ _ _ _
   | exact ih5 _ _ _ _ _ _
   | exact LeO.none _
   | refine LeO.ite ?_ ?_
   | refine LeO.bind ?_ (fun _ => ?_)
  ·intro y0 y1 y2 y3 y4 y5 y6
   unfold exactpplref06_wrong.j0
   repeat' first
   | (with_reducible exact ih0 _ _ _ _ _)
   | (with_reducible exact ih1 _ _ _ _ _ _ _)
   | (with_reducible exact ih2 _ _ _ _ _ _ _)
   | (with_reducible exact ih3 _ _ _ _ _ _)
   | (with_reducible exact ih4 _ _ _ _ _ _)
   | (with_reducible exact ih5 _ _ _ _ _ _)
   | (with_reducible exact LeO.refl _)
   | (with_reducible exact LeO.none _)
   | (with_reducible refine LeO.ite ?_ ?_)
   | (with_reducible refine LeO.bind ?_ (fun _ => ?_))
   | exact ih0 _ _ _ _ _
   | exact ih1 _ _ _ _ _ _ _
   | exact ih2 _ _ _ _ _ _ _
   | exact ih3 _ _ _ _ _ _
   | exact ih4 _ _ _ _ _ _
   | exact ih5 _ _ _ _ _ _
   | exact LeO.none _
   | refine LeO.ite ?_ ?_
   | refine LeO.bind ?_ (fun _ => ?_)
  ·intro y0 y1 y2 y3 y4 y5 y6
   unfold exactpplref06_wrong.j1
   repeat' first
   | (with_reducible exact ih0 _ _ _ _ _)
   | (with_reducible exact ih1 _ _ _ _ _ _ _)
   | (with_reducible exact ih2 _ _ _ _ _ _ _)
   | (with_reducible exact ih3 _ _ _ _ _ _)
   | (with_reducible exact ih4 _ _ _ _ _ _)
   | (with_reducible exact ih5 _ _ _ _ _ _)
   | (with_reducible exact LeO.refl _)
   | (with_reducible exact LeO.none _)
   | (with_reducible refine LeO.ite ?_ ?_)
   | (with_reducible refine LeO.bind ?_ (fun _ => ?_))
   | exact ih0 _ _ _ _ _
   | exact ih1 _ _ _ _ _ _ _
   | exact ih2 _ _ _ _ _ _ _
   | exact ih3 _ _ _ _ _ _
   | exact ih4 _ _ _ _ _ _
   | exact ih5 _ _ _ _ _ _
   | exact LeO.none _
   | refine LeO.ite ?_ ?_
   | refine LeO.bind ?_ (fun _ => ?_)
  ·intro y0 y1 y2 y3 y4 y5
   unfold exactpplref06_wrong.j2
   repeat' first
   | (with_reducible exact ih0 _ _ _ _ _)
   | (with_reducible exact ih1 _ _ _ _ _ _ _)
   | (with_reducible exact ih2 _ _ _ _ _ _ _)
   | (with_reducible exact ih3 _ _ _ _ _ _)
   | (with_reducible exact ih4 _ _ _ _ _ _)
   | (with_reducible exact ih5 _ _ _ _ _ _)
   | (with_reducible exact LeO.refl _)
   | (with_reducible exact LeO.none _)
   | (with_reducible refine LeO.ite ?_ ?_)
   | (with_reducible refine LeO.bind ?_ (fun _ => ?_))
   | exact ih0 _ _ _ _ _
   | exact ih1 _ _ _ _ _ _ _
   | exact ih2 _ _ _ _ _ _ _
   | exact ih3 _ _ _ _ _ _
   | exact ih4 _ _ _ _ _ _
   | exact ih5 _ _ _ _ _ _
   | exact LeO.none _
   | refine LeO.ite ?_ ?_
   | refine LeO.bind ?_ (fun _ => ?_)
  ·intro y0 y1 y2 y3 y4 y5
   unfold exactpplref06_wrong.l0
   repeat' first
   | (with_reducible exact ih0 _ _ _ _ _)
   | (with_reducible exact ih1 _ _ _ _ _ _ _)
   | (with_reducible exact ih2 _ _ _ _ _ _ _)
   | (with_reducible exact ih3 _ _ _ _ _ _)
   | (with_reducible exact ih4 _ _ _ _ _ _)
   | (with_reducible exact ih5 _ _ _ _ _ _)
   | (with_reducible exact LeO.refl _)
   | (with_reducible exact LeO.none _)
   | (with_reducible refine LeO.ite ?_ ?_)
   | (with_reducible refine LeO.bind ?_ (fun _ => ?_))
   | exact ih0 _ _ _ _ _
   | exact ih1 _ _ _ _ _ _ _
   | exact ih2 _ _ _ _ _ _ _
   | exact ih3 _ _ _ _ _ _
   | exact ih4 _ _ _ _ _ _
   | exact ih5 _ _ _ _ _ _
   | exact LeO.none _
   | refine LeO.ite ?_ ?_
   | refine LeO.bind ?_ (fun _ => ?_)
  ·intro y0 y1 y2 y3 y4 y5
   unfold exactpplref06_wrong.j4
   repeat' first
   | (with_reducible exact ih0 _ _ _ _ _)
   | (with_reducible exact ih1 _ _ _ _ _ _ _)
   | (with_reducible exact ih2 _ _ _ _ _ _ _)
   | (with_reducible exact ih3 _ _ _ _ _ _)
   | (with_reducible exact ih4 _ _ _ _ _ _)
   | (with_reducible exact ih5 _ _ _ _ _ _)
   | (with_reducible exact LeO.refl _)
   | (with_reducible exact LeO.none _)
   | (with_reducible refine LeO.ite ?_ ?_)
   | (with_reducible refine LeO.bind ?_ (fun _ => ?_))
   | exact ih0 _ _ _ _ _
   | exact ih1 _ _ _ _ _ _ _
   | exact ih2 _ _ _ _ _ _ _
   | exact ih3 _ _ _ _ _ _
   | exact ih4 _ _ _ _ _ _
   | exact ih5 _ _ _ _ _ _
   | exact LeO.none _
   | refine LeO.ite ?_ ?_
   | refine LeO.bind ?_ (fun _ => ?_)
theorem exactpplref06_wrong.mono : ∀ a0 a1 a2 a3 a4 k, LeO (exactpplref06_wrong.f k a0 a1 a2 a3 a4) (exactpplref06_wrong.f (k + 1) a0 a1 a2 a3 a4) := by
 intro a0 a1 a2 a3 a4 k
 obtain ⟨ih0, ih1, ih2, ih3, ih4, ih5⟩ := exactpplref06_wrong.mono_l k
 exact ih0 a0 a1 a2 a3 a4
set_option maxHeartbeats 8000000 in
set_option maxRecDepth 100000 in
theorem exactpplref06_wrong.calls (k : Nat) : ∀ (a0_0 : Int) (a0_1 : Int) (a0_2 : Int) (a0_3 : Int) (A0_4 : Option Addr) (c0_4 : Nat) (l0_4 : List (S24)) (r : Int) (w : World) (hr0_4 : Kd.C k24 w A0_4 l0_4.length l0_4) (hc0_4 : l0_4.length ≤ c0_4) (h : exactpplref06_wrong.f k a0_0 a0_1 a0_2 a0_3 l0_4 = some r),
  Calls Tryd.prog 46 #[.agg #[.int .i64 a0_0, .int .i64 a0_1, .int .i64 a0_2, .int .i64 a0_3, .slice A0_4 l0_4.length c0_4]] w fun e w' => e = .returned (.int .i64 r) ∧ Below w.heap.size w w' := by
 induction k using Nat.strongRecOn with
 | _ k ih =>
 intro a0_0 a0_1 a0_2 a0_3 A0_4 c0_4 l0_4 r w hr0_4 hc0_4 h
 cases k with
 | zero => exact absurd h (by simp [exactpplref06_wrong.f])
 | succ k =>
 simp only [exactpplref06_wrong.f] at h
 have hu24 := Tryd.underlying24
 have HR0_4 := Aside0.mk hr0_4
 have HC0_4 := Aside0.mk hc0_4
 clear hr0_4 hc0_4
 have HB := Aside0.mk (Below.refl w.heap.size w)
 have H : (if a0_0 < 1 then (exactpplref06_wrong.j0 k a0_0 true a0_0 a0_1 a0_2 a0_3 l0_4) else (exactpplref06_wrong.j0 k a0_0 (decide (a0_0 > 6)) a0_0 a0_1 a0_2 a0_3 l0_4)) = some r := h
 clear h
 have HC2 := Aside0.mk H
 clear H
 go_enter Tryd.func46, Tryd.ntmps46
 go_upto_region 2 with (first | ((with_reducible refine gate_dst (N := 1) rfl ?_); (try (refine gate_guard (by rfl) ?_; dsimp only)); refine box_event ?hg (N := 1) ?hd (cs := #[.int .i64 a0_0, .int .i64 a0_1, .int .i64 a0_2, .int .i64 a0_3, .slice A0_4 l0_4.length c0_4]) (t := 24) ?hr ?_; (case hd => rfl); (case hg => rfl); (case hr => first | (go_simp; done) | (go_simp; rfl)); intro gb269 hg w3 hbox hb; have BK269 := Aside0.mk (hbox); have GW269 : Aside0 (w.heap.size ≤ gb269) := gw_ hg (below_size bl_); have GE269 := GW269; replace HB := Aside0.mk (below_step bl_ hb); clear hb hbox hg; obtain ⟨hcz4_0, hcz4_1, hcz4_2, hcz4_3, hcz4_4, hfz4_0, hfz4_1, hfz4_2, hfz4_3, hfz4_4⟩ := cf5_ BK269.out))
 (try simp only [Act.put, List.setIfInBounds_toArray, List.set_cons_zero, List.set_cons_succ])
 go_cut [14] (fun v14 wc => ∃ (kq : Nat) (x14_1 : Bool), v14 = .bool x14_1 ∧ Aside0 (exactpplref06_wrong.j0 kq a0_0 x14_1 a0_0 a0_1 a0_2 a0_3 l0_4 = some r) ∧ Aside0 (kq ≤ k) ∧ Aside0 (wc.heap[gb269]? = some (.cells #[.int .i64 a0_0, .int .i64 a0_1, .int .i64 a0_2, .int .i64 a0_3, (.slice A0_4 l0_4.length c0_4)] 24 (0, 0))) ∧ Aside0 (Below w.heap.size w wc))
 case first =>
  have H := HC2.out
  clear HC2
  by_cases c5 : a0_0 < 1
  ·rw [if_pos c5] at H
   have c5b0 : decide (a0_0 < 1) = true := decide_eq_true c5
   clear c5
   (first | rw [c5b0] | (simp only [i64_w, i32_w]; rw [c5b0]) | skip)
   have H' := Aside0.mk H
   clear H
   go_wp2
   go_meet
   case rel => exact ⟨_, (true), rs_, H', ⟨by first | omega | exact Nat.le_refl _⟩, ⟨bk_⟩, ⟨bl_⟩⟩
  ·rw [if_neg c5] at H
   have c5b0 : decide (a0_0 < 1) = false := decide_eq_false c5
   clear c5
   (first | rw [c5b0] | (simp only [i64_w, i32_w]; rw [c5b0]) | skip)
   have H' := Aside0.mk H
   clear H
   go_wp2
   go_meet
   case rel => exact ⟨_, (decide (a0_0 > 6)), rs_, H', ⟨by first | omega | exact Nat.le_refl _⟩, ⟨bk_⟩, ⟨bl_⟩⟩
 case rest =>
  clear HC2
  try clear p2
  try clear c4
  try clear c5
  try clear c5b0
  try clear hcz4_0 hcz4_1 hcz4_2 hcz4_3 hcz4_4 hfz4_0 hfz4_1 hfz4_2 hfz4_3 hfz4_4
  obtain ⟨kq, x14_1, rfl, HA, HJ1, BK269, HB⟩ := hcut
  cases kq with
  | zero => exact absurd HA.out (by simp [exactpplref06_wrong.j0])
  | succ kj1 =>
   have H := HA.out
   clear HA
   simp only [exactpplref06_wrong.j0] at H
   by_cases c6 : x14_1 = true
   ·subst c6
    have H1 : (some 14) = some r := by rw [if_pos rfl] at H; exact H
    clear H
    have H := H1
    clear H1
    obtain rfl := Option.some.inj H
    go_wp2
    go_ret
    exact ⟨re_, bl_⟩
   ·replace c6 := Bool.eq_false_iff.mpr c6
    subst c6
    have H1 : (if a0_0 = 2 then (if a0_0 = 6 then (if a0_0 < 5 then (exactpplref06_wrong.j1 kj1 a0_0 (decide ((l0_4.length : Int) > 0)) a0_0 a0_1 a0_2 a0_3 l0_4) else (exactpplref06_wrong.j1 kj1 a0_0 false a0_0 a0_1 a0_2 a0_3 l0_4)) else (if a0_3 = 0 then (if a0_0 < 5 then (exactpplref06_wrong.j1 kj1 a0_0 (decide ((l0_4.length : Int) > 0)) a0_0 a0_1 a0_2 a0_3 l0_4) else (exactpplref06_wrong.j1 kj1 a0_0 false a0_0 a0_1 a0_2 a0_3 l0_4)) else (exactpplref06_wrong.j1 kj1 a0_0 true a0_0 a0_1 a0_2 a0_3 l0_4))) else (if a0_1 = 0 then (if a0_2 = 0 then (if a0_0 = 6 then (if a0_0 < 5 then (exactpplref06_wrong.j1 kj1 a0_0 (decide ((l0_4.length : Int) > 0)) a0_0 a0_1 a0_2 a0_3 l0_4) else (exactpplref06_wrong.j1 kj1 a0_0 false a0_0 a0_1 a0_2 a0_3 l0_4)) else (if a0_3 = 0 then (if a0_0 < 5 then (exactpplref06_wrong.j1 kj1 a0_0 (decide ((l0_4.length : Int) > 0)) a0_0 a0_1 a0_2 a0_3 l0_4) else (exactpplref06_wrong.j1 kj1 a0_0 false a0_0 a0_1 a0_2 a0_3 l0_4)) else (exactpplref06_wrong.j1 kj1 a0_0 true a0_0 a0_1 a0_2 a0_3 l0_4))) else (exactpplref06_wrong.j1 kj1 a0_0 true a0_0 a0_1 a0_2 a0_3 l0_4)) else (exactpplref06_wrong.j1 kj1 a0_0 true a0_0 a0_1 a0_2 a0_3 l0_4))) = some r := by rw [if_neg (show ¬ (false = true) by decide)] at H; exact H
    clear H
    have H := H1
    clear H1
    have HC7 := Aside0.mk H
    clear H
    go_upto_region 4 with (fail)
    go_cut [45] (fun v45 wc => ∃ (kq : Nat) (x45_6 : Bool), v45 = .bool x45_6 ∧ Aside0 (exactpplref06_wrong.j1 kq a0_0 x45_6 a0_0 a0_1 a0_2 a0_3 l0_4 = some r) ∧ Aside0 (kq ≤ kj1) ∧ Aside0 (wc.heap[gb269]? = some (.cells #[.int .i64 a0_0, .int .i64 a0_1, .int .i64 a0_2, .int .i64 a0_3, (.slice A0_4 l0_4.length c0_4)] 24 (0, 0))) ∧ Aside0 (Below w.heap.size w wc))
    case first =>
     have H := HC7.out
     clear HC7
     by_cases c8 : a0_0 = 2
     ·rw [if_pos c8] at H
      have c8b0 : (a0_0 == 2) = true := beq_iff_eq.mpr c8
      have c8b1 : (a0_0 != 2) = false := bne_eq_false_iff_eq.mpr c8
      clear c8
      (first | rw [c8b0] | (simp only [i64_w, i32_w]; rw [c8b0]) | skip)
      by_cases c9 : a0_0 = 6
      ·rw [if_pos c9] at H
       have c9b0 : (a0_0 == 6) = true := beq_iff_eq.mpr c9
       have c9b1 : (a0_0 != 6) = false := bne_eq_false_iff_eq.mpr c9
       clear c9
       by_cases c10 : a0_0 < 5
       ·rw [if_pos c10] at H
        have c10b0 : decide (a0_0 < 5) = true := decide_eq_true c10
        clear c10
        have H' := Aside0.mk H
        clear H
        obtain ⟨hcz11_0, hcz11_1, hcz11_2, hcz11_3, hcz11_4, hfz11_0, hfz11_1, hfz11_2, hfz11_3, hfz11_4⟩ := cf5_ BK269.out
        go_wp2
        go_meet
        case rel => exact ⟨_, (decide ((l0_4.length : Int) > 0)), rs_, H', ⟨by have := HJ1.out; first | omega | exact Nat.le_refl _⟩, ⟨bk_⟩, ⟨bl_⟩⟩
       ·rw [if_neg c10] at H
        have c10b0 : decide (a0_0 < 5) = false := decide_eq_false c10
        clear c10
        have H' := Aside0.mk H
        clear H
        go_wp2
        go_meet
        case rel => exact ⟨_, (false), rs_, H', ⟨by have := HJ1.out; first | omega | exact Nat.le_refl _⟩, ⟨bk_⟩, ⟨bl_⟩⟩
      ·rw [if_neg c9] at H
       have c9b0 : (a0_0 == 6) = false := beq_eq_false_iff_ne.mpr c9
       have c9b1 : (a0_0 != 6) = true := bne_iff_ne.mpr c9
       by_cases c12 : a0_3 = 0
       ·rw [if_pos c12] at H
        have c12b0 : (a0_3 == 0) = true := beq_iff_eq.mpr c12
        have c12b1 : (a0_3 != 0) = false := bne_eq_false_iff_eq.mpr c12
        clear c12
        by_cases c13 : a0_0 < 5
        ·rw [if_pos c13] at H
         have c13b0 : decide (a0_0 < 5) = true := decide_eq_true c13
         clear c13
         have H' := Aside0.mk H
         clear H
         obtain ⟨hcz14_0, hcz14_1, hcz14_2, hcz14_3, hcz14_4, hfz14_0, hfz14_1, hfz14_2, hfz14_3, hfz14_4⟩ := cf5_ BK269.out
         go_wp2
         go_meet
         case rel => exact ⟨_, (decide ((l0_4.length : Int) > 0)), rs_, H', ⟨by have := HJ1.out; first | omega | exact Nat.le_refl _⟩, ⟨bk_⟩, ⟨bl_⟩⟩
        ·rw [if_neg c13] at H
         have c13b0 : decide (a0_0 < 5) = false := decide_eq_false c13
         clear c13
         have H' := Aside0.mk H
         clear H
         obtain ⟨hcz15_0, hcz15_1, hcz15_2, hcz15_3, hcz15_4, hfz15_0, hfz15_1, hfz15_2, hfz15_3, hfz15_4⟩ := cf5_ BK269.out
         go_wp2
         go_meet
         case rel => exact ⟨_, (false), rs_, H', ⟨by have := HJ1.out; first | omega | exact Nat.le_refl _⟩, ⟨bk_⟩, ⟨bl_⟩⟩
       ·rw [if_neg c12] at H
        have c12b0 : (a0_3 == 0) = false := beq_eq_false_iff_ne.mpr c12
        have c12b1 : (a0_3 != 0) = true := bne_iff_ne.mpr c12
        have H' := Aside0.mk H
        clear H
        obtain ⟨hcz16_0, hcz16_1, hcz16_2, hcz16_3, hcz16_4, hfz16_0, hfz16_1, hfz16_2, hfz16_3, hfz16_4⟩ := cf5_ BK269.out
        go_wp2
        go_meet
        case rel => exact ⟨_, (true), rs_, H', ⟨by have := HJ1.out; first | omega | exact Nat.le_refl _⟩, ⟨bk_⟩, ⟨bl_⟩⟩
     ·rw [if_neg c8] at H
      have c8b0 : (a0_0 == 2) = false := beq_eq_false_iff_ne.mpr c8
      have c8b1 : (a0_0 != 2) = true := bne_iff_ne.mpr c8
      (first | rw [c8b0] | (simp only [i64_w, i32_w]; rw [c8b0]) | skip)
      by_cases c17 : a0_1 = 0
      ·rw [if_pos c17] at H
       have c17b0 : (a0_1 == 0) = true := beq_iff_eq.mpr c17
       have c17b1 : (a0_1 != 0) = false := bne_eq_false_iff_eq.mpr c17
       clear c17
       by_cases c18 : a0_2 = 0
       ·rw [if_pos c18] at H
        have c18b0 : (a0_2 == 0) = true := beq_iff_eq.mpr c18
        have c18b1 : (a0_2 != 0) = false := bne_eq_false_iff_eq.mpr c18
        clear c18
        by_cases c19 : a0_0 = 6
        ·rw [if_pos c19] at H
         have c19b0 : (a0_0 == 6) = true := beq_iff_eq.mpr c19
         have c19b1 : (a0_0 != 6) = false := bne_eq_false_iff_eq.mpr c19
         clear c19
         by_cases c20 : a0_0 < 5
         ·rw [if_pos c20] at H
          have c20b0 : decide (a0_0 < 5) = true := decide_eq_true c20
          clear c20
          have H' := Aside0.mk H
          clear H
          obtain ⟨hcz21_0, hcz21_1, hcz21_2, hcz21_3, hcz21_4, hfz21_0, hfz21_1, hfz21_2, hfz21_3, hfz21_4⟩ := cf5_ BK269.out
          go_wp2
          go_meet
          case rel => exact ⟨_, (decide ((l0_4.length : Int) > 0)), rs_, H', ⟨by have := HJ1.out; first | omega | exact Nat.le_refl _⟩, ⟨bk_⟩, ⟨bl_⟩⟩
         ·rw [if_neg c20] at H
          have c20b0 : decide (a0_0 < 5) = false := decide_eq_false c20
          clear c20
          have H' := Aside0.mk H
          clear H
          obtain ⟨hcz22_0, hcz22_1, hcz22_2, hcz22_3, hcz22_4, hfz22_0, hfz22_1, hfz22_2, hfz22_3, hfz22_4⟩ := cf5_ BK269.out
          go_wp2
          go_meet
          case rel => exact ⟨_, (false), rs_, H', ⟨by have := HJ1.out; first | omega | exact Nat.le_refl _⟩, ⟨bk_⟩, ⟨bl_⟩⟩
        ·rw [if_neg c19] at H
         have c19b0 : (a0_0 == 6) = false := beq_eq_false_iff_ne.mpr c19
         have c19b1 : (a0_0 != 6) = true := bne_iff_ne.mpr c19
         by_cases c23 : a0_3 = 0
         ·rw [if_pos c23] at H
          have c23b0 : (a0_3 == 0) = true := beq_iff_eq.mpr c23
          have c23b1 : (a0_3 != 0) = false := bne_eq_false_iff_eq.mpr c23
          clear c23
          by_cases c24 : a0_0 < 5
          ·rw [if_pos c24] at H
           have c24b0 : decide (a0_0 < 5) = true := decide_eq_true c24
           clear c24
           have H' := Aside0.mk H
           clear H
           obtain ⟨hcz25_0, hcz25_1, hcz25_2, hcz25_3, hcz25_4, hfz25_0, hfz25_1, hfz25_2, hfz25_3, hfz25_4⟩ := cf5_ BK269.out
           go_wp2
           go_meet
           case rel => exact ⟨_, (decide ((l0_4.length : Int) > 0)), rs_, H', ⟨by have := HJ1.out; first | omega | exact Nat.le_refl _⟩, ⟨bk_⟩, ⟨bl_⟩⟩
          ·rw [if_neg c24] at H
           have c24b0 : decide (a0_0 < 5) = false := decide_eq_false c24
           clear c24
           have H' := Aside0.mk H
           clear H
           obtain ⟨hcz26_0, hcz26_1, hcz26_2, hcz26_3, hcz26_4, hfz26_0, hfz26_1, hfz26_2, hfz26_3, hfz26_4⟩ := cf5_ BK269.out
           go_wp2
           go_meet
           case rel => exact ⟨_, (false), rs_, H', ⟨by have := HJ1.out; first | omega | exact Nat.le_refl _⟩, ⟨bk_⟩, ⟨bl_⟩⟩
         ·rw [if_neg c23] at H
          have c23b0 : (a0_3 == 0) = false := beq_eq_false_iff_ne.mpr c23
          have c23b1 : (a0_3 != 0) = true := bne_iff_ne.mpr c23
          have H' := Aside0.mk H
          clear H
          obtain ⟨hcz27_0, hcz27_1, hcz27_2, hcz27_3, hcz27_4, hfz27_0, hfz27_1, hfz27_2, hfz27_3, hfz27_4⟩ := cf5_ BK269.out
          go_wp2
          go_meet
          case rel => exact ⟨_, (true), rs_, H', ⟨by have := HJ1.out; first | omega | exact Nat.le_refl _⟩, ⟨bk_⟩, ⟨bl_⟩⟩
       ·rw [if_neg c18] at H
        have c18b0 : (a0_2 == 0) = false := beq_eq_false_iff_ne.mpr c18
        have c18b1 : (a0_2 != 0) = true := bne_iff_ne.mpr c18
        have H' := Aside0.mk H
        clear H
        obtain ⟨hcz28_0, hcz28_1, hcz28_2, hcz28_3, hcz28_4, hfz28_0, hfz28_1, hfz28_2, hfz28_3, hfz28_4⟩ := cf5_ BK269.out
        go_wp2
        go_meet
        case rel => exact ⟨_, (true), rs_, H', ⟨by have := HJ1.out; first | omega | exact Nat.le_refl _⟩, ⟨bk_⟩, ⟨bl_⟩⟩
      ·rw [if_neg c17] at H
       have c17b0 : (a0_1 == 0) = false := beq_eq_false_iff_ne.mpr c17
       have c17b1 : (a0_1 != 0) = true := bne_iff_ne.mpr c17
       have H' := Aside0.mk H
       clear H
       obtain ⟨hcz29_0, hcz29_1, hcz29_2, hcz29_3, hcz29_4, hfz29_0, hfz29_1, hfz29_2, hfz29_3, hfz29_4⟩ := cf5_ BK269.out
       go_wp2
       go_meet
       case rel => exact ⟨_, (true), rs_, H', ⟨by have := HJ1.out; first | omega | exact Nat.le_refl _⟩, ⟨bk_⟩, ⟨bl_⟩⟩
    case rest =>
     clear HC7
     try clear c1
     try clear c2
     try clear p2
     try clear c4
     try clear c5
     try clear c5b0
     try clear c6
     try clear c8
     try clear c8b0
     try clear c8b1
     try clear c9
     try clear c9b0
     try clear c9b1
     try clear c10
     try clear c10b0
     try clear c12
     try clear c12b0
     try clear c12b1
     try clear c13
     try clear c13b0
     try clear c17
     try clear c17b0
     try clear c17b1
     try clear c18
     try clear c18b0
     try clear c18b1
     try clear c19
     try clear c19b0
     try clear c19b1
     try clear c20
     try clear c20b0
     try clear c23
     try clear c23b0
     try clear c23b1
     try clear c24
     try clear c24b0
     try clear hcz11_0 hcz11_1 hcz11_2 hcz11_3 hcz11_4 hfz11_0 hfz11_1 hfz11_2 hfz11_3 hfz11_4
     try clear hcz14_0 hcz14_1 hcz14_2 hcz14_3 hcz14_4 hfz14_0 hfz14_1 hfz14_2 hfz14_3 hfz14_4
     try clear hcz15_0 hcz15_1 hcz15_2 hcz15_3 hcz15_4 hfz15_0 hfz15_1 hfz15_2 hfz15_3 hfz15_4
     try clear hcz16_0 hcz16_1 hcz16_2 hcz16_3 hcz16_4 hfz16_0 hfz16_1 hfz16_2 hfz16_3 hfz16_4
     try clear hcz21_0 hcz21_1 hcz21_2 hcz21_3 hcz21_4 hfz21_0 hfz21_1 hfz21_2 hfz21_3 hfz21_4
     try clear hcz22_0 hcz22_1 hcz22_2 hcz22_3 hcz22_4 hfz22_0 hfz22_1 hfz22_2 hfz22_3 hfz22_4
     try clear hcz25_0 hcz25_1 hcz25_2 hcz25_3 hcz25_4 hfz25_0 hfz25_1 hfz25_2 hfz25_3 hfz25_4
     try clear hcz26_0 hcz26_1 hcz26_2 hcz26_3 hcz26_4 hfz26_0 hfz26_1 hfz26_2 hfz26_3 hfz26_4
     try clear hcz27_0 hcz27_1 hcz27_2 hcz27_3 hcz27_4 hfz27_0 hfz27_1 hfz27_2 hfz27_3 hfz27_4
     try clear hcz28_0 hcz28_1 hcz28_2 hcz28_3 hcz28_4 hfz28_0 hfz28_1 hfz28_2 hfz28_3 hfz28_4
     try clear hcz29_0 hcz29_1 hcz29_2 hcz29_3 hcz29_4 hfz29_0 hfz29_1 hfz29_2 hfz29_3 hfz29_4
     try clear hcz4_0 hcz4_1 hcz4_2 hcz4_3 hcz4_4 hfz4_0 hfz4_1 hfz4_2 hfz4_3 hfz4_4
     try clear p2
     obtain ⟨kq, x45_6, rfl, HA, HJ6, BK269, HB⟩ := hcut
     cases kq with
     | zero => exact absurd HA.out (by simp [exactpplref06_wrong.j1])
     | succ kj6 =>
      have H := HA.out
      clear HA
      simp only [exactpplref06_wrong.j1] at H
      by_cases c30 : x45_6 = true
      ·subst c30
       have H1 : (some 2) = some r := by rw [if_pos rfl] at H; exact H
       clear H
       have H := H1
       clear H1
       obtain rfl := Option.some.inj H
       go_wp2
       go_ret
       exact ⟨re_, bl_⟩
      ·replace c30 := Bool.eq_false_iff.mpr c30
       subst c30
       have H1 : (if a0_0 = 2 then (if a0_1 < (-1000) then (some 1) else (if a0_1 > a0_2 then (some 1) else (if a0_2 > 1000 then (some 1) else (some 0)))) else (if a0_0 = 5 then (if (l0_4.length : Int) < 2 then (exactpplref06_wrong.j2 kj6 true a0_0 a0_1 a0_2 a0_3 l0_4) else (exactpplref06_wrong.j2 kj6 (decide ((l0_4.length : Int) > 4)) a0_0 a0_1 a0_2 a0_3 l0_4)) else (if a0_0 = 6 then (if a0_3 < 1 then (exactpplref06_wrong.j4 kj6 true a0_0 a0_1 a0_2 a0_3 l0_4) else (exactpplref06_wrong.j4 kj6 (decide (a0_3 > 4)) a0_0 a0_1 a0_2 a0_3 l0_4)) else (some 0)))) = some r := by rw [if_neg (show ¬ (false = true) by decide)] at H; exact H
       clear H
       have H := H1
       clear H1
       by_cases c31 : a0_0 = 2
       ·rw [if_pos c31] at H
        have c31b0 : (a0_0 == 2) = true := beq_iff_eq.mpr c31
        have c31b1 : (a0_0 != 2) = false := bne_eq_false_iff_eq.mpr c31
        clear c31
        by_cases c32 : a0_1 < (-1000)
        ·rw [if_pos c32] at H
         have c32b0 : decide (a0_1 < (-1000)) = true := decide_eq_true c32
         clear c32
         obtain rfl := Option.some.inj H
         obtain ⟨hcz33_0, hcz33_1, hcz33_2, hcz33_3, hcz33_4, hfz33_0, hfz33_1, hfz33_2, hfz33_3, hfz33_4⟩ := cf5_ BK269.out
         go_wp2
         go_ret
         exact ⟨re_, bl_⟩
        ·rw [if_neg c32] at H
         have c32b0 : decide (a0_1 < (-1000)) = false := decide_eq_false c32
         clear c32
         by_cases c34 : a0_1 > a0_2
         ·rw [if_pos c34] at H
          have c34b0 : decide (a0_2 < a0_1) = true := decide_eq_true c34
          clear c34
          obtain rfl := Option.some.inj H
          obtain ⟨hcz35_0, hcz35_1, hcz35_2, hcz35_3, hcz35_4, hfz35_0, hfz35_1, hfz35_2, hfz35_3, hfz35_4⟩ := cf5_ BK269.out
          go_wp2
          go_ret
          exact ⟨re_, bl_⟩
         ·rw [if_neg c34] at H
          have c34b0 : decide (a0_2 < a0_1) = false := decide_eq_false c34
          clear c34
          by_cases c36 : a0_2 > 1000
          ·rw [if_pos c36] at H
           have c36b0 : decide (1000 < a0_2) = true := decide_eq_true c36
           clear c36
           obtain rfl := Option.some.inj H
           obtain ⟨hcz37_0, hcz37_1, hcz37_2, hcz37_3, hcz37_4, hfz37_0, hfz37_1, hfz37_2, hfz37_3, hfz37_4⟩ := cf5_ BK269.out
           go_wp2
           go_ret
           exact ⟨re_, bl_⟩
          ·rw [if_neg c36] at H
           have c36b0 : decide (1000 < a0_2) = false := decide_eq_false c36
           clear c36
           obtain rfl := Option.some.inj H
           obtain ⟨hcz38_0, hcz38_1, hcz38_2, hcz38_3, hcz38_4, hfz38_0, hfz38_1, hfz38_2, hfz38_3, hfz38_4⟩ := cf5_ BK269.out
           go_wp2
           go_ret
           exact ⟨re_, bl_⟩
       ·rw [if_neg c31] at H
        have c31b0 : (a0_0 == 2) = false := beq_eq_false_iff_ne.mpr c31
        have c31b1 : (a0_0 != 2) = true := bne_iff_ne.mpr c31
        by_cases c39 : a0_0 = 5
        ·rw [if_pos c39] at H
         have c39b0 : (a0_0 == 5) = true := beq_iff_eq.mpr c39
         have c39b1 : (a0_0 != 5) = false := bne_eq_false_iff_eq.mpr c39
         clear c39
         have HC40 := Aside0.mk H
         clear H
         go_upto_region 11 with (fail)
         go_cut [75] (fun v75 wc => ∃ (kq : Nat) (x75_39 : Bool), v75 = .bool x75_39 ∧ Aside0 (exactpplref06_wrong.j2 kq x75_39 a0_0 a0_1 a0_2 a0_3 l0_4 = some r) ∧ Aside0 (kq ≤ kj6) ∧ Aside0 (wc.heap[gb269]? = some (.cells #[.int .i64 a0_0, .int .i64 a0_1, .int .i64 a0_2, .int .i64 a0_3, (.slice A0_4 l0_4.length c0_4)] 24 (0, 0))) ∧ Aside0 (Below w.heap.size w wc))
         case first =>
          have H := HC40.out
          clear HC40
          by_cases c41 : (l0_4.length : Int) < 2
          ·rw [if_pos c41] at H
           have c41b0 : decide ((l0_4.length : Int) < 2) = true := decide_eq_true c41
           have c41b1 : decide (l0_4.length < 2) = true := decide_eq_true (by omega)
           clear c41
           (first | rw [c41b0] | (simp only [i64_w, i32_w]; rw [c41b0]) | skip)
           have H' := Aside0.mk H
           clear H
           obtain ⟨hcz42_0, hcz42_1, hcz42_2, hcz42_3, hcz42_4, hfz42_0, hfz42_1, hfz42_2, hfz42_3, hfz42_4⟩ := cf5_ BK269.out
           go_wp2
           go_meet
           case rel => exact ⟨_, (true), rs_, H', ⟨by have := HJ1.out; have := HJ6.out; first | omega | exact Nat.le_refl _⟩, ⟨bk_⟩, ⟨bl_⟩⟩
          ·rw [if_neg c41] at H
           have c41b0 : decide ((l0_4.length : Int) < 2) = false := decide_eq_false c41
           have c41b1 : decide (l0_4.length < 2) = false := decide_eq_false (by omega)
           clear c41
           (first | rw [c41b0] | (simp only [i64_w, i32_w]; rw [c41b0]) | skip)
           have H' := Aside0.mk H
           clear H
           obtain ⟨hcz43_0, hcz43_1, hcz43_2, hcz43_3, hcz43_4, hfz43_0, hfz43_1, hfz43_2, hfz43_3, hfz43_4⟩ := cf5_ BK269.out
           go_wp2
           go_meet
           case rel => exact ⟨_, (decide ((l0_4.length : Int) > 4)), rs_, H', ⟨by have := HJ1.out; have := HJ6.out; first | omega | exact Nat.le_refl _⟩, ⟨bk_⟩, ⟨bl_⟩⟩
         case rest =>
          clear HC40
          try clear c1
          try clear c2
          try clear p2
          try clear c3
          try clear c4
          try clear c5
          try clear c5b0
          try clear c6
          try clear c8
          try clear c8b0
          try clear c8b1
          try clear c9
          try clear c9b0
          try clear c9b1
          try clear c10
          try clear c10b0
          try clear c12
          try clear c12b0
          try clear c12b1
          try clear c13
          try clear c13b0
          try clear c17
          try clear c17b0
          try clear c17b1
          try clear c18
          try clear c18b0
          try clear c18b1
          try clear c19
          try clear c19b0
          try clear c19b1
          try clear c20
          try clear c20b0
          try clear c23
          try clear c23b0
          try clear c23b1
          try clear c24
          try clear c24b0
          try clear c30
          try clear c31
          try clear c31b0
          try clear c31b1
          try clear c32
          try clear c32b0
          try clear c34
          try clear c34b0
          try clear c36
          try clear c36b0
          try clear c39
          try clear c39b0
          try clear c39b1
          try clear c41
          try clear c41b0
          try clear c41b1
          try clear hcz11_0 hcz11_1 hcz11_2 hcz11_3 hcz11_4 hfz11_0 hfz11_1 hfz11_2 hfz11_3 hfz11_4
          try clear hcz14_0 hcz14_1 hcz14_2 hcz14_3 hcz14_4 hfz14_0 hfz14_1 hfz14_2 hfz14_3 hfz14_4
          try clear hcz15_0 hcz15_1 hcz15_2 hcz15_3 hcz15_4 hfz15_0 hfz15_1 hfz15_2 hfz15_3 hfz15_4
          try clear hcz16_0 hcz16_1 hcz16_2 hcz16_3 hcz16_4 hfz16_0 hfz16_1 hfz16_2 hfz16_3 hfz16_4
          try clear hcz21_0 hcz21_1 hcz21_2 hcz21_3 hcz21_4 hfz21_0 hfz21_1 hfz21_2 hfz21_3 hfz21_4
          try clear hcz22_0 hcz22_1 hcz22_2 hcz22_3 hcz22_4 hfz22_0 hfz22_1 hfz22_2 hfz22_3 hfz22_4
          try clear hcz25_0 hcz25_1 hcz25_2 hcz25_3 hcz25_4 hfz25_0 hfz25_1 hfz25_2 hfz25_3 hfz25_4
          try clear hcz26_0 hcz26_1 hcz26_2 hcz26_3 hcz26_4 hfz26_0 hfz26_1 hfz26_2 hfz26_3 hfz26_4
          try clear hcz27_0 hcz27_1 hcz27_2 hcz27_3 hcz27_4 hfz27_0 hfz27_1 hfz27_2 hfz27_3 hfz27_4
          try clear hcz28_0 hcz28_1 hcz28_2 hcz28_3 hcz28_4 hfz28_0 hfz28_1 hfz28_2 hfz28_3 hfz28_4
          try clear hcz29_0 hcz29_1 hcz29_2 hcz29_3 hcz29_4 hfz29_0 hfz29_1 hfz29_2 hfz29_3 hfz29_4
          try clear hcz33_0 hcz33_1 hcz33_2 hcz33_3 hcz33_4 hfz33_0 hfz33_1 hfz33_2 hfz33_3 hfz33_4
          try clear hcz35_0 hcz35_1 hcz35_2 hcz35_3 hcz35_4 hfz35_0 hfz35_1 hfz35_2 hfz35_3 hfz35_4
          try clear hcz37_0 hcz37_1 hcz37_2 hcz37_3 hcz37_4 hfz37_0 hfz37_1 hfz37_2 hfz37_3 hfz37_4
          try clear hcz38_0 hcz38_1 hcz38_2 hcz38_3 hcz38_4 hfz38_0 hfz38_1 hfz38_2 hfz38_3 hfz38_4
          try clear hcz42_0 hcz42_1 hcz42_2 hcz42_3 hcz42_4 hfz42_0 hfz42_1 hfz42_2 hfz42_3 hfz42_4
          try clear hcz43_0 hcz43_1 hcz43_2 hcz43_3 hcz43_4 hfz43_0 hfz43_1 hfz43_2 hfz43_3 hfz43_4
          try clear hcz4_0 hcz4_1 hcz4_2 hcz4_3 hcz4_4 hfz4_0 hfz4_1 hfz4_2 hfz4_3 hfz4_4
          try clear p2
          obtain ⟨kq, x75_39, rfl, HA, HJ39, BK269, HB⟩ := hcut
          cases kq with
          | zero => exact absurd HA.out (by simp [exactpplref06_wrong.j2])
          | succ kj39 =>
           have H := HA.out
           clear HA
           simp only [exactpplref06_wrong.j2] at H
           by_cases c44 : x75_39 = true
           ·subst c44
            have H1 : (some 1) = some r := by rw [if_pos rfl] at H; exact H
            clear H
            have H := H1
            clear H1
            obtain rfl := Option.some.inj H
            go_wp2
            go_ret
            exact ⟨re_, bl_⟩
           ·replace c44 := Bool.eq_false_iff.mpr c44
            subst c44
            have H1 : (exactpplref06_wrong.l0 kj39 0 a0_0 a0_1 a0_2 a0_3 l0_4) = some r := by rw [if_neg (show ¬ (false = true) by decide)] at H; exact H
            clear H
            have H := H1
            clear H1
            have H' := Aside0.mk H
            clear H
            go_wp2
            go_loopg [4] kj39 (fun kq v4 w' => ∃ (x4_4 : Int), v4 = .int .i64 x4_4 ∧ Aside0 (exactpplref06_wrong.l0 kq x4_4 a0_0 a0_1 a0_2 a0_3 l0_4 = some r) ∧ Aside0 (kq ≤ kj39) ∧ Aside0 (w'.heap[gb269]? = some (.cells #[.int .i64 a0_0, .int .i64 a0_1, .int .i64 a0_2, .int .i64 a0_3, (.slice A0_4 l0_4.length c0_4)] 24 (0, 0))) ∧ Aside0 (Below w.heap.size w w'))
            case atStart => exact ⟨(0), rs_, H', ⟨Nat.le_refl _⟩, ⟨bk_⟩, ⟨bl_⟩⟩
            case round =>
             clear H'
             try clear c1
             try clear c2
             try clear p2
             try clear c3
             try clear c4
             try clear c5
             try clear c5b0
             try clear c6
             try clear c8
             try clear c8b0
             try clear c8b1
             try clear c9
             try clear c9b0
             try clear c9b1
             try clear c10
             try clear c10b0
             try clear c12
             try clear c12b0
             try clear c12b1
             try clear c13
             try clear c13b0
             try clear c17
             try clear c17b0
             try clear c17b1
             try clear c18
             try clear c18b0
             try clear c18b1
             try clear c19
             try clear c19b0
             try clear c19b1
             try clear c20
             try clear c20b0
             try clear c23
             try clear c23b0
             try clear c23b1
             try clear c24
             try clear c24b0
             try clear c30
             try clear c31
             try clear c31b0
             try clear c31b1
             try clear c32
             try clear c32b0
             try clear c34
             try clear c34b0
             try clear c36
             try clear c36b0
             try clear c39
             try clear c39b0
             try clear c39b1
             try clear c41
             try clear c41b0
             try clear c41b1
             try clear c44
             try clear hcz11_0 hcz11_1 hcz11_2 hcz11_3 hcz11_4 hfz11_0 hfz11_1 hfz11_2 hfz11_3 hfz11_4
             try clear hcz14_0 hcz14_1 hcz14_2 hcz14_3 hcz14_4 hfz14_0 hfz14_1 hfz14_2 hfz14_3 hfz14_4
             try clear hcz15_0 hcz15_1 hcz15_2 hcz15_3 hcz15_4 hfz15_0 hfz15_1 hfz15_2 hfz15_3 hfz15_4
             try clear hcz16_0 hcz16_1 hcz16_2 hcz16_3 hcz16_4 hfz16_0 hfz16_1 hfz16_2 hfz16_3 hfz16_4
             try clear hcz21_0 hcz21_1 hcz21_2 hcz21_3 hcz21_4 hfz21_0 hfz21_1 hfz21_2 hfz21_3 hfz21_4
             try clear hcz22_0 hcz22_1 hcz22_2 hcz22_3 hcz22_4 hfz22_0 hfz22_1 hfz22_2 hfz22_3 hfz22_4
             try clear hcz25_0 hcz25_1 hcz25_2 hcz25_3 hcz25_4 hfz25_0 hfz25_1 hfz25_2 hfz25_3 hfz25_4
             try clear hcz26_0 hcz26_1 hcz26_2 hcz26_3 hcz26_4 hfz26_0 hfz26_1 hfz26_2 hfz26_3 hfz26_4
             try clear hcz27_0 hcz27_1 hcz27_2 hcz27_3 hcz27_4 hfz27_0 hfz27_1 hfz27_2 hfz27_3 hfz27_4
             try clear hcz28_0 hcz28_1 hcz28_2 hcz28_3 hcz28_4 hfz28_0 hfz28_1 hfz28_2 hfz28_3 hfz28_4
             try clear hcz29_0 hcz29_1 hcz29_2 hcz29_3 hcz29_4 hfz29_0 hfz29_1 hfz29_2 hfz29_3 hfz29_4
             try clear hcz33_0 hcz33_1 hcz33_2 hcz33_3 hcz33_4 hfz33_0 hfz33_1 hfz33_2 hfz33_3 hfz33_4
             try clear hcz35_0 hcz35_1 hcz35_2 hcz35_3 hcz35_4 hfz35_0 hfz35_1 hfz35_2 hfz35_3 hfz35_4
             try clear hcz37_0 hcz37_1 hcz37_2 hcz37_3 hcz37_4 hfz37_0 hfz37_1 hfz37_2 hfz37_3 hfz37_4
             try clear hcz38_0 hcz38_1 hcz38_2 hcz38_3 hcz38_4 hfz38_0 hfz38_1 hfz38_2 hfz38_3 hfz38_4
             try clear hcz42_0 hcz42_1 hcz42_2 hcz42_3 hcz42_4 hfz42_0 hfz42_1 hfz42_2 hfz42_3 hfz42_4
             try clear hcz43_0 hcz43_1 hcz43_2 hcz43_3 hcz43_4 hfz43_0 hfz43_1 hfz43_2 hfz43_3 hfz43_4
             try clear hcz4_0 hcz4_1 hcz4_2 hcz4_3 hcz4_4 hfz4_0 hfz4_1 hfz4_2 hfz4_3 hfz4_4
             try clear p2
             obtain ⟨x4_4, rfl, HA, HK4, BK269, HB⟩ := hrel
             cases gk with
             | zero => exact absurd HA.out (by simp [exactpplref06_wrong.l0])
             | succ k4 =>
              have H := HA.out
              clear HA
              simp only [exactpplref06_wrong.l0] at H
              by_cases c45 : x4_4 < (l0_4.length : Int)
              ·rw [if_pos c45] at H
               have c45b0 : decide (x4_4 < (l0_4.length : Int)) = true := decide_eq_true c45
               clear c45
               by_cases c46 : 0 ≤ x4_4
               ·rw [if_pos c46] at H
                have c46b0 : decide (0 ≤ x4_4) = true := decide_eq_true c46
                clear c46
                replace H := Option.bind_eq_some_iff.mp H
                obtain ⟨t271, A470, H⟩ := H
                replace H : (if t271 = 0 then (if ((rd_T24 l0_4 x4_4).f0) = 3 then (some 8) else (if ((rd_T24 l0_4 x4_4).f0) = 4 then (some 8) else (exactpplref06_wrong.l0 k4 (wrap64 (x4_4 + 1)) a0_0 a0_1 a0_2 a0_3 l0_4))) else (some t271)) = some r := H
                have A47 := Aside0.mk A470
                clear A470
                by_cases c48 : t271 = 0
                ·rw [if_pos c48] at H
                 have c48b0 : (t271 == 0) = true := beq_iff_eq.mpr c48
                 have c48b1 : (t271 != 0) = false := bne_eq_false_iff_eq.mpr c48
                 clear c48
                 by_cases c49 : ((rd_T24 l0_4 x4_4).f0) = 3
                 ·rw [if_pos c49] at H
                  have c49b0 : (((rd_T24 l0_4 x4_4).f0) == 3) = true := beq_iff_eq.mpr c49
                  have c49b1 : (((rd_T24 l0_4 x4_4).f0) != 3) = false := bne_eq_false_iff_eq.mpr c49
                  clear c49
                  obtain rfl := Option.some.inj H
                  obtain ⟨hcz50_0, hcz50_1, hcz50_2, hcz50_3, hcz50_4, hfz50_0, hfz50_1, hfz50_2, hfz50_3, hfz50_4⟩ := cf5_ BK269.out
                  have p270 : 0 ≤ (x4_4 : Int) := dt_
                  have q270 : x4_4 < (l0_4.length : Int) := dt_
                  obtain ⟨ad270, A270_4, c270_4, e270, hx270_0, hx270_1, hx270_2, hx270_3, hx270_4, hl270_4, hi270_4⟩ := at_T24 HR0_4.out x4_4 p270 q270
                  cases e270
                  replace hx270_0 := (HB.out.cell (World.block_lt_of_cell? w _ hx270_0)).trans hx270_0
                  replace hx270_1 := (HB.out.cell (World.block_lt_of_cell? w _ hx270_1)).trans hx270_1
                  replace hx270_2 := (HB.out.cell (World.block_lt_of_cell? w _ hx270_2)).trans hx270_2
                  replace hx270_3 := (HB.out.cell (World.block_lt_of_cell? w _ hx270_3)).trans hx270_3
                  replace hx270_4 := (HB.out.cell (World.block_lt_of_cell? w _ hx270_4)).trans hx270_4
                  have HR270_4 := Aside0.mk hi270_4
                  have HC270_4 := Aside0.mk hl270_4
                  clear hi270_4 hl270_4
                  replace p270 := eq_true p270
                  replace q270 := eq_true q270
                  go_wp2_with (first | ((with_reducible refine gate_callee (f := 46) rfl ?_); refine goesL_ (some 88) rfl rfl Tryd.func46 (by kernel_rfl) rfl #[.agg #[.int .i64 ((rd_T24 l0_4 x4_4).f0), .int .i64 ((rd_T24 l0_4 x4_4).f1), .int .i64 ((rd_T24 l0_4 x4_4).f2), .int .i64 ((rd_T24 l0_4 x4_4).f3), .slice A270_4 ((rd_T24 l0_4 x4_4).f4).length c270_4]] rfl (by (try simp only [List.map_toArray, List.map_cons, List.map_nil]); first | done | rfl | (simp only [List.length_drop, List.length_take]; rfl)) ?_; (with_reducible refine (ih k4 (by have := HJ1.out; have := HJ6.out; have := HJ39.out; have := HK4.out; omega) ((rd_T24 l0_4 x4_4).f0) ((rd_T24 l0_4 x4_4).f1) ((rd_T24 l0_4 x4_4).f2) ((rd_T24 l0_4 x4_4).f3) _ _ ((rd_T24 l0_4 x4_4).f4) t271 _ ?side1 ?side2 A47.out).mono ?_); (case side1 => repeat (first | exact (Kd.C_below HR270_4.out HB.out) | (with_reducible refine Kd.C_alloc ?_ _) | (with_reducible refine Kd.C_drewN ?_ _) | (with_reducible refine Kd.C_drew ?_))); (case side2 => exact HC270_4.out); rintro e w51 ⟨rfl, hb⟩; refine ⟨_, rfl, ?_⟩; replace BK269 := Aside0.mk (blk_below (g := gb269) (o := .cells #[.int .i64 a0_0, .int .i64 a0_1, .int .i64 a0_2, .int .i64 a0_3, .slice (some ad270) l0_4.length c0_4] 24 (0, 0)) bk_ hb); replace HB := Aside0.mk (below_step bl_ hb); (try clear hb); (try clear hb2); (try clear hk); (try clear hi); obtain ⟨hcz52_0, hcz52_1, hcz52_2, hcz52_3, hcz52_4, hfz52_0, hfz52_1, hfz52_2, hfz52_3, hfz52_4⟩ := cf5_ BK269.out; have p272 : 0 ≤ (x4_4 : Int) := dt_; have q272 : x4_4 < (l0_4.length : Int) := dt_; obtain ⟨ad272, A272_4, c272_4, e272, hx272_0, hx272_1, hx272_2, hx272_3, hx272_4, hl272_4, hi272_4⟩ := at_T24 HR0_4.out x4_4 p272 q272; obtain rfl : ad270 = ad272 := (by injection e272); replace hx272_0 := (HB.out.cell (World.block_lt_of_cell? w _ hx272_0)).trans hx272_0; replace hx272_1 := (HB.out.cell (World.block_lt_of_cell? w _ hx272_1)).trans hx272_1; replace hx272_2 := (HB.out.cell (World.block_lt_of_cell? w _ hx272_2)).trans hx272_2; replace hx272_3 := (HB.out.cell (World.block_lt_of_cell? w _ hx272_3)).trans hx272_3; replace hx272_4 := (HB.out.cell (World.block_lt_of_cell? w _ hx272_4)).trans hx272_4; have HR272_4 := Aside0.mk hi272_4; have HC272_4 := Aside0.mk hl272_4; clear hi272_4 hl272_4; replace p272 := eq_true p272; replace q272 := eq_true q272))
                  go_ret
                  exact ⟨re_, bl_⟩
                 ·rw [if_neg c49] at H
                  have c49b0 : (((rd_T24 l0_4 x4_4).f0) == 3) = false := beq_eq_false_iff_ne.mpr c49
                  have c49b1 : (((rd_T24 l0_4 x4_4).f0) != 3) = true := bne_iff_ne.mpr c49
                  by_cases c53 : ((rd_T24 l0_4 x4_4).f0) = 4
                  ·rw [if_pos c53] at H
                   have c53b0 : (((rd_T24 l0_4 x4_4).f0) == 4) = true := beq_iff_eq.mpr c53
                   have c53b1 : (((rd_T24 l0_4 x4_4).f0) != 4) = false := bne_eq_false_iff_eq.mpr c53
                   clear c53
                   obtain rfl := Option.some.inj H
                   obtain ⟨hcz54_0, hcz54_1, hcz54_2, hcz54_3, hcz54_4, hfz54_0, hfz54_1, hfz54_2, hfz54_3, hfz54_4⟩ := cf5_ BK269.out
                   have p270 : 0 ≤ (x4_4 : Int) := dt_
                   have q270 : x4_4 < (l0_4.length : Int) := dt_
                   obtain ⟨ad270, A270_4, c270_4, e270, hx270_0, hx270_1, hx270_2, hx270_3, hx270_4, hl270_4, hi270_4⟩ := at_T24 HR0_4.out x4_4 p270 q270
                   cases e270
                   replace hx270_0 := (HB.out.cell (World.block_lt_of_cell? w _ hx270_0)).trans hx270_0
                   replace hx270_1 := (HB.out.cell (World.block_lt_of_cell? w _ hx270_1)).trans hx270_1
                   replace hx270_2 := (HB.out.cell (World.block_lt_of_cell? w _ hx270_2)).trans hx270_2
                   replace hx270_3 := (HB.out.cell (World.block_lt_of_cell? w _ hx270_3)).trans hx270_3
                   replace hx270_4 := (HB.out.cell (World.block_lt_of_cell? w _ hx270_4)).trans hx270_4
                   have HR270_4 := Aside0.mk hi270_4
                   have HC270_4 := Aside0.mk hl270_4
                   clear hi270_4 hl270_4
                   replace p270 := eq_true p270
                   replace q270 := eq_true q270
                   go_wp2_with (first | ((with_reducible refine gate_callee (f := 46) rfl ?_); refine goesL_ (some 88) rfl rfl Tryd.func46 (by kernel_rfl) rfl #[.agg #[.int .i64 ((rd_T24 l0_4 x4_4).f0), .int .i64 ((rd_T24 l0_4 x4_4).f1), .int .i64 ((rd_T24 l0_4 x4_4).f2), .int .i64 ((rd_T24 l0_4 x4_4).f3), .slice A270_4 ((rd_T24 l0_4 x4_4).f4).length c270_4]] rfl (by (try simp only [List.map_toArray, List.map_cons, List.map_nil]); first | done | rfl | (simp only [List.length_drop, List.length_take]; rfl)) ?_; (with_reducible refine (ih k4 (by have := HJ1.out; have := HJ6.out; have := HJ39.out; have := HK4.out; omega) ((rd_T24 l0_4 x4_4).f0) ((rd_T24 l0_4 x4_4).f1) ((rd_T24 l0_4 x4_4).f2) ((rd_T24 l0_4 x4_4).f3) _ _ ((rd_T24 l0_4 x4_4).f4) t271 _ ?side1 ?side2 A47.out).mono ?_); (case side1 => repeat (first | exact (Kd.C_below HR270_4.out HB.out) | (with_reducible refine Kd.C_alloc ?_ _) | (with_reducible refine Kd.C_drewN ?_ _) | (with_reducible refine Kd.C_drew ?_))); (case side2 => exact HC270_4.out); rintro e w55 ⟨rfl, hb⟩; refine ⟨_, rfl, ?_⟩; replace BK269 := Aside0.mk (blk_below (g := gb269) (o := .cells #[.int .i64 a0_0, .int .i64 a0_1, .int .i64 a0_2, .int .i64 a0_3, .slice (some ad270) l0_4.length c0_4] 24 (0, 0)) bk_ hb); replace HB := Aside0.mk (below_step bl_ hb); (try clear hb); (try clear hb2); (try clear hk); (try clear hi); obtain ⟨hcz56_0, hcz56_1, hcz56_2, hcz56_3, hcz56_4, hfz56_0, hfz56_1, hfz56_2, hfz56_3, hfz56_4⟩ := cf5_ BK269.out; have p272 : 0 ≤ (x4_4 : Int) := dt_; have q272 : x4_4 < (l0_4.length : Int) := dt_; obtain ⟨ad272, A272_4, c272_4, e272, hx272_0, hx272_1, hx272_2, hx272_3, hx272_4, hl272_4, hi272_4⟩ := at_T24 HR0_4.out x4_4 p272 q272; obtain rfl : ad270 = ad272 := (by injection e272); replace hx272_0 := (HB.out.cell (World.block_lt_of_cell? w _ hx272_0)).trans hx272_0; replace hx272_1 := (HB.out.cell (World.block_lt_of_cell? w _ hx272_1)).trans hx272_1; replace hx272_2 := (HB.out.cell (World.block_lt_of_cell? w _ hx272_2)).trans hx272_2; replace hx272_3 := (HB.out.cell (World.block_lt_of_cell? w _ hx272_3)).trans hx272_3; replace hx272_4 := (HB.out.cell (World.block_lt_of_cell? w _ hx272_4)).trans hx272_4; have HR272_4 := Aside0.mk hi272_4; have HC272_4 := Aside0.mk hl272_4; clear hi272_4 hl272_4; replace p272 := eq_true p272; replace q272 := eq_true q272; have p273 : 0 ≤ (x4_4 : Int) := dt_; have q273 : x4_4 < (l0_4.length : Int) := dt_; obtain ⟨ad273, A273_4, c273_4, e273, hx273_0, hx273_1, hx273_2, hx273_3, hx273_4, hl273_4, hi273_4⟩ := at_T24 HR0_4.out x4_4 p273 q273; obtain rfl : ad270 = ad273 := (by injection e273); replace hx273_0 := (HB.out.cell (World.block_lt_of_cell? w _ hx273_0)).trans hx273_0; replace hx273_1 := (HB.out.cell (World.block_lt_of_cell? w _ hx273_1)).trans hx273_1; replace hx273_2 := (HB.out.cell (World.block_lt_of_cell? w _ hx273_2)).trans hx273_2; replace hx273_3 := (HB.out.cell (World.block_lt_of_cell? w _ hx273_3)).trans hx273_3; replace hx273_4 := (HB.out.cell (World.block_lt_of_cell? w _ hx273_4)).trans hx273_4; have HR273_4 := Aside0.mk hi273_4; have HC273_4 := Aside0.mk hl273_4; clear hi273_4 hl273_4; replace p273 := eq_true p273; replace q273 := eq_true q273; have ea_ := Option.some.inj (hx272_4.symm.trans hx273_4); injection ea_ with ea_ en_ ec_; subst ea_; subst ec_; clear en_))
                   go_ret
                   exact ⟨re_, bl_⟩
                  ·rw [if_neg c53] at H
                   have c53b0 : (((rd_T24 l0_4 x4_4).f0) == 4) = false := beq_eq_false_iff_ne.mpr c53
                   have c53b1 : (((rd_T24 l0_4 x4_4).f0) != 4) = true := bne_iff_ne.mpr c53
                   have H' := Aside0.mk H
                   clear H
                   obtain ⟨hcz57_0, hcz57_1, hcz57_2, hcz57_3, hcz57_4, hfz57_0, hfz57_1, hfz57_2, hfz57_3, hfz57_4⟩ := cf5_ BK269.out
                   have p270 : 0 ≤ (x4_4 : Int) := dt_
                   have q270 : x4_4 < (l0_4.length : Int) := dt_
                   obtain ⟨ad270, A270_4, c270_4, e270, hx270_0, hx270_1, hx270_2, hx270_3, hx270_4, hl270_4, hi270_4⟩ := at_T24 HR0_4.out x4_4 p270 q270
                   cases e270
                   replace hx270_0 := (HB.out.cell (World.block_lt_of_cell? w _ hx270_0)).trans hx270_0
                   replace hx270_1 := (HB.out.cell (World.block_lt_of_cell? w _ hx270_1)).trans hx270_1
                   replace hx270_2 := (HB.out.cell (World.block_lt_of_cell? w _ hx270_2)).trans hx270_2
                   replace hx270_3 := (HB.out.cell (World.block_lt_of_cell? w _ hx270_3)).trans hx270_3
                   replace hx270_4 := (HB.out.cell (World.block_lt_of_cell? w _ hx270_4)).trans hx270_4
                   have HR270_4 := Aside0.mk hi270_4
                   have HC270_4 := Aside0.mk hl270_4
                   clear hi270_4 hl270_4
                   replace p270 := eq_true p270
                   replace q270 := eq_true q270
                   go_wp2_with (first | ((with_reducible refine gate_callee (f := 46) rfl ?_); refine goesL_ (some 88) rfl rfl Tryd.func46 (by kernel_rfl) rfl #[.agg #[.int .i64 ((rd_T24 l0_4 x4_4).f0), .int .i64 ((rd_T24 l0_4 x4_4).f1), .int .i64 ((rd_T24 l0_4 x4_4).f2), .int .i64 ((rd_T24 l0_4 x4_4).f3), .slice A270_4 ((rd_T24 l0_4 x4_4).f4).length c270_4]] rfl (by (try simp only [List.map_toArray, List.map_cons, List.map_nil]); first | done | rfl | (simp only [List.length_drop, List.length_take]; rfl)) ?_; (with_reducible refine (ih k4 (by have := HJ1.out; have := HJ6.out; have := HJ39.out; have := HK4.out; omega) ((rd_T24 l0_4 x4_4).f0) ((rd_T24 l0_4 x4_4).f1) ((rd_T24 l0_4 x4_4).f2) ((rd_T24 l0_4 x4_4).f3) _ _ ((rd_T24 l0_4 x4_4).f4) t271 _ ?side1 ?side2 A47.out).mono ?_); (case side1 => repeat (first | exact (Kd.C_below HR270_4.out HB.out) | (with_reducible refine Kd.C_alloc ?_ _) | (with_reducible refine Kd.C_drewN ?_ _) | (with_reducible refine Kd.C_drew ?_))); (case side2 => exact HC270_4.out); rintro e w58 ⟨rfl, hb⟩; refine ⟨_, rfl, ?_⟩; replace BK269 := Aside0.mk (blk_below (g := gb269) (o := .cells #[.int .i64 a0_0, .int .i64 a0_1, .int .i64 a0_2, .int .i64 a0_3, .slice (some ad270) l0_4.length c0_4] 24 (0, 0)) bk_ hb); replace HB := Aside0.mk (below_step bl_ hb); (try clear hb); (try clear hb2); (try clear hk); (try clear hi); obtain ⟨hcz59_0, hcz59_1, hcz59_2, hcz59_3, hcz59_4, hfz59_0, hfz59_1, hfz59_2, hfz59_3, hfz59_4⟩ := cf5_ BK269.out; have p272 : 0 ≤ (x4_4 : Int) := dt_; have q272 : x4_4 < (l0_4.length : Int) := dt_; obtain ⟨ad272, A272_4, c272_4, e272, hx272_0, hx272_1, hx272_2, hx272_3, hx272_4, hl272_4, hi272_4⟩ := at_T24 HR0_4.out x4_4 p272 q272; obtain rfl : ad270 = ad272 := (by injection e272); replace hx272_0 := (HB.out.cell (World.block_lt_of_cell? w _ hx272_0)).trans hx272_0; replace hx272_1 := (HB.out.cell (World.block_lt_of_cell? w _ hx272_1)).trans hx272_1; replace hx272_2 := (HB.out.cell (World.block_lt_of_cell? w _ hx272_2)).trans hx272_2; replace hx272_3 := (HB.out.cell (World.block_lt_of_cell? w _ hx272_3)).trans hx272_3; replace hx272_4 := (HB.out.cell (World.block_lt_of_cell? w _ hx272_4)).trans hx272_4; have HR272_4 := Aside0.mk hi272_4; have HC272_4 := Aside0.mk hl272_4; clear hi272_4 hl272_4; replace p272 := eq_true p272; replace q272 := eq_true q272; have p273 : 0 ≤ (x4_4 : Int) := dt_; have q273 : x4_4 < (l0_4.length : Int) := dt_; obtain ⟨ad273, A273_4, c273_4, e273, hx273_0, hx273_1, hx273_2, hx273_3, hx273_4, hl273_4, hi273_4⟩ := at_T24 HR0_4.out x4_4 p273 q273; obtain rfl : ad270 = ad273 := (by injection e273); replace hx273_0 := (HB.out.cell (World.block_lt_of_cell? w _ hx273_0)).trans hx273_0; replace hx273_1 := (HB.out.cell (World.block_lt_of_cell? w _ hx273_1)).trans hx273_1; replace hx273_2 := (HB.out.cell (World.block_lt_of_cell? w _ hx273_2)).trans hx273_2; replace hx273_3 := (HB.out.cell (World.block_lt_of_cell? w _ hx273_3)).trans hx273_3; replace hx273_4 := (HB.out.cell (World.block_lt_of_cell? w _ hx273_4)).trans hx273_4; have HR273_4 := Aside0.mk hi273_4; have HC273_4 := Aside0.mk hl273_4; clear hi273_4 hl273_4; replace p273 := eq_true p273; replace q273 := eq_true q273; have ea_ := Option.some.inj (hx272_4.symm.trans hx273_4); injection ea_ with ea_ en_ ec_; subst ea_; subst ec_; clear en_))
                   go_roundg k4
                   case measure => have := HJ1.out; have := HJ6.out; have := HJ39.out; have := HK4.out; omega
                   case rel => exact ⟨(wrap64 (x4_4 + 1)), rs_, H', ⟨by have := HJ1.out; have := HJ6.out; have := HJ39.out; have := HK4.out; omega⟩, ⟨bk_⟩, ⟨bl_⟩⟩
                ·rw [if_neg c48] at H
                 have c48b0 : (t271 == 0) = false := beq_eq_false_iff_ne.mpr c48
                 have c48b1 : (t271 != 0) = true := bne_iff_ne.mpr c48
                 obtain rfl := Option.some.inj H
                 obtain ⟨hcz60_0, hcz60_1, hcz60_2, hcz60_3, hcz60_4, hfz60_0, hfz60_1, hfz60_2, hfz60_3, hfz60_4⟩ := cf5_ BK269.out
                 have p270 : 0 ≤ (x4_4 : Int) := dt_
                 have q270 : x4_4 < (l0_4.length : Int) := dt_
                 obtain ⟨ad270, A270_4, c270_4, e270, hx270_0, hx270_1, hx270_2, hx270_3, hx270_4, hl270_4, hi270_4⟩ := at_T24 HR0_4.out x4_4 p270 q270
                 cases e270
                 replace hx270_0 := (HB.out.cell (World.block_lt_of_cell? w _ hx270_0)).trans hx270_0
                 replace hx270_1 := (HB.out.cell (World.block_lt_of_cell? w _ hx270_1)).trans hx270_1
                 replace hx270_2 := (HB.out.cell (World.block_lt_of_cell? w _ hx270_2)).trans hx270_2
                 replace hx270_3 := (HB.out.cell (World.block_lt_of_cell? w _ hx270_3)).trans hx270_3
                 replace hx270_4 := (HB.out.cell (World.block_lt_of_cell? w _ hx270_4)).trans hx270_4
                 have HR270_4 := Aside0.mk hi270_4
                 have HC270_4 := Aside0.mk hl270_4
                 clear hi270_4 hl270_4
                 replace p270 := eq_true p270
                 replace q270 := eq_true q270
                 go_wp2_with (first | ((with_reducible refine gate_callee (f := 46) rfl ?_); refine goesL_ (some 88) rfl rfl Tryd.func46 (by kernel_rfl) rfl #[.agg #[.int .i64 ((rd_T24 l0_4 x4_4).f0), .int .i64 ((rd_T24 l0_4 x4_4).f1), .int .i64 ((rd_T24 l0_4 x4_4).f2), .int .i64 ((rd_T24 l0_4 x4_4).f3), .slice A270_4 ((rd_T24 l0_4 x4_4).f4).length c270_4]] rfl (by (try simp only [List.map_toArray, List.map_cons, List.map_nil]); first | done | rfl | (simp only [List.length_drop, List.length_take]; rfl)) ?_; (with_reducible refine (ih k4 (by have := HJ1.out; have := HJ6.out; have := HJ39.out; have := HK4.out; omega) ((rd_T24 l0_4 x4_4).f0) ((rd_T24 l0_4 x4_4).f1) ((rd_T24 l0_4 x4_4).f2) ((rd_T24 l0_4 x4_4).f3) _ _ ((rd_T24 l0_4 x4_4).f4) t271 _ ?side1 ?side2 A47.out).mono ?_); (case side1 => repeat (first | exact (Kd.C_below HR270_4.out HB.out) | (with_reducible refine Kd.C_alloc ?_ _) | (with_reducible refine Kd.C_drewN ?_ _) | (with_reducible refine Kd.C_drew ?_))); (case side2 => exact HC270_4.out); rintro e w61 ⟨rfl, hb⟩; refine ⟨_, rfl, ?_⟩; replace BK269 := Aside0.mk (blk_below (g := gb269) (o := .cells #[.int .i64 a0_0, .int .i64 a0_1, .int .i64 a0_2, .int .i64 a0_3, .slice (some ad270) l0_4.length c0_4] 24 (0, 0)) bk_ hb); replace HB := Aside0.mk (below_step bl_ hb); (try clear hb); (try clear hb2); (try clear hk); (try clear hi)))
                 go_ret
                 exact ⟨re_, bl_⟩
               ·rw [if_neg c46] at H
                exact absurd H (by simp)
              ·rw [if_neg c45] at H
               have c45b0 : decide (x4_4 < (l0_4.length : Int)) = false := decide_eq_false c45
               clear c45
               obtain rfl := Option.some.inj H
               obtain ⟨hcz62_0, hcz62_1, hcz62_2, hcz62_3, hcz62_4, hfz62_0, hfz62_1, hfz62_2, hfz62_3, hfz62_4⟩ := cf5_ BK269.out
               go_wp2
               go_ret
               exact ⟨re_, bl_⟩
        ·rw [if_neg c39] at H
         have c39b0 : (a0_0 == 5) = false := beq_eq_false_iff_ne.mpr c39
         have c39b1 : (a0_0 != 5) = true := bne_iff_ne.mpr c39
         by_cases c63 : a0_0 = 6
         ·rw [if_pos c63] at H
          have c63b0 : (a0_0 == 6) = true := beq_iff_eq.mpr c63
          have c63b1 : (a0_0 != 6) = false := bne_eq_false_iff_eq.mpr c63
          clear c63
          have HC64 := Aside0.mk H
          clear H
          go_upto_region 22 with (fail)
          go_cut [117] (fun v117 wc => ∃ (kq : Nat) (x117_63 : Bool), v117 = .bool x117_63 ∧ Aside0 (exactpplref06_wrong.j4 kq x117_63 a0_0 a0_1 a0_2 a0_3 l0_4 = some r) ∧ Aside0 (kq ≤ kj6) ∧ Aside0 (wc.heap[gb269]? = some (.cells #[.int .i64 a0_0, .int .i64 a0_1, .int .i64 a0_2, .int .i64 a0_3, (.slice A0_4 l0_4.length c0_4)] 24 (0, 0))) ∧ Aside0 (Below w.heap.size w wc))
          case first =>
           have H := HC64.out
           clear HC64
           by_cases c65 : a0_3 < 1
           ·rw [if_pos c65] at H
            have c65b0 : decide (a0_3 < 1) = true := decide_eq_true c65
            clear c65
            (first | rw [c65b0] | (simp only [i64_w, i32_w]; rw [c65b0]) | skip)
            have H' := Aside0.mk H
            clear H
            obtain ⟨hcz66_0, hcz66_1, hcz66_2, hcz66_3, hcz66_4, hfz66_0, hfz66_1, hfz66_2, hfz66_3, hfz66_4⟩ := cf5_ BK269.out
            go_wp2
            go_meet
            case rel => exact ⟨_, (true), rs_, H', ⟨by have := HJ1.out; have := HJ6.out; first | omega | exact Nat.le_refl _⟩, ⟨bk_⟩, ⟨bl_⟩⟩
           ·rw [if_neg c65] at H
            have c65b0 : decide (a0_3 < 1) = false := decide_eq_false c65
            clear c65
            (first | rw [c65b0] | (simp only [i64_w, i32_w]; rw [c65b0]) | skip)
            have H' := Aside0.mk H
            clear H
            obtain ⟨hcz67_0, hcz67_1, hcz67_2, hcz67_3, hcz67_4, hfz67_0, hfz67_1, hfz67_2, hfz67_3, hfz67_4⟩ := cf5_ BK269.out
            go_wp2
            go_meet
            case rel => exact ⟨_, (decide (a0_3 > 4)), rs_, H', ⟨by have := HJ1.out; have := HJ6.out; first | omega | exact Nat.le_refl _⟩, ⟨bk_⟩, ⟨bl_⟩⟩
          case rest =>
           clear HC64
           try clear c1
           try clear c2
           try clear p2
           try clear q2
           try clear hx2
           try clear c3
           try clear c4
           try clear c5
           try clear c5b0
           try clear c6
           try clear p6
           try clear c8
           try clear c8b0
           try clear c8b1
           try clear c9
           try clear c9b0
           try clear c9b1
           try clear c10
           try clear c10b0
           try clear c12
           try clear c12b0
           try clear c12b1
           try clear c13
           try clear c13b0
           try clear c17
           try clear c17b0
           try clear c17b1
           try clear c18
           try clear c18b0
           try clear c18b1
           try clear c19
           try clear c19b0
           try clear c19b1
           try clear c20
           try clear c20b0
           try clear c23
           try clear c23b0
           try clear c23b1
           try clear c24
           try clear c24b0
           try clear c27
           try clear p27
           try clear q27
           try clear hx27
           try clear c30
           try clear c31
           try clear c31b0
           try clear c31b1
           try clear c32
           try clear c32b0
           try clear c34
           try clear c34b0
           try clear c36
           try clear c36b0
           try clear c39
           try clear c39b0
           try clear c39b1
           try clear c41
           try clear c41b0
           try clear c41b1
           try clear c44
           try clear c45
           try clear c45b0
           try clear c46
           try clear c46b0
           try clear c48
           try clear c48b0
           try clear c48b1
           try clear c49
           try clear c49b0
           try clear c49b1
           try clear c53
           try clear c53b0
           try clear c53b1
           try clear c63
           try clear c63b0
           try clear c63b1
           try clear p64
           try clear c65
           try clear c65b0
           try clear hcz11_0 hcz11_1 hcz11_2 hcz11_3 hcz11_4 hfz11_0 hfz11_1 hfz11_2 hfz11_3 hfz11_4
           try clear hcz14_0 hcz14_1 hcz14_2 hcz14_3 hcz14_4 hfz14_0 hfz14_1 hfz14_2 hfz14_3 hfz14_4
           try clear hcz15_0 hcz15_1 hcz15_2 hcz15_3 hcz15_4 hfz15_0 hfz15_1 hfz15_2 hfz15_3 hfz15_4
           try clear hcz16_0 hcz16_1 hcz16_2 hcz16_3 hcz16_4 hfz16_0 hfz16_1 hfz16_2 hfz16_3 hfz16_4
           try clear hcz21_0 hcz21_1 hcz21_2 hcz21_3 hcz21_4 hfz21_0 hfz21_1 hfz21_2 hfz21_3 hfz21_4
           try clear hcz22_0 hcz22_1 hcz22_2 hcz22_3 hcz22_4 hfz22_0 hfz22_1 hfz22_2 hfz22_3 hfz22_4
           try clear hcz25_0 hcz25_1 hcz25_2 hcz25_3 hcz25_4 hfz25_0 hfz25_1 hfz25_2 hfz25_3 hfz25_4
           try clear hcz26_0 hcz26_1 hcz26_2 hcz26_3 hcz26_4 hfz26_0 hfz26_1 hfz26_2 hfz26_3 hfz26_4
           try clear hcz27_0 hcz27_1 hcz27_2 hcz27_3 hcz27_4 hfz27_0 hfz27_1 hfz27_2 hfz27_3 hfz27_4
           try clear hcz28_0 hcz28_1 hcz28_2 hcz28_3 hcz28_4 hfz28_0 hfz28_1 hfz28_2 hfz28_3 hfz28_4
           try clear hcz29_0 hcz29_1 hcz29_2 hcz29_3 hcz29_4 hfz29_0 hfz29_1 hfz29_2 hfz29_3 hfz29_4
           try clear hcz33_0 hcz33_1 hcz33_2 hcz33_3 hcz33_4 hfz33_0 hfz33_1 hfz33_2 hfz33_3 hfz33_4
           try clear hcz35_0 hcz35_1 hcz35_2 hcz35_3 hcz35_4 hfz35_0 hfz35_1 hfz35_2 hfz35_3 hfz35_4
           try clear hcz37_0 hcz37_1 hcz37_2 hcz37_3 hcz37_4 hfz37_0 hfz37_1 hfz37_2 hfz37_3 hfz37_4
           try clear hcz38_0 hcz38_1 hcz38_2 hcz38_3 hcz38_4 hfz38_0 hfz38_1 hfz38_2 hfz38_3 hfz38_4
           try clear hcz42_0 hcz42_1 hcz42_2 hcz42_3 hcz42_4 hfz42_0 hfz42_1 hfz42_2 hfz42_3 hfz42_4
           try clear hcz43_0 hcz43_1 hcz43_2 hcz43_3 hcz43_4 hfz43_0 hfz43_1 hfz43_2 hfz43_3 hfz43_4
           try clear hcz4_0 hcz4_1 hcz4_2 hcz4_3 hcz4_4 hfz4_0 hfz4_1 hfz4_2 hfz4_3 hfz4_4
           try clear hcz50_0 hcz50_1 hcz50_2 hcz50_3 hcz50_4 hfz50_0 hfz50_1 hfz50_2 hfz50_3 hfz50_4
           try clear hcz52_0 hcz52_1 hcz52_2 hcz52_3 hcz52_4 hfz52_0 hfz52_1 hfz52_2 hfz52_3 hfz52_4
           try clear hcz54_0 hcz54_1 hcz54_2 hcz54_3 hcz54_4 hfz54_0 hfz54_1 hfz54_2 hfz54_3 hfz54_4
           try clear hcz56_0 hcz56_1 hcz56_2 hcz56_3 hcz56_4 hfz56_0 hfz56_1 hfz56_2 hfz56_3 hfz56_4
           try clear hcz57_0 hcz57_1 hcz57_2 hcz57_3 hcz57_4 hfz57_0 hfz57_1 hfz57_2 hfz57_3 hfz57_4
           try clear hcz59_0 hcz59_1 hcz59_2 hcz59_3 hcz59_4 hfz59_0 hfz59_1 hfz59_2 hfz59_3 hfz59_4
           try clear hcz60_0 hcz60_1 hcz60_2 hcz60_3 hcz60_4 hfz60_0 hfz60_1 hfz60_2 hfz60_3 hfz60_4
           try clear hcz62_0 hcz62_1 hcz62_2 hcz62_3 hcz62_4 hfz62_0 hfz62_1 hfz62_2 hfz62_3 hfz62_4
           try clear hcz66_0 hcz66_1 hcz66_2 hcz66_3 hcz66_4 hfz66_0 hfz66_1 hfz66_2 hfz66_3 hfz66_4
           try clear hcz67_0 hcz67_1 hcz67_2 hcz67_3 hcz67_4 hfz67_0 hfz67_1 hfz67_2 hfz67_3 hfz67_4
           try clear hx270_0
           try clear hx270_1
           try clear hx270_2
           try clear hx270_3
           try clear hx270_4
           try clear hx272_0
           try clear hx272_1
           try clear hx272_2
           try clear hx272_3
           try clear hx272_4
           try clear hx273_0
           try clear hx273_1
           try clear hx273_2
           try clear hx273_3
           try clear hx273_4
           try clear p2
           try clear p270
           try clear p272
           try clear p273
           try clear q270
           try clear q272
           try clear q273
           obtain ⟨kq, x117_63, rfl, HA, HJ63, BK269, HB⟩ := hcut
           cases kq with
           | zero => exact absurd HA.out (by simp [exactpplref06_wrong.j4])
           | succ kj63 =>
            have H := HA.out
            clear HA
            simp only [exactpplref06_wrong.j4] at H
            by_cases c68 : x117_63 = true
            ·subst c68
             have H1 : (some 1) = some r := by rw [if_pos rfl] at H; exact H
             clear H
             have H := H1
             clear H1
             obtain rfl := Option.some.inj H
             go_wp2
             go_ret
             exact ⟨re_, bl_⟩
            ·replace c68 := Bool.eq_false_iff.mpr c68
             subst c68
             have H1 : (if (l0_4.length : Int) = 1 then (if 0 < (l0_4.length : Int) then ((exactpplref06_wrong.f kj63 ((rd_T24 l0_4 0).f0) ((rd_T24 l0_4 0).f1) ((rd_T24 l0_4 0).f2) ((rd_T24 l0_4 0).f3) ((rd_T24 l0_4 0).f4)).bind fun t275 => (if t275 = 0 then (if ((rd_T24 l0_4 0).f0) = 1 then (some 0) else (if ((rd_T24 l0_4 0).f0) = 2 then (some 0) else (some 8))) else (some t275))) else (none)) else (some 2)) = some r := by rw [if_neg (show ¬ (false = true) by decide)] at H; exact H
             clear H
             have H := H1
             clear H1
             by_cases c69 : (l0_4.length : Int) = 1
             ·rw [if_pos c69] at H
              have c69b0 : ((l0_4.length : Int) == 1) = true := beq_iff_eq.mpr c69
              have c69b1 : ((l0_4.length : Int) != 1) = false := bne_eq_false_iff_eq.mpr c69
              clear c69
              by_cases c70 : 0 < (l0_4.length : Int)
              ·rw [if_pos c70] at H
               have c70b0 : decide (0 < (l0_4.length : Int)) = true := decide_eq_true c70
               have c70b1 : decide (0 < l0_4.length) = true := decide_eq_true (by omega)
               clear c70
               replace H := Option.bind_eq_some_iff.mp H
               obtain ⟨t275, A710, H⟩ := H
               replace H : (if t275 = 0 then (if ((rd_T24 l0_4 0).f0) = 1 then (some 0) else (if ((rd_T24 l0_4 0).f0) = 2 then (some 0) else (some 8))) else (some t275)) = some r := H
               have A71 := Aside0.mk A710
               clear A710
               by_cases c72 : t275 = 0
               ·rw [if_pos c72] at H
                have c72b0 : (t275 == 0) = true := beq_iff_eq.mpr c72
                have c72b1 : (t275 != 0) = false := bne_eq_false_iff_eq.mpr c72
                clear c72
                by_cases c73 : ((rd_T24 l0_4 0).f0) = 1
                ·rw [if_pos c73] at H
                 have c73b0 : (((rd_T24 l0_4 0).f0) == 1) = true := beq_iff_eq.mpr c73
                 have c73b1 : (((rd_T24 l0_4 0).f0) != 1) = false := bne_eq_false_iff_eq.mpr c73
                 clear c73
                 obtain rfl := Option.some.inj H
                 obtain ⟨hcz74_0, hcz74_1, hcz74_2, hcz74_3, hcz74_4, hfz74_0, hfz74_1, hfz74_2, hfz74_3, hfz74_4⟩ := cf5_ BK269.out
                 have p274 : 0 ≤ (0 : Int) := (by omega)
                 have q274 : 0 < (l0_4.length : Int) := dt_
                 obtain ⟨ad274, A274_4, c274_4, e274, hx274_0, hx274_1, hx274_2, hx274_3, hx274_4, hl274_4, hi274_4⟩ := at_T24 HR0_4.out 0 p274 q274
                 cases e274
                 have qi274 : (0 < l0_4.length) = True := eq_true (by omega)
                 (try rw [show ((0 : Int)).toNat = 0 from rfl] at hx274_0)
                 (try rw [show 0 * 5 = 0 from rfl] at hx274_0)
                 (try rw [Addr.add_zero'] at hx274_0)
                 (try rw [show ((0 : Int)).toNat = 0 from rfl] at hx274_1)
                 (try rw [show 0 * 5 = 0 from rfl] at hx274_1)
                 (try rw [Addr.add_zero'] at hx274_1)
                 (try rw [show ((0 : Int)).toNat = 0 from rfl] at hx274_2)
                 (try rw [show 0 * 5 = 0 from rfl] at hx274_2)
                 (try rw [Addr.add_zero'] at hx274_2)
                 (try rw [show ((0 : Int)).toNat = 0 from rfl] at hx274_3)
                 (try rw [show 0 * 5 = 0 from rfl] at hx274_3)
                 (try rw [Addr.add_zero'] at hx274_3)
                 (try rw [show ((0 : Int)).toNat = 0 from rfl] at hx274_4)
                 (try rw [show 0 * 5 = 0 from rfl] at hx274_4)
                 (try rw [Addr.add_zero'] at hx274_4)
                 replace hx274_0 := (HB.out.cell (World.block_lt_of_cell? w _ hx274_0)).trans hx274_0
                 replace hx274_1 := (HB.out.cell (World.block_lt_of_cell? w _ hx274_1)).trans hx274_1
                 replace hx274_2 := (HB.out.cell (World.block_lt_of_cell? w _ hx274_2)).trans hx274_2
                 replace hx274_3 := (HB.out.cell (World.block_lt_of_cell? w _ hx274_3)).trans hx274_3
                 replace hx274_4 := (HB.out.cell (World.block_lt_of_cell? w _ hx274_4)).trans hx274_4
                 have HR274_4 := Aside0.mk hi274_4
                 have HC274_4 := Aside0.mk hl274_4
                 clear hi274_4 hl274_4
                 replace p274 := eq_true p274
                 replace q274 := eq_true q274
                 go_wp2_with (first | ((with_reducible refine gate_callee (f := 46) rfl ?_); refine goesL_ (some 126) rfl rfl Tryd.func46 (by kernel_rfl) rfl #[.agg #[.int .i64 ((rd_T24 l0_4 0).f0), .int .i64 ((rd_T24 l0_4 0).f1), .int .i64 ((rd_T24 l0_4 0).f2), .int .i64 ((rd_T24 l0_4 0).f3), .slice A274_4 ((rd_T24 l0_4 0).f4).length c274_4]] rfl (by (try simp only [List.map_toArray, List.map_cons, List.map_nil]); first | done | rfl | (simp only [List.length_drop, List.length_take]; rfl)) ?_; (with_reducible refine (ih kj63 (by have := HJ1.out; have := HJ6.out; have := HJ63.out; omega) ((rd_T24 l0_4 0).f0) ((rd_T24 l0_4 0).f1) ((rd_T24 l0_4 0).f2) ((rd_T24 l0_4 0).f3) _ _ ((rd_T24 l0_4 0).f4) t275 _ ?side1 ?side2 A71.out).mono ?_); (case side1 => repeat (first | exact (Kd.C_below HR274_4.out HB.out) | (with_reducible refine Kd.C_alloc ?_ _) | (with_reducible refine Kd.C_drewN ?_ _) | (with_reducible refine Kd.C_drew ?_))); (case side2 => exact HC274_4.out); rintro e w75 ⟨rfl, hb⟩; refine ⟨_, rfl, ?_⟩; replace BK269 := Aside0.mk (blk_below (g := gb269) (o := .cells #[.int .i64 a0_0, .int .i64 a0_1, .int .i64 a0_2, .int .i64 a0_3, .slice (some ad274) l0_4.length c0_4] 24 (0, 0)) bk_ hb); replace HB := Aside0.mk (below_step bl_ hb); (try clear hb); (try clear hb2); (try clear hk); (try clear hi); obtain ⟨hcz76_0, hcz76_1, hcz76_2, hcz76_3, hcz76_4, hfz76_0, hfz76_1, hfz76_2, hfz76_3, hfz76_4⟩ := cf5_ BK269.out; have p276 : 0 ≤ (0 : Int) := (by omega); have q276 : 0 < (l0_4.length : Int) := dt_; obtain ⟨ad276, A276_4, c276_4, e276, hx276_0, hx276_1, hx276_2, hx276_3, hx276_4, hl276_4, hi276_4⟩ := at_T24 HR0_4.out 0 p276 q276; obtain rfl : ad274 = ad276 := (by injection e276); have qi276 : (0 < l0_4.length) = True := eq_true (by omega); (try rw [show ((0 : Int)).toNat = 0 from rfl] at hx276_0); (try rw [show 0 * 5 = 0 from rfl] at hx276_0); (try rw [Addr.add_zero'] at hx276_0); (try rw [show ((0 : Int)).toNat = 0 from rfl] at hx276_1); (try rw [show 0 * 5 = 0 from rfl] at hx276_1); (try rw [Addr.add_zero'] at hx276_1); (try rw [show ((0 : Int)).toNat = 0 from rfl] at hx276_2); (try rw [show 0 * 5 = 0 from rfl] at hx276_2); (try rw [Addr.add_zero'] at hx276_2); (try rw [show ((0 : Int)).toNat = 0 from rfl] at hx276_3); (try rw [show 0 * 5 = 0 from rfl] at hx276_3); (try rw [Addr.add_zero'] at hx276_3); (try rw [show ((0 : Int)).toNat = 0 from rfl] at hx276_4); (try rw [show 0 * 5 = 0 from rfl] at hx276_4); (try rw [Addr.add_zero'] at hx276_4); replace hx276_0 := (HB.out.cell (World.block_lt_of_cell? w _ hx276_0)).trans hx276_0; replace hx276_1 := (HB.out.cell (World.block_lt_of_cell? w _ hx276_1)).trans hx276_1; replace hx276_2 := (HB.out.cell (World.block_lt_of_cell? w _ hx276_2)).trans hx276_2; replace hx276_3 := (HB.out.cell (World.block_lt_of_cell? w _ hx276_3)).trans hx276_3; replace hx276_4 := (HB.out.cell (World.block_lt_of_cell? w _ hx276_4)).trans hx276_4; have HR276_4 := Aside0.mk hi276_4; have HC276_4 := Aside0.mk hl276_4; clear hi276_4 hl276_4; replace p276 := eq_true p276; replace q276 := eq_true q276))
                 go_ret
                 exact ⟨re_, bl_⟩
                ·rw [if_neg c73] at H
                 have c73b0 : (((rd_T24 l0_4 0).f0) == 1) = false := beq_eq_false_iff_ne.mpr c73
                 have c73b1 : (((rd_T24 l0_4 0).f0) != 1) = true := bne_iff_ne.mpr c73
                 by_cases c77 : ((rd_T24 l0_4 0).f0) = 2
                 ·rw [if_pos c77] at H
                  have c77b0 : (((rd_T24 l0_4 0).f0) == 2) = true := beq_iff_eq.mpr c77
                  have c77b1 : (((rd_T24 l0_4 0).f0) != 2) = false := bne_eq_false_iff_eq.mpr c77
                  clear c77
                  obtain rfl := Option.some.inj H
                  obtain ⟨hcz78_0, hcz78_1, hcz78_2, hcz78_3, hcz78_4, hfz78_0, hfz78_1, hfz78_2, hfz78_3, hfz78_4⟩ := cf5_ BK269.out
                  have p274 : 0 ≤ (0 : Int) := (by omega)
                  have q274 : 0 < (l0_4.length : Int) := dt_
                  obtain ⟨ad274, A274_4, c274_4, e274, hx274_0, hx274_1, hx274_2, hx274_3, hx274_4, hl274_4, hi274_4⟩ := at_T24 HR0_4.out 0 p274 q274
                  cases e274
                  have qi274 : (0 < l0_4.length) = True := eq_true (by omega)
                  (try rw [show ((0 : Int)).toNat = 0 from rfl] at hx274_0)
                  (try rw [show 0 * 5 = 0 from rfl] at hx274_0)
                  (try rw [Addr.add_zero'] at hx274_0)
                  (try rw [show ((0 : Int)).toNat = 0 from rfl] at hx274_1)
                  (try rw [show 0 * 5 = 0 from rfl] at hx274_1)
                  (try rw [Addr.add_zero'] at hx274_1)
                  (try rw [show ((0 : Int)).toNat = 0 from rfl] at hx274_2)
                  (try rw [show 0 * 5 = 0 from rfl] at hx274_2)
                  (try rw [Addr.add_zero'] at hx274_2)
                  (try rw [show ((0 : Int)).toNat = 0 from rfl] at hx274_3)
                  (try rw [show 0 * 5 = 0 from rfl] at hx274_3)
                  (try rw [Addr.add_zero'] at hx274_3)
                  (try rw [show ((0 : Int)).toNat = 0 from rfl] at hx274_4)
                  (try rw [show 0 * 5 = 0 from rfl] at hx274_4)
                  (try rw [Addr.add_zero'] at hx274_4)
                  replace hx274_0 := (HB.out.cell (World.block_lt_of_cell? w _ hx274_0)).trans hx274_0
                  replace hx274_1 := (HB.out.cell (World.block_lt_of_cell? w _ hx274_1)).trans hx274_1
                  replace hx274_2 := (HB.out.cell (World.block_lt_of_cell? w _ hx274_2)).trans hx274_2
                  replace hx274_3 := (HB.out.cell (World.block_lt_of_cell? w _ hx274_3)).trans hx274_3
                  replace hx274_4 := (HB.out.cell (World.block_lt_of_cell? w _ hx274_4)).trans hx274_4
                  have HR274_4 := Aside0.mk hi274_4
                  have HC274_4 := Aside0.mk hl274_4
                  clear hi274_4 hl274_4
                  replace p274 := eq_true p274
                  replace q274 := eq_true q274
                  go_wp2_with (first | ((with_reducible refine gate_callee (f := 46) rfl ?_); refine goesL_ (some 126) rfl rfl Tryd.func46 (by kernel_rfl) rfl #[.agg #[.int .i64 ((rd_T24 l0_4 0).f0), .int .i64 ((rd_T24 l0_4 0).f1), .int .i64 ((rd_T24 l0_4 0).f2), .int .i64 ((rd_T24 l0_4 0).f3), .slice A274_4 ((rd_T24 l0_4 0).f4).length c274_4]] rfl (by (try simp only [List.map_toArray, List.map_cons, List.map_nil]); first | done | rfl | (simp only [List.length_drop, List.length_take]; rfl)) ?_; (with_reducible refine (ih kj63 (by have := HJ1.out; have := HJ6.out; have := HJ63.out; omega) ((rd_T24 l0_4 0).f0) ((rd_T24 l0_4 0).f1) ((rd_T24 l0_4 0).f2) ((rd_T24 l0_4 0).f3) _ _ ((rd_T24 l0_4 0).f4) t275 _ ?side1 ?side2 A71.out).mono ?_); (case side1 => repeat (first | exact (Kd.C_below HR274_4.out HB.out) | (with_reducible refine Kd.C_alloc ?_ _) | (with_reducible refine Kd.C_drewN ?_ _) | (with_reducible refine Kd.C_drew ?_))); (case side2 => exact HC274_4.out); rintro e w79 ⟨rfl, hb⟩; refine ⟨_, rfl, ?_⟩; replace BK269 := Aside0.mk (blk_below (g := gb269) (o := .cells #[.int .i64 a0_0, .int .i64 a0_1, .int .i64 a0_2, .int .i64 a0_3, .slice (some ad274) l0_4.length c0_4] 24 (0, 0)) bk_ hb); replace HB := Aside0.mk (below_step bl_ hb); (try clear hb); (try clear hb2); (try clear hk); (try clear hi); obtain ⟨hcz80_0, hcz80_1, hcz80_2, hcz80_3, hcz80_4, hfz80_0, hfz80_1, hfz80_2, hfz80_3, hfz80_4⟩ := cf5_ BK269.out; have p276 : 0 ≤ (0 : Int) := (by omega); have q276 : 0 < (l0_4.length : Int) := dt_; obtain ⟨ad276, A276_4, c276_4, e276, hx276_0, hx276_1, hx276_2, hx276_3, hx276_4, hl276_4, hi276_4⟩ := at_T24 HR0_4.out 0 p276 q276; obtain rfl : ad274 = ad276 := (by injection e276); have qi276 : (0 < l0_4.length) = True := eq_true (by omega); (try rw [show ((0 : Int)).toNat = 0 from rfl] at hx276_0); (try rw [show 0 * 5 = 0 from rfl] at hx276_0); (try rw [Addr.add_zero'] at hx276_0); (try rw [show ((0 : Int)).toNat = 0 from rfl] at hx276_1); (try rw [show 0 * 5 = 0 from rfl] at hx276_1); (try rw [Addr.add_zero'] at hx276_1); (try rw [show ((0 : Int)).toNat = 0 from rfl] at hx276_2); (try rw [show 0 * 5 = 0 from rfl] at hx276_2); (try rw [Addr.add_zero'] at hx276_2); (try rw [show ((0 : Int)).toNat = 0 from rfl] at hx276_3); (try rw [show 0 * 5 = 0 from rfl] at hx276_3); (try rw [Addr.add_zero'] at hx276_3); (try rw [show ((0 : Int)).toNat = 0 from rfl] at hx276_4); (try rw [show 0 * 5 = 0 from rfl] at hx276_4); (try rw [Addr.add_zero'] at hx276_4); replace hx276_0 := (HB.out.cell (World.block_lt_of_cell? w _ hx276_0)).trans hx276_0; replace hx276_1 := (HB.out.cell (World.block_lt_of_cell? w _ hx276_1)).trans hx276_1; replace hx276_2 := (HB.out.cell (World.block_lt_of_cell? w _ hx276_2)).trans hx276_2; replace hx276_3 := (HB.out.cell (World.block_lt_of_cell? w _ hx276_3)).trans hx276_3; replace hx276_4 := (HB.out.cell (World.block_lt_of_cell? w _ hx276_4)).trans hx276_4; have HR276_4 := Aside0.mk hi276_4; have HC276_4 := Aside0.mk hl276_4; clear hi276_4 hl276_4; replace p276 := eq_true p276; replace q276 := eq_true q276; have p277 : 0 ≤ (0 : Int) := (by omega); have q277 : 0 < (l0_4.length : Int) := dt_; obtain ⟨ad277, A277_4, c277_4, e277, hx277_0, hx277_1, hx277_2, hx277_3, hx277_4, hl277_4, hi277_4⟩ := at_T24 HR0_4.out 0 p277 q277; obtain rfl : ad274 = ad277 := (by injection e277); have qi277 : (0 < l0_4.length) = True := eq_true (by omega); (try rw [show ((0 : Int)).toNat = 0 from rfl] at hx277_0); (try rw [show 0 * 5 = 0 from rfl] at hx277_0); (try rw [Addr.add_zero'] at hx277_0); (try rw [show ((0 : Int)).toNat = 0 from rfl] at hx277_1); (try rw [show 0 * 5 = 0 from rfl] at hx277_1); (try rw [Addr.add_zero'] at hx277_1); (try rw [show ((0 : Int)).toNat = 0 from rfl] at hx277_2); (try rw [show 0 * 5 = 0 from rfl] at hx277_2); (try rw [Addr.add_zero'] at hx277_2); (try rw [show ((0 : Int)).toNat = 0 from rfl] at hx277_3); (try rw [show 0 * 5 = 0 from rfl] at hx277_3); (try rw [Addr.add_zero'] at hx277_3); (try rw [show ((0 : Int)).toNat = 0 from rfl] at hx277_4); (try rw [show 0 * 5 = 0 from rfl] at hx277_4); (try rw [Addr.add_zero'] at hx277_4); replace hx277_0 := (HB.out.cell (World.block_lt_of_cell? w _ hx277_0)).trans hx277_0; replace hx277_1 := (HB.out.cell (World.block_lt_of_cell? w _ hx277_1)).trans hx277_1; replace hx277_2 := (HB.out.cell (World.block_lt_of_cell? w _ hx277_2)).trans hx277_2; replace hx277_3 := (HB.out.cell (World.block_lt_of_cell? w _ hx277_3)).trans hx277_3; replace hx277_4 := (HB.out.cell (World.block_lt_of_cell? w _ hx277_4)).trans hx277_4; have HR277_4 := Aside0.mk hi277_4; have HC277_4 := Aside0.mk hl277_4; clear hi277_4 hl277_4; replace p277 := eq_true p277; replace q277 := eq_true q277; have ea_ := Option.some.inj (hx276_4.symm.trans hx277_4); injection ea_ with ea_ en_ ec_; subst ea_; subst ec_; clear en_))
                  go_ret
                  exact ⟨re_, bl_⟩
                 ·rw [if_neg c77] at H
                  have c77b0 : (((rd_T24 l0_4 0).f0) == 2) = false := beq_eq_false_iff_ne.mpr c77
                  have c77b1 : (((rd_T24 l0_4 0).f0) != 2) = true := bne_iff_ne.mpr c77
                  obtain rfl := Option.some.inj H
                  obtain ⟨hcz81_0, hcz81_1, hcz81_2, hcz81_3, hcz81_4, hfz81_0, hfz81_1, hfz81_2, hfz81_3, hfz81_4⟩ := cf5_ BK269.out
                  have p274 : 0 ≤ (0 : Int) := (by omega)
                  have q274 : 0 < (l0_4.length : Int) := dt_
                  obtain ⟨ad274, A274_4, c274_4, e274, hx274_0, hx274_1, hx274_2, hx274_3, hx274_4, hl274_4, hi274_4⟩ := at_T24 HR0_4.out 0 p274 q274
                  cases e274
                  have qi274 : (0 < l0_4.length) = True := eq_true (by omega)
                  (try rw [show ((0 : Int)).toNat = 0 from rfl] at hx274_0)
                  (try rw [show 0 * 5 = 0 from rfl] at hx274_0)
                  (try rw [Addr.add_zero'] at hx274_0)
                  (try rw [show ((0 : Int)).toNat = 0 from rfl] at hx274_1)
                  (try rw [show 0 * 5 = 0 from rfl] at hx274_1)
                  (try rw [Addr.add_zero'] at hx274_1)
                  (try rw [show ((0 : Int)).toNat = 0 from rfl] at hx274_2)
                  (try rw [show 0 * 5 = 0 from rfl] at hx274_2)
                  (try rw [Addr.add_zero'] at hx274_2)
                  (try rw [show ((0 : Int)).toNat = 0 from rfl] at hx274_3)
                  (try rw [show 0 * 5 = 0 from rfl] at hx274_3)
                  (try rw [Addr.add_zero'] at hx274_3)
                  (try rw [show ((0 : Int)).toNat = 0 from rfl] at hx274_4)
                  (try rw [show 0 * 5 = 0 from rfl] at hx274_4)
                  (try rw [Addr.add_zero'] at hx274_4)
                  replace hx274_0 := (HB.out.cell (World.block_lt_of_cell? w _ hx274_0)).trans hx274_0
                  replace hx274_1 := (HB.out.cell (World.block_lt_of_cell? w _ hx274_1)).trans hx274_1
                  replace hx274_2 := (HB.out.cell (World.block_lt_of_cell? w _ hx274_2)).trans hx274_2
                  replace hx274_3 := (HB.out.cell (World.block_lt_of_cell? w _ hx274_3)).trans hx274_3
                  replace hx274_4 := (HB.out.cell (World.block_lt_of_cell? w _ hx274_4)).trans hx274_4
                  have HR274_4 := Aside0.mk hi274_4
                  have HC274_4 := Aside0.mk hl274_4
                  clear hi274_4 hl274_4
                  replace p274 := eq_true p274
                  replace q274 := eq_true q274
                  go_wp2_with (first | ((with_reducible refine gate_callee (f := 46) rfl ?_); refine goesL_ (some 126) rfl rfl Tryd.func46 (by kernel_rfl) rfl #[.agg #[.int .i64 ((rd_T24 l0_4 0).f0), .int .i64 ((rd_T24 l0_4 0).f1), .int .i64 ((rd_T24 l0_4 0).f2), .int .i64 ((rd_T24 l0_4 0).f3), .slice A274_4 ((rd_T24 l0_4 0).f4).length c274_4]] rfl (by (try simp only [List.map_toArray, List.map_cons, List.map_nil]); first | done | rfl | (simp only [List.length_drop, List.length_take]; rfl)) ?_; (with_reducible refine (ih kj63 (by have := HJ1.out; have := HJ6.out; have := HJ63.out; omega) ((rd_T24 l0_4 0).f0) ((rd_T24 l0_4 0).f1) ((rd_T24 l0_4 0).f2) ((rd_T24 l0_4 0).f3) _ _ ((rd_T24 l0_4 0).f4) t275 _ ?side1 ?side2 A71.out).mono ?_); (case side1 => repeat (first | exact (Kd.C_below HR274_4.out HB.out) | (with_reducible refine Kd.C_alloc ?_ _) | (with_reducible refine Kd.C_drewN ?_ _) | (with_reducible refine Kd.C_drew ?_))); (case side2 => exact HC274_4.out); rintro e w82 ⟨rfl, hb⟩; refine ⟨_, rfl, ?_⟩; replace BK269 := Aside0.mk (blk_below (g := gb269) (o := .cells #[.int .i64 a0_0, .int .i64 a0_1, .int .i64 a0_2, .int .i64 a0_3, .slice (some ad274) l0_4.length c0_4] 24 (0, 0)) bk_ hb); replace HB := Aside0.mk (below_step bl_ hb); (try clear hb); (try clear hb2); (try clear hk); (try clear hi); obtain ⟨hcz83_0, hcz83_1, hcz83_2, hcz83_3, hcz83_4, hfz83_0, hfz83_1, hfz83_2, hfz83_3, hfz83_4⟩ := cf5_ BK269.out; have p276 : 0 ≤ (0 : Int) := (by omega); have q276 : 0 < (l0_4.length : Int) := dt_; obtain ⟨ad276, A276_4, c276_4, e276, hx276_0, hx276_1, hx276_2, hx276_3, hx276_4, hl276_4, hi276_4⟩ := at_T24 HR0_4.out 0 p276 q276; obtain rfl : ad274 = ad276 := (by injection e276); have qi276 : (0 < l0_4.length) = True := eq_true (by omega); (try rw [show ((0 : Int)).toNat = 0 from rfl] at hx276_0); (try rw [show 0 * 5 = 0 from rfl] at hx276_0); (try rw [Addr.add_zero'] at hx276_0); (try rw [show ((0 : Int)).toNat = 0 from rfl] at hx276_1); (try rw [show 0 * 5 = 0 from rfl] at hx276_1); (try rw [Addr.add_zero'] at hx276_1); (try rw [show ((0 : Int)).toNat = 0 from rfl] at hx276_2); (try rw [show 0 * 5 = 0 from rfl] at hx276_2); (try rw [Addr.add_zero'] at hx276_2); (try rw [show ((0 : Int)).toNat = 0 from rfl] at hx276_3); (try rw [show 0 * 5 = 0 from rfl] at hx276_3); (try rw [Addr.add_zero'] at hx276_3); (try rw [show ((0 : Int)).toNat = 0 from rfl] at hx276_4); (try rw [show 0 * 5 = 0 from rfl] at hx276_4); (try rw [Addr.add_zero'] at hx276_4); replace hx276_0 := (HB.out.cell (World.block_lt_of_cell? w _ hx276_0)).trans hx276_0; replace hx276_1 := (HB.out.cell (World.block_lt_of_cell? w _ hx276_1)).trans hx276_1; replace hx276_2 := (HB.out.cell (World.block_lt_of_cell? w _ hx276_2)).trans hx276_2; replace hx276_3 := (HB.out.cell (World.block_lt_of_cell? w _ hx276_3)).trans hx276_3; replace hx276_4 := (HB.out.cell (World.block_lt_of_cell? w _ hx276_4)).trans hx276_4; have HR276_4 := Aside0.mk hi276_4; have HC276_4 := Aside0.mk hl276_4; clear hi276_4 hl276_4; replace p276 := eq_true p276; replace q276 := eq_true q276; have p277 : 0 ≤ (0 : Int) := (by omega); have q277 : 0 < (l0_4.length : Int) := dt_; obtain ⟨ad277, A277_4, c277_4, e277, hx277_0, hx277_1, hx277_2, hx277_3, hx277_4, hl277_4, hi277_4⟩ := at_T24 HR0_4.out 0 p277 q277; obtain rfl : ad274 = ad277 := (by injection e277); have qi277 : (0 < l0_4.length) = True := eq_true (by omega); (try rw [show ((0 : Int)).toNat = 0 from rfl] at hx277_0); (try rw [show 0 * 5 = 0 from rfl] at hx277_0); (try rw [Addr.add_zero'] at hx277_0); (try rw [show ((0 : Int)).toNat = 0 from rfl] at hx277_1); (try rw [show 0 * 5 = 0 from rfl] at hx277_1); (try rw [Addr.add_zero'] at hx277_1); (try rw [show ((0 : Int)).toNat = 0 from rfl] at hx277_2); (try rw [show 0 * 5 = 0 from rfl] at hx277_2); (try rw [Addr.add_zero'] at hx277_2); (try rw [show ((0 : Int)).toNat = 0 from rfl] at hx277_3); (try rw [show 0 * 5 = 0 from rfl] at hx277_3); (try rw [Addr.add_zero'] at hx277_3); (try rw [show ((0 : Int)).toNat = 0 from rfl] at hx277_4); (try rw [show 0 * 5 = 0 from rfl] at hx277_4); (try rw [Addr.add_zero'] at hx277_4); replace hx277_0 := (HB.out.cell (World.block_lt_of_cell? w _ hx277_0)).trans hx277_0; replace hx277_1 := (HB.out.cell (World.block_lt_of_cell? w _ hx277_1)).trans hx277_1; replace hx277_2 := (HB.out.cell (World.block_lt_of_cell? w _ hx277_2)).trans hx277_2; replace hx277_3 := (HB.out.cell (World.block_lt_of_cell? w _ hx277_3)).trans hx277_3; replace hx277_4 := (HB.out.cell (World.block_lt_of_cell? w _ hx277_4)).trans hx277_4; have HR277_4 := Aside0.mk hi277_4; have HC277_4 := Aside0.mk hl277_4; clear hi277_4 hl277_4; replace p277 := eq_true p277; replace q277 := eq_true q277; have ea_ := Option.some.inj (hx276_4.symm.trans hx277_4); injection ea_ with ea_ en_ ec_; subst ea_; subst ec_; clear en_))
                  go_ret
                  exact ⟨re_, bl_⟩
               ·rw [if_neg c72] at H
                have c72b0 : (t275 == 0) = false := beq_eq_false_iff_ne.mpr c72
                have c72b1 : (t275 != 0) = true := bne_iff_ne.mpr c72
                obtain rfl := Option.some.inj H
                obtain ⟨hcz84_0, hcz84_1, hcz84_2, hcz84_3, hcz84_4, hfz84_0, hfz84_1, hfz84_2, hfz84_3, hfz84_4⟩ := cf5_ BK269.out
                have p274 : 0 ≤ (0 : Int) := (by omega)
                have q274 : 0 < (l0_4.length : Int) := dt_
                obtain ⟨ad274, A274_4, c274_4, e274, hx274_0, hx274_1, hx274_2, hx274_3, hx274_4, hl274_4, hi274_4⟩ := at_T24 HR0_4.out 0 p274 q274
                cases e274
                have qi274 : (0 < l0_4.length) = True := eq_true (by omega)
                (try rw [show ((0 : Int)).toNat = 0 from rfl] at hx274_0)
                (try rw [show 0 * 5 = 0 from rfl] at hx274_0)
                (try rw [Addr.add_zero'] at hx274_0)
                (try rw [show ((0 : Int)).toNat = 0 from rfl] at hx274_1)
                (try rw [show 0 * 5 = 0 from rfl] at hx274_1)
                (try rw [Addr.add_zero'] at hx274_1)
                (try rw [show ((0 : Int)).toNat = 0 from rfl] at hx274_2)
                (try rw [show 0 * 5 = 0 from rfl] at hx274_2)
                (try rw [Addr.add_zero'] at hx274_2)
                (try rw [show ((0 : Int)).toNat = 0 from rfl] at hx274_3)
                (try rw [show 0 * 5 = 0 from rfl] at hx274_3)
                (try rw [Addr.add_zero'] at hx274_3)
                (try rw [show ((0 : Int)).toNat = 0 from rfl] at hx274_4)
                (try rw [show 0 * 5 = 0 from rfl] at hx274_4)
                (try rw [Addr.add_zero'] at hx274_4)
                replace hx274_0 := (HB.out.cell (World.block_lt_of_cell? w _ hx274_0)).trans hx274_0
                replace hx274_1 := (HB.out.cell (World.block_lt_of_cell? w _ hx274_1)).trans hx274_1
                replace hx274_2 := (HB.out.cell (World.block_lt_of_cell? w _ hx274_2)).trans hx274_2
                replace hx274_3 := (HB.out.cell (World.block_lt_of_cell? w _ hx274_3)).trans hx274_3
                replace hx274_4 := (HB.out.cell (World.block_lt_of_cell? w _ hx274_4)).trans hx274_4
                have HR274_4 := Aside0.mk hi274_4
                have HC274_4 := Aside0.mk hl274_4
                clear hi274_4 hl274_4
                replace p274 := eq_true p274
                replace q274 := eq_true q274
                go_wp2_with (first | ((with_reducible refine gate_callee (f := 46) rfl ?_); refine goesL_ (some 126) rfl rfl Tryd.func46 (by kernel_rfl) rfl #[.agg #[.int .i64 ((rd_T24 l0_4 0).f0), .int .i64 ((rd_T24 l0_4 0).f1), .int .i64 ((rd_T24 l0_4 0).f2), .int .i64 ((rd_T24 l0_4 0).f3), .slice A274_4 ((rd_T24 l0_4 0).f4).length c274_4]] rfl (by (try simp only [List.map_toArray, List.map_cons, List.map_nil]); first | done | rfl | (simp only [List.length_drop, List.length_take]; rfl)) ?_; (with_reducible refine (ih kj63 (by have := HJ1.out; have := HJ6.out; have := HJ63.out; omega) ((rd_T24 l0_4 0).f0) ((rd_T24 l0_4 0).f1) ((rd_T24 l0_4 0).f2) ((rd_T24 l0_4 0).f3) _ _ ((rd_T24 l0_4 0).f4) t275 _ ?side1 ?side2 A71.out).mono ?_); (case side1 => repeat (first | exact (Kd.C_below HR274_4.out HB.out) | (with_reducible refine Kd.C_alloc ?_ _) | (with_reducible refine Kd.C_drewN ?_ _) | (with_reducible refine Kd.C_drew ?_))); (case side2 => exact HC274_4.out); rintro e w85 ⟨rfl, hb⟩; refine ⟨_, rfl, ?_⟩; replace BK269 := Aside0.mk (blk_below (g := gb269) (o := .cells #[.int .i64 a0_0, .int .i64 a0_1, .int .i64 a0_2, .int .i64 a0_3, .slice (some ad274) l0_4.length c0_4] 24 (0, 0)) bk_ hb); replace HB := Aside0.mk (below_step bl_ hb); (try clear hb); (try clear hb2); (try clear hk); (try clear hi)))
                go_ret
                exact ⟨re_, bl_⟩
              ·rw [if_neg c70] at H
               exact absurd H (by simp)
             ·rw [if_neg c69] at H
              have c69b0 : ((l0_4.length : Int) == 1) = false := beq_eq_false_iff_ne.mpr c69
              have c69b1 : ((l0_4.length : Int) != 1) = true := bne_iff_ne.mpr c69
              obtain rfl := Option.some.inj H
              obtain ⟨hcz86_0, hcz86_1, hcz86_2, hcz86_3, hcz86_4, hfz86_0, hfz86_1, hfz86_2, hfz86_3, hfz86_4⟩ := cf5_ BK269.out
              go_wp2
              go_ret
              exact ⟨re_, bl_⟩
         ·rw [if_neg c63] at H
          have c63b0 : (a0_0 == 6) = false := beq_eq_false_iff_ne.mpr c63
          have c63b1 : (a0_0 != 6) = true := bne_iff_ne.mpr c63
          obtain rfl := Option.some.inj H
          go_wp2
          go_ret
          exact ⟨re_, bl_⟩

end Go.Proofs.YtggelekooacmnaaDoor.Q
namespace Go.Proofs.YtggelekooacmnaaDoor.Q
open Go.RowKit Go.Proofs.YtggelekooacmnaaDoorW.PrintWords Go.Proofs.YtggelekooacmnaaDoorW.PrintLast Go.Proofs.YtggelekooacmnaaDoorW.PrintMore
attribute [local go_sem] max2_int min2_int max_two min_two max_three min_three max_four min_four   -- for this text's walks alone
set_option linter.unusedVariables false
set_option linter.unusedSimpArgs false

/-! ### exactpplref06_Parts: function 47 -/
mutual
def exactpplref06_Parts.j0 : Nat → Int → Bool → Int → Int → Int → Int → List (S24) → Option ((List (S41)))
 | 0, _, _, _, _, _, _, _ => none
 | k + 1, x8, x21, x279000, x279001, x279002, x279003, x279004 => if x21 = true then (some (([(⟨x279000, 0, 0⟩ : S41)] : List (S41)))) else (if x8 = 6 then (exactpplref06_Parts.l0 k (([(⟨2, 0, x279003⟩ : S41)] : List (S41))) 0 x279000 x279001 x279002 x279003 x279004) else (exactpplref06_Parts.l1 k ([] : List (S41)) 0 x279000 x279001 x279002 x279003 x279004))
def exactpplref06_Parts.l0 : Nat → List (S41) → Int → Int → Int → Int → Int → List (S24) → Option ((List (S41)))
 | 0, _, _, _, _, _, _, _ => none
 | k + 1, x3, x4, x279000, x279001, x279002, x279003, x279004 => if x4 < x279003 then (if 0 < (x279004.length : Int) then ((exactpplref06_Parts.f k ((rd_T24 x279004 0).f0) ((rd_T24 x279004 0).f1) ((rd_T24 x279004 0).f2) ((rd_T24 x279004 0).f3) ((rd_T24 x279004 0).f4)).bind fun t292 => (if x3.length + t292.length < 5864062014805 then (exactpplref06_Parts.l0 k (x3 ++ t292) (wrap64 (x4 + 1)) x279000 x279001 x279002 x279003 x279004) else (none))) else (none)) else (some x3)
def exactpplref06_Parts.l1 : Nat → List (S41) → Int → Int → Int → Int → Int → List (S24) → Option ((List (S41)))
 | 0, _, _, _, _, _, _, _ => none
 | k + 1, x5, x6, x279000, x279001, x279002, x279003, x279004 => if x6 < (x279004.length : Int) then (if 0 ≤ x6 then ((exactpplref06_Parts.f k ((rd_T24 x279004 x6).f0) ((rd_T24 x279004 x6).f1) ((rd_T24 x279004 x6).f2) ((rd_T24 x279004 x6).f3) ((rd_T24 x279004 x6).f4)).bind fun t299 => (if x5.length + t299.length < 5864062014805 then (exactpplref06_Parts.l1 k (x5 ++ t299) (wrap64 (x6 + 1)) x279000 x279001 x279002 x279003 x279004) else (none))) else (none)) else (some x5)
def exactpplref06_Parts.f : Nat → Int → Int → Int → Int → List (S24) → Option ((List (S41)))
 | 0, _, _, _, _, _ => none
 | k + 1, a0_0, a0_1, a0_2, a0_3, l0_4 => if a0_0 = 1 then (some (([(⟨1, 0, 1⟩ : S41)] : List (S41)))) else (if a0_0 = 2 then (some (([(⟨2, a0_1, a0_2⟩ : S41)] : List (S41)))) else (if a0_0 = 3 then (exactpplref06_Parts.j0 k a0_0 (a0_0 == 3) a0_0 a0_1 a0_2 a0_3 l0_4) else (exactpplref06_Parts.j0 k a0_0 (a0_0 == 4) a0_0 a0_1 a0_2 a0_3 l0_4)))
end
theorem exactpplref06_Parts.mono_l : ∀ k, (∀ y0 y1 y2 y3 y4, LeO (exactpplref06_Parts.f k y0 y1 y2 y3 y4) (exactpplref06_Parts.f (k + 1) y0 y1 y2 y3 y4)) ∧ (∀ y0 y1 y2 y3 y4 y5 y6, LeO (exactpplref06_Parts.j0 k y0 y1 y2 y3 y4 y5 y6) (exactpplref06_Parts.j0 (k + 1) y0 y1 y2 y3 y4 y5 y6)) ∧ (∀ y0 y1 y2 y3 y4 y5 y6, LeO (exactpplref06_Parts.l0 k y0 y1 y2 y3 y4 y5 y6) (exactpplref06_Parts.l0 (k + 1) y0 y1 y2 y3 y4 y5 y6)) ∧ (∀ y0 y1 y2 y3 y4 y5 y6, LeO (exactpplref06_Parts.l1 k y0 y1 y2 y3 y4 y5 y6) (exactpplref06_Parts.l1 (k + 1) y0 y1 y2 y3 y4 y5 y6))
 | 0 => ⟨fun _ _ _ _ _ r h => by simp [exactpplref06_Parts.f] at h, fun _ _ _ _ _ _ _ r h => by simp [exactpplref06_Parts.j0] at h, fun _ _ _ _ _ _ _ r h => by simp [exactpplref06_Parts.l0] at h, fun _ _ _ _ _ _ _ r h => by simp [exactpplref06_Parts.l1] at h⟩
 | k + 1 => by
  obtain ⟨ih0, ih1, ih2, ih3⟩ := exactpplref06_Parts.mono_l k
  refine ⟨?_, ?_, ?_, ?_⟩
  ·intro y0 y1 y2 y3 y4
   unfold exactpplref06_Parts.f
   repeat' first
   | (with_reducible exact ih0 _ _ _ _ _)
   | (with_reducible exact ih1 _ _ _ _ _ _ _)
   | (with_reducible exact ih2 _ _ _ _ _ _ _)
   | (with_reducible exact ih3 _ _ _ _ _ _ _)
   | (with_reducible exact LeO.refl _)
   | (with_reducible exact LeO.none _)
   | (with_reducible refine LeO.ite ?_ ?_)
   | (with_reducible refine LeO.bind ?_ (fun _ => ?_))
   | exact ih0 _ _ _ _ _
   | exact ih1 _ _ _ _ _ _ _
   | exact ih2 _ _ _ _ _ _ _
   | exact ih3 _ _ _ _ _ _ _
   | exact LeO.none _
   | refine LeO.ite ?_ ?_
   | refine LeO.bind ?_ (fun _ => ?_)
  ·intro y0 y1 y2 y3 y4 y5 y6
   unfold exactpplref06_Parts.j0
   repeat' first
   | (with_reducible exact ih0 _ _ _ _ _)
   | (with_reducible exact ih1 _ _ _ _ _ _ _)
   | (with_reducible exact ih2 _ _ _ _ _ _ _)
   | (with_reducible exact ih3 _ _ _ _ _ _ _)
   | (with_reducible exact LeO.refl _)
   | (with_reducible exact LeO.none _)
   | (with_reducible refine LeO.ite ?_ ?_)
   | (with_reducible refine LeO.bind ?_ (fun _ => ?_))
   | exact ih0 _ _ _ _ _
   | exact ih1 _ _ _ _ _ _ _
   | exact ih2 _ _ _ _ _ _ _
   | exact ih3 _ _ _ _ _ _ _
   | exact LeO.none _
   | refine LeO.ite ?_ ?_
   | refine LeO.bind ?_ (fun _ => ?_)
  ·intro y0 y1 y2 y3 y4 y5 y6
   unfold exactpplref06_Parts.l0
   repeat' first
   | (with_reducible exact ih0 _ _ _ _ _)
   | (with_reducible exact ih1 _ _ _ _ _ _ _)
   | (with_reducible exact ih2 _ _ _ _ _ _ _)
   | (with_reducible exact ih3 _ _ _ _ _ _ _)
   | (with_reducible exact LeO.refl _)
   | (with_reducible exact LeO.none _)
   | (with_reducible refine LeO.ite ?_ ?_)
   | (with_reducible refine LeO.bind ?_ (fun _ => ?_))
   | exact ih0 _ _ _ _ _
   | exact ih1 _ _ _ _ _ _ _
   | exact ih2 _ _ _ _ _ _ _
   | exact ih3 _ _ _ _ _ _ _
   | exact LeO.none _
   | refine LeO.ite ?_ ?_
   | refine LeO.bind ?_ (fun _ => ?_)
  ·intro y0 y1 y2 y3 y4 y5 y6
   unfold exactpplref06_Parts.l1
   repeat' first
   | (with_reducible exact ih0 _ _ _ _ _)
   | (with_reducible exact ih1 _ _ _ _ _ _ _)
   | (with_reducible exact ih2 _ _ _ _ _ _ _)
   | (with_reducible exact ih3 _ _ _ _ _ _ _)
   | (with_reducible exact LeO.refl _)
   | (with_reducible exact LeO.none _)
   | (with_reducible refine LeO.ite ?_ ?_)
   | (with_reducible refine LeO.bind ?_ (fun _ => ?_))
   | exact ih0 _ _ _ _ _
   | exact ih1 _ _ _ _ _ _ _
   | exact ih2 _ _ _ _ _ _ _
   | exact ih3 _ _ _ _ _ _ _
   | exact LeO.none _
   | refine LeO.ite ?_ ?_
   | refine LeO.bind ?_ (fun _ => ?_)
theorem exactpplref06_Parts.mono : ∀ a0 a1 a2 a3 a4 k, LeO (exactpplref06_Parts.f k a0 a1 a2 a3 a4) (exactpplref06_Parts.f (k + 1) a0 a1 a2 a3 a4) := by
 intro a0 a1 a2 a3 a4 k
 obtain ⟨ih0, ih1, ih2, ih3⟩ := exactpplref06_Parts.mono_l k
 exact ih0 a0 a1 a2 a3 a4
set_option maxHeartbeats 8000000 in
set_option maxRecDepth 100000 in
theorem exactpplref06_Parts.calls (k : Nat) : ∀ (a0_0 : Int) (a0_1 : Int) (a0_2 : Int) (a0_3 : Int) (A0_4 : Option Addr) (c0_4 : Nat) (l0_4 : List (S24)) (r : List (S41)) (w : World) (hr0_4 : Kd.C k24 w A0_4 l0_4.length l0_4) (hc0_4 : l0_4.length ≤ c0_4) (h : exactpplref06_Parts.f k a0_0 a0_1 a0_2 a0_3 l0_4 = some r),
  Calls Tryd.prog 47 #[.agg #[.int .i64 a0_0, .int .i64 a0_1, .int .i64 a0_2, .int .i64 a0_3, .slice A0_4 l0_4.length c0_4]] w fun e w' => ∃ v0_ : Value, e = .returned (v0_) ∧ Kd.R k41 41 w' w.heap.size (fun _ => True) v0_ r ∧ Below w.heap.size w w' := by
 induction k using Nat.strongRecOn with
 | _ k ih =>
 intro a0_0 a0_1 a0_2 a0_3 A0_4 c0_4 l0_4 r w hr0_4 hc0_4 h
 cases k with
 | zero => exact absurd h (by simp [exactpplref06_Parts.f])
 | succ k =>
 simp only [exactpplref06_Parts.f] at h
 have hu24 := Tryd.underlying24
 have hu41 := Tryd.underlying41
 have HR0_4 := Aside0.mk hr0_4
 have HC0_4 := Aside0.mk hc0_4
 clear hr0_4 hc0_4
 have HB := Aside0.mk (Below.refl w.heap.size w)
 have H : (if a0_0 = 1 then (some (([(⟨1, 0, 1⟩ : S41)] : List (S41)))) else (if a0_0 = 2 then (some (([(⟨2, a0_1, a0_2⟩ : S41)] : List (S41)))) else (if a0_0 = 3 then (exactpplref06_Parts.j0 k a0_0 (a0_0 == 3) a0_0 a0_1 a0_2 a0_3 l0_4) else (exactpplref06_Parts.j0 k a0_0 (a0_0 == 4) a0_0 a0_1 a0_2 a0_3 l0_4)))) = some r := h
 clear h
 by_cases c2 : a0_0 = 1
 ·rw [if_pos c2] at H
  have c2b0 : (a0_0 == 1) = true := beq_iff_eq.mpr c2
  have c2b1 : (a0_0 != 1) = false := bne_eq_false_iff_eq.mpr c2
  clear c2
  obtain ⟨y279, hy279⟩ : ∃ y_ : List (S41), y_ = (([(⟨1, 0, 1⟩ : S41)] : List (S41))) := ⟨_, rfl⟩
  replace H : (some y279) = some r := by first | (rw [hy279]; with_reducible exact H) | (have H2_ := (Option.bind_some _ _).symm.trans H; rw [hy279]; with_reducible exact H2_) | (have H2_ := (Option.bind_some _ _).symm.trans H; with_reducible exact H2_) | with_reducible exact H | (rw [hy279]; exact H) | exact H
  have Ny279 := Aside0.mk hy279
  clear hy279
  obtain rfl := Option.some.inj H
  go_enter Tryd.func47, Tryd.ntmps47
  go_wp2_with (first | ((with_reducible refine gate_dst (N := 1) rfl ?_); refine box_event ?hg (N := 1) ?hd (cs := #[.int .i64 a0_0, .int .i64 a0_1, .int .i64 a0_2, .int .i64 a0_3, .slice A0_4 l0_4.length c0_4]) (t := 24) ?hr ?_; (case hd => rfl); (case hg => rfl); (case hr => first | (go_simp; done) | (go_simp; rfl)); intro gb278 hg w3 hbox hb; have BK278 := Aside0.mk (hbox); have GW278 : Aside0 (w.heap.size ≤ gb278) := gw_ hg (below_size bl_); have GE278 := GW278; replace HB := Aside0.mk (below_step bl_ hb); clear hb hbox hg; obtain ⟨hcz4_0, hcz4_1, hcz4_2, hcz4_3, hcz4_4, hfz4_0, hfz4_1, hfz4_2, hfz4_3, hfz4_4⟩ := cf5_ BK278.out) | ((with_reducible refine gate_dst (N := 12) rfl ?_); refine Kd.R_lit k41 _ 41 ?hg (N := 12) ?hd (xs := ([(⟨1, 0, 1⟩ : S41)] : List (S41))) (inner := [.int .i64 1, .int .i64 0, .int .i64 1]) (ok := fun _ => True) (okp := fun _ => True) ?hr ?hp (fun _ hk => hk) trivial (Below.refl _ _) (Nat.le_refl _) (by simp) ?_; (case hd => rfl); (case hg => rfl); (case hr => first | (go_simp; done) | (go_simp; rfl)); (case hp => exact (Reps.c3 (show Kd.M k41 _ _ _ (⟨1, 0, 1⟩ : S41) [.int .i64 1, .int .i64 0, .int .i64 1] from (k41_mkM _ _ _ (⟨1, 0, 1⟩ : S41) )) (Reps.none _ _))); intro v280 w5 ho6 hb hg_ hnew_; clear hg_ hnew_; (first | rw [← Ny279.out] at ho6 | (simp only [Int.reduceToNat] at ho6; rw [← Ny279.out] at ho6)); have HO281 := Aside0.mk (Kd.R_lower ho6 (below_size bl_)); replace BK278 := Aside0.mk (blk_below (g := gb278) (o := .cells #[.int .i64 a0_0, .int .i64 a0_1, .int .i64 a0_2, .int .i64 a0_3, .slice A0_4 l0_4.length c0_4] 24 (0, 0)) bk_ hb); replace HB := Aside0.mk (below_step bl_ hb); clear hb ho6))
  go_ret
  exact ⟨_, re_, pR_ HO281.out, bl_⟩
 ·rw [if_neg c2] at H
  have c2b0 : (a0_0 == 1) = false := beq_eq_false_iff_ne.mpr c2
  have c2b1 : (a0_0 != 1) = true := bne_iff_ne.mpr c2
  by_cases c7 : a0_0 = 2
  ·rw [if_pos c7] at H
   have c7b0 : (a0_0 == 2) = true := beq_iff_eq.mpr c7
   have c7b1 : (a0_0 != 2) = false := bne_eq_false_iff_eq.mpr c7
   clear c7
   obtain ⟨y282, hy282⟩ : ∃ y_ : List (S41), y_ = (([(⟨2, a0_1, a0_2⟩ : S41)] : List (S41))) := ⟨_, rfl⟩
   replace H : (some y282) = some r := by first | (rw [hy282]; with_reducible exact H) | (have H2_ := (Option.bind_some _ _).symm.trans H; rw [hy282]; with_reducible exact H2_) | (have H2_ := (Option.bind_some _ _).symm.trans H; with_reducible exact H2_) | with_reducible exact H | (rw [hy282]; exact H) | exact H
   have Ny282 := Aside0.mk hy282
   clear hy282
   obtain rfl := Option.some.inj H
   go_enter Tryd.func47, Tryd.ntmps47
   go_wp2_with (first | ((with_reducible refine gate_dst (N := 1) rfl ?_); refine box_event ?hg (N := 1) ?hd (cs := #[.int .i64 a0_0, .int .i64 a0_1, .int .i64 a0_2, .int .i64 a0_3, .slice A0_4 l0_4.length c0_4]) (t := 24) ?hr ?_; (case hd => rfl); (case hg => rfl); (case hr => first | (go_simp; done) | (go_simp; rfl)); intro gb278 hg w8 hbox hb; have BK278 := Aside0.mk (hbox); have GW278 : Aside0 (w.heap.size ≤ gb278) := gw_ hg (below_size bl_); have GE278 := GW278; replace HB := Aside0.mk (below_step bl_ hb); clear hb hbox hg; obtain ⟨hcz9_0, hcz9_1, hcz9_2, hcz9_3, hcz9_4, hfz9_0, hfz9_1, hfz9_2, hfz9_3, hfz9_4⟩ := cf5_ BK278.out) | ((with_reducible refine gate_dst (N := 20) rfl ?_); refine Kd.R_lit k41 _ 41 ?hg (N := 20) ?hd (xs := ([(⟨2, a0_1, a0_2⟩ : S41)] : List (S41))) (inner := [.int .i64 2, .int .i64 a0_1, .int .i64 a0_2]) (ok := fun _ => True) (okp := fun _ => True) ?hr ?hp (fun _ hk => hk) trivial (Below.refl _ _) (Nat.le_refl _) (by simp) ?_; (case hd => rfl); (case hg => rfl); (case hr => first | (go_simp; done) | (go_simp; rfl)); (case hp => exact (Reps.c3 (show Kd.M k41 _ _ _ (⟨2, a0_1, a0_2⟩ : S41) [.int .i64 2, .int .i64 a0_1, .int .i64 a0_2] from (k41_mkM _ _ _ (⟨2, a0_1, a0_2⟩ : S41) )) (Reps.none _ _))); intro v283 w10 ho11 hb hg_ hnew_; clear hg_ hnew_; (first | rw [← Ny282.out] at ho11 | (simp only [Int.reduceToNat] at ho11; rw [← Ny282.out] at ho11)); have HO284 := Aside0.mk (Kd.R_lower ho11 (below_size bl_)); replace BK278 := Aside0.mk (blk_below (g := gb278) (o := .cells #[.int .i64 a0_0, .int .i64 a0_1, .int .i64 a0_2, .int .i64 a0_3, .slice A0_4 l0_4.length c0_4] 24 (0, 0)) bk_ hb); replace HB := Aside0.mk (below_step bl_ hb); clear hb ho11))
   go_ret
   exact ⟨_, re_, pR_ HO284.out, bl_⟩
  ·rw [if_neg c7] at H
   have c7b0 : (a0_0 == 2) = false := beq_eq_false_iff_ne.mpr c7
   have c7b1 : (a0_0 != 2) = true := bne_iff_ne.mpr c7
   have HC12 := Aside0.mk H
   clear H
   go_enter Tryd.func47, Tryd.ntmps47
   go_upto_if 21 with (first | ((with_reducible refine gate_dst (N := 1) rfl ?_); refine box_event ?hg (N := 1) ?hd (cs := #[.int .i64 a0_0, .int .i64 a0_1, .int .i64 a0_2, .int .i64 a0_3, .slice A0_4 l0_4.length c0_4]) (t := 24) ?hr ?_; (case hd => rfl); (case hg => rfl); (case hr => first | (go_simp; done) | (go_simp; rfl)); intro gb278 hg w13 hbox hb; have BK278 := Aside0.mk (hbox); have GW278 : Aside0 (w.heap.size ≤ gb278) := gw_ hg (below_size bl_); have GE278 := GW278; replace HB := Aside0.mk (below_step bl_ hb); clear hb hbox hg; obtain ⟨hcz14_0, hcz14_1, hcz14_2, hcz14_3, hcz14_4, hfz14_0, hfz14_1, hfz14_2, hfz14_3, hfz14_4⟩ := cf5_ BK278.out))
   (try simp only [Act.put, List.setIfInBounds_toArray, List.set_cons_zero, List.set_cons_succ])
   go_cut [21] (fun v21 wc => ∃ (kq : Nat) (x21_11 : Bool), v21 = .bool x21_11 ∧ Aside0 (exactpplref06_Parts.j0 kq a0_0 x21_11 a0_0 a0_1 a0_2 a0_3 l0_4 = some r) ∧ Aside0 (kq ≤ k) ∧ Aside0 (wc.heap[gb278]? = some (.cells #[.int .i64 a0_0, .int .i64 a0_1, .int .i64 a0_2, .int .i64 a0_3, (.slice A0_4 l0_4.length c0_4)] 24 (0, 0))) ∧ Aside0 (Below w.heap.size w wc))
   case first =>
    have H := HC12.out
    clear HC12
    by_cases c15 : a0_0 = 3
    ·rw [if_pos c15] at H
     have c15b0 : (a0_0 == 3) = true := beq_iff_eq.mpr c15
     have c15b1 : (a0_0 != 3) = false := bne_eq_false_iff_eq.mpr c15
     clear c15
     (first | rw [c15b0] | (simp only [i64_w, i32_w]; rw [c15b0]) | skip)
     have H' := Aside0.mk H
     clear H
     go_wp2
     go_meet
     case rel => exact ⟨_, ((a0_0 == 3)), rs_, H', ⟨by first | omega | exact Nat.le_refl _⟩, ⟨bk_⟩, ⟨bl_⟩⟩
    ·rw [if_neg c15] at H
     have c15b0 : (a0_0 == 3) = false := beq_eq_false_iff_ne.mpr c15
     have c15b1 : (a0_0 != 3) = true := bne_iff_ne.mpr c15
     (first | rw [c15b0] | (simp only [i64_w, i32_w]; rw [c15b0]) | skip)
     have H' := Aside0.mk H
     clear H
     go_wp2
     go_meet
     case rel => exact ⟨_, ((a0_0 == 4)), rs_, H', ⟨by first | omega | exact Nat.le_refl _⟩, ⟨bk_⟩, ⟨bl_⟩⟩
   case rest =>
    clear HC12
    try clear c1
    try clear c2
    try clear c2b0
    try clear c2b1
    try clear p2
    try clear c3
    try clear c4
    try clear c7
    try clear c7b0
    try clear c7b1
    try clear c15
    try clear c15b0
    try clear c15b1
    try clear hcz14_0 hcz14_1 hcz14_2 hcz14_3 hcz14_4 hfz14_0 hfz14_1 hfz14_2 hfz14_3 hfz14_4
    try clear hcz4_0 hcz4_1 hcz4_2 hcz4_3 hcz4_4 hfz4_0 hfz4_1 hfz4_2 hfz4_3 hfz4_4
    try clear hcz9_0 hcz9_1 hcz9_2 hcz9_3 hcz9_4 hfz9_0 hfz9_1 hfz9_2 hfz9_3 hfz9_4
    obtain ⟨kq, x21_11, rfl, HA, HJ11, BK278, HB⟩ := hcut
    cases kq with
    | zero => exact absurd HA.out (by simp [exactpplref06_Parts.j0])
    | succ kj11 =>
     have H := HA.out
     clear HA
     simp only [exactpplref06_Parts.j0] at H
     by_cases c16 : x21_11 = true
     ·subst c16
      have H1 : (some (([(⟨a0_0, 0, 0⟩ : S41)] : List (S41)))) = some r := by rw [if_pos rfl] at H; exact H
      clear H
      have H := H1
      clear H1
      obtain ⟨y285, hy285⟩ : ∃ y_ : List (S41), y_ = (([(⟨a0_0, 0, 0⟩ : S41)] : List (S41))) := ⟨_, rfl⟩
      replace H : (some y285) = some r := by first | (rw [hy285]; with_reducible exact H) | (have H2_ := (Option.bind_some _ _).symm.trans H; rw [hy285]; with_reducible exact H2_) | (have H2_ := (Option.bind_some _ _).symm.trans H; with_reducible exact H2_) | with_reducible exact H | (rw [hy285]; exact H) | exact H
      have Ny285 := Aside0.mk hy285
      clear hy285
      obtain rfl := Option.some.inj H
      obtain ⟨hcz17_0, hcz17_1, hcz17_2, hcz17_3, hcz17_4, hfz17_0, hfz17_1, hfz17_2, hfz17_3, hfz17_4⟩ := cf5_ BK278.out
      go_wp2_with (first | ((with_reducible refine gate_dst (N := 27) rfl ?_); refine Kd.R_lit k41 _ 41 ?hg (N := 27) ?hd (xs := ([(⟨a0_0, 0, 0⟩ : S41)] : List (S41))) (inner := [.int .i64 a0_0, .int .i64 0, .int .i64 0]) (ok := fun _ => True) (okp := fun _ => True) ?hr ?hp (fun _ hk => hk) trivial (Below.refl _ _) (Nat.le_refl _) (by simp) ?_; (case hd => rfl); (case hg => rfl); (case hr => first | (go_simp; done) | (go_simp; rfl)); (case hp => exact (Reps.c3 (show Kd.M k41 _ _ _ (⟨a0_0, 0, 0⟩ : S41) [.int .i64 a0_0, .int .i64 0, .int .i64 0] from (k41_mkM _ _ _ (⟨a0_0, 0, 0⟩ : S41) )) (Reps.none _ _))); intro v286 w18 ho19 hb hg_ hnew_; clear hg_ hnew_; (first | rw [← Ny285.out] at ho19 | (simp only [Int.reduceToNat] at ho19; rw [← Ny285.out] at ho19)); have HO287 := Aside0.mk (Kd.R_lower ho19 (below_size bl_)); replace BK278 := Aside0.mk (blk_below (g := gb278) (o := .cells #[.int .i64 a0_0, .int .i64 a0_1, .int .i64 a0_2, .int .i64 a0_3, .slice A0_4 l0_4.length c0_4] 24 (0, 0)) bk_ hb); replace HB := Aside0.mk (below_step bl_ hb); clear hb ho19))
      go_ret
      exact ⟨_, re_, pR_ HO287.out, bl_⟩
     ·replace c16 := Bool.eq_false_iff.mpr c16
      subst c16
      have H1 : (if a0_0 = 6 then (exactpplref06_Parts.l0 kj11 (([(⟨2, 0, a0_3⟩ : S41)] : List (S41))) 0 a0_0 a0_1 a0_2 a0_3 l0_4) else (exactpplref06_Parts.l1 kj11 ([] : List (S41)) 0 a0_0 a0_1 a0_2 a0_3 l0_4)) = some r := by rw [if_neg (show ¬ (false = true) by decide)] at H; exact H
      clear H
      have H := H1
      clear H1
      by_cases c20 : a0_0 = 6
      ·rw [if_pos c20] at H
       have c20b0 : (a0_0 == 6) = true := beq_iff_eq.mpr c20
       have c20b1 : (a0_0 != 6) = false := bne_eq_false_iff_eq.mpr c20
       clear c20
       obtain ⟨y288, hy288⟩ : ∃ y_ : List (S41), y_ = (([(⟨2, 0, a0_3⟩ : S41)] : List (S41))) := ⟨_, rfl⟩
       replace H : (exactpplref06_Parts.l0 kj11 y288 0 a0_0 a0_1 a0_2 a0_3 l0_4) = some r := by first | (rw [hy288]; with_reducible exact H) | (have H2_ := (Option.bind_some _ _).symm.trans H; rw [hy288]; with_reducible exact H2_) | (have H2_ := (Option.bind_some _ _).symm.trans H; with_reducible exact H2_) | with_reducible exact H | (rw [hy288]; exact H) | exact H
       have Ny288 := Aside0.mk hy288
       clear hy288
       have H' := Aside0.mk H
       clear H
       obtain ⟨hcz21_0, hcz21_1, hcz21_2, hcz21_3, hcz21_4, hfz21_0, hfz21_1, hfz21_2, hfz21_3, hfz21_4⟩ := cf5_ BK278.out
       go_wp2_with (first | ((with_reducible refine gate_dst (N := 33) rfl ?_); refine Kd.R_lit k41 _ 41 ?hg (N := 33) ?hd (xs := ([(⟨2, 0, a0_3⟩ : S41)] : List (S41))) (inner := [.int .i64 2, .int .i64 0, .int .i64 a0_3]) (ok := fun _ => True) (okp := fun _ => True) ?hr ?hp (fun _ hk => hk) trivial (Below.refl _ _) (Nat.le_refl _) (by simp) ?_; (case hd => rfl); (case hg => rfl); (case hr => first | (go_simp; done) | (go_simp; rfl)); (case hp => exact (Reps.c3 (show Kd.M k41 _ _ _ (⟨2, 0, a0_3⟩ : S41) [.int .i64 2, .int .i64 0, .int .i64 a0_3] from (k41_mkM _ _ _ (⟨2, 0, a0_3⟩ : S41) )) (Reps.none _ _))); intro v289 w22 ho23 hb hg_ hnew_; clear hg_ hnew_; (first | rw [← Ny288.out] at ho23 | (simp only [Int.reduceToNat] at ho23; rw [← Ny288.out] at ho23)); have HO290 := Aside0.mk (Kd.R_lower ho23 (below_size bl_)); replace BK278 := Aside0.mk (blk_below (g := gb278) (o := .cells #[.int .i64 a0_0, .int .i64 a0_1, .int .i64 a0_2, .int .i64 a0_3, .slice A0_4 l0_4.length c0_4] 24 (0, 0)) bk_ hb); replace HB := Aside0.mk (below_step bl_ hb); clear hb ho23))
       go_loopg [3, 4] kj11 (fun kq v3 v4 w' => ∃ (x3_2 : List (S41)) (x4_2 : Int), v4 = .int .i64 x4_2 ∧ Aside0 (exactpplref06_Parts.l0 kq x3_2 x4_2 a0_0 a0_1 a0_2 a0_3 l0_4 = some r) ∧ Aside0 (kq ≤ kj11) ∧ Aside0 (Kd.R k41 41 w' w.heap.size (fun _ => True) v3 x3_2) ∧ Aside0 (w'.heap[gb278]? = some (.cells #[.int .i64 a0_0, .int .i64 a0_1, .int .i64 a0_2, .int .i64 a0_3, (.slice A0_4 l0_4.length c0_4)] 24 (0, 0))) ∧ Aside0 (Below w.heap.size w w'))
       case atStart => exact ⟨(y288), (0), rs_, H', ⟨Nat.le_refl _⟩, ⟨pR_ HO290.out⟩, ⟨bk_⟩, ⟨bl_⟩⟩
       case round =>
        clear H'
        try clear c1
        try clear c2
        try clear c2b0
        try clear c2b1
        try clear p2
        try clear c3
        try clear c4
        try clear c7
        try clear c7b0
        try clear c7b1
        try clear c15
        try clear c15b0
        try clear c15b1
        try clear c16
        try clear c20
        try clear c20b0
        try clear c20b1
        try clear hcz14_0 hcz14_1 hcz14_2 hcz14_3 hcz14_4 hfz14_0 hfz14_1 hfz14_2 hfz14_3 hfz14_4
        try clear hcz17_0 hcz17_1 hcz17_2 hcz17_3 hcz17_4 hfz17_0 hfz17_1 hfz17_2 hfz17_3 hfz17_4
        try clear hcz21_0 hcz21_1 hcz21_2 hcz21_3 hcz21_4 hfz21_0 hfz21_1 hfz21_2 hfz21_3 hfz21_4
        try clear hcz4_0 hcz4_1 hcz4_2 hcz4_3 hcz4_4 hfz4_0 hfz4_1 hfz4_2 hfz4_3 hfz4_4
        try clear hcz9_0 hcz9_1 hcz9_2 hcz9_3 hcz9_4 hfz9_0 hfz9_1 hfz9_2 hfz9_3 hfz9_4
        try clear p2
        obtain ⟨x3_2, x4_2, rfl, HA, HK2, HO_3, BK278, HB⟩ := hrel
        cases gk with
        | zero => exact absurd HA.out (by simp [exactpplref06_Parts.l0])
        | succ k2 =>
         have H := HA.out
         clear HA
         simp only [exactpplref06_Parts.l0] at H
         by_cases c24 : x4_2 < a0_3
         ·rw [if_pos c24] at H
          have c24b0 : decide (x4_2 < a0_3) = true := decide_eq_true c24
          clear c24
          by_cases c25 : 0 < (l0_4.length : Int)
          ·rw [if_pos c25] at H
           have c25b0 : decide (0 < (l0_4.length : Int)) = true := decide_eq_true c25
           have c25b1 : decide (0 < l0_4.length) = true := decide_eq_true (by omega)
           clear c25
           replace H := Option.bind_eq_some_iff.mp H
           obtain ⟨t292, A260, H⟩ := H
           replace H : (if x3_2.length + t292.length < 5864062014805 then (exactpplref06_Parts.l0 k2 (x3_2 ++ t292) (wrap64 (x4_2 + 1)) a0_0 a0_1 a0_2 a0_3 l0_4) else (none)) = some r := H
           have A26 := Aside0.mk A260
           clear A260
           by_cases c27 : x3_2.length + t292.length < 5864062014805
           ·rw [if_pos c27] at H
            have LMc27 := Aside0.mk c27
            clear c27
            obtain ⟨y295, hy295⟩ : ∃ y_ : List (S41), y_ = (x3_2 ++ t292) := ⟨_, rfl⟩
            replace H : (exactpplref06_Parts.l0 k2 y295 (wrap64 (x4_2 + 1)) a0_0 a0_1 a0_2 a0_3 l0_4) = some r := by first | (rw [hy295]; with_reducible exact H) | (have H2_ := (Option.bind_some _ _).symm.trans H; rw [hy295]; with_reducible exact H2_) | (have H2_ := (Option.bind_some _ _).symm.trans H; with_reducible exact H2_) | with_reducible exact H | (rw [hy295]; exact H) | exact H
            have Ny295 := Aside0.mk hy295
            clear hy295
            have H' := Aside0.mk H
            clear H
            obtain ⟨hcz28_0, hcz28_1, hcz28_2, hcz28_3, hcz28_4, hfz28_0, hfz28_1, hfz28_2, hfz28_3, hfz28_4⟩ := cf5_ BK278.out
            have p291 : 0 ≤ (0 : Int) := (by omega)
            have q291 : 0 < (l0_4.length : Int) := dt_
            obtain ⟨ad291, A291_4, c291_4, e291, hx291_0, hx291_1, hx291_2, hx291_3, hx291_4, hl291_4, hi291_4⟩ := at_T24 HR0_4.out 0 p291 q291
            cases e291
            have qi291 : (0 < l0_4.length) = True := eq_true (by omega)
            (try rw [show ((0 : Int)).toNat = 0 from rfl] at hx291_0)
            (try rw [show 0 * 5 = 0 from rfl] at hx291_0)
            (try rw [Addr.add_zero'] at hx291_0)
            (try rw [show ((0 : Int)).toNat = 0 from rfl] at hx291_1)
            (try rw [show 0 * 5 = 0 from rfl] at hx291_1)
            (try rw [Addr.add_zero'] at hx291_1)
            (try rw [show ((0 : Int)).toNat = 0 from rfl] at hx291_2)
            (try rw [show 0 * 5 = 0 from rfl] at hx291_2)
            (try rw [Addr.add_zero'] at hx291_2)
            (try rw [show ((0 : Int)).toNat = 0 from rfl] at hx291_3)
            (try rw [show 0 * 5 = 0 from rfl] at hx291_3)
            (try rw [Addr.add_zero'] at hx291_3)
            (try rw [show ((0 : Int)).toNat = 0 from rfl] at hx291_4)
            (try rw [show 0 * 5 = 0 from rfl] at hx291_4)
            (try rw [Addr.add_zero'] at hx291_4)
            replace hx291_0 := (HB.out.cell (World.block_lt_of_cell? w _ hx291_0)).trans hx291_0
            replace hx291_1 := (HB.out.cell (World.block_lt_of_cell? w _ hx291_1)).trans hx291_1
            replace hx291_2 := (HB.out.cell (World.block_lt_of_cell? w _ hx291_2)).trans hx291_2
            replace hx291_3 := (HB.out.cell (World.block_lt_of_cell? w _ hx291_3)).trans hx291_3
            replace hx291_4 := (HB.out.cell (World.block_lt_of_cell? w _ hx291_4)).trans hx291_4
            have HR291_4 := Aside0.mk hi291_4
            have HC291_4 := Aside0.mk hl291_4
            clear hi291_4 hl291_4
            replace p291 := eq_true p291
            replace q291 := eq_true q291
            go_wp2_with (first | ((with_reducible refine gate_callee (f := 47) rfl ?_); refine goesL_ (some 45) rfl rfl Tryd.func47 (by kernel_rfl) rfl #[.agg #[.int .i64 ((rd_T24 l0_4 0).f0), .int .i64 ((rd_T24 l0_4 0).f1), .int .i64 ((rd_T24 l0_4 0).f2), .int .i64 ((rd_T24 l0_4 0).f3), .slice A291_4 ((rd_T24 l0_4 0).f4).length c291_4]] rfl (by (try simp only [List.map_toArray, List.map_cons, List.map_nil]); first | done | rfl | (simp only [List.length_drop, List.length_take]; rfl)) ?_; (with_reducible refine (ih k2 (by have := HJ11.out; have := HK2.out; omega) ((rd_T24 l0_4 0).f0) ((rd_T24 l0_4 0).f1) ((rd_T24 l0_4 0).f2) ((rd_T24 l0_4 0).f3) _ _ ((rd_T24 l0_4 0).f4) t292 _ ?side1 ?side2 A26.out).mono ?_); (case side1 => repeat (first | exact (Kd.C_below HR291_4.out HB.out) | (with_reducible refine Kd.C_alloc ?_ _) | (with_reducible refine Kd.C_drewN ?_ _) | (with_reducible refine Kd.C_drew ?_))); (case side2 => exact HC291_4.out); rintro e w29 ⟨v293, rfl, ho0, hb⟩; refine ⟨_, rfl, ?_⟩; have HO294 := Aside0.mk (Kd.R_lower (Kd.R_new' ho0 (Kd.R_lt (pR_ HO_3.out))) (below_size bl_)); replace HO_3 := Aside0.mk (Kd.R_elder' (pR_ HO_3.out) (Kd.R_base ho0) hb); replace BK278 := Aside0.mk (blk_below (g := gb278) (o := .cells #[.int .i64 a0_0, .int .i64 a0_1, .int .i64 a0_2, .int .i64 a0_3, .slice (some ad291) l0_4.length c0_4] 24 (0, 0)) bk_ hb); replace HB := Aside0.mk (below_step bl_ hb); (try clear hb); (try clear hb2); (try clear hk); (try clear hi); (try clear ho0); obtain ⟨Ao31, co31, eo31⟩ := Kd.R_slice HO294.out; subst eo31) | ((with_reducible refine gate_builtin (b := .append) (xs := #[.tmp 40, .tmp 45]) rfl ?_); at_builtin; refine Kd.R_append_rows k41 (w0 := w) w.heap.size rfl (.tmp 40) (.tmp 45) 37 41 (.agg #[(.int .i64 0), (.int .i64 0), (.int .i64 0)]) 24 rfl Tryd.underlying37 info41 rfl (by decide) (by omega) u3 x3_2 t292 _ _ _ (fun k_ => some k_ ≠ (.slice Ao31 t292.length co31 : Value).ownBlock) (fun _ => False) rfl rfl ?aO ?aR (fun _ _ h => h) (fun _ h => h.elim) ?aF ?aB ?aS ?aL ?_; (case aR => repeat (first | exact (Kd.R_reads' HO294.out).2.2 | (with_reducible refine Kd.C_alloc ?_ _) | (with_reducible refine Kd.C_drewN ?_ _) | (with_reducible refine Kd.C_drew ?_))); (case aB => exact bl_); (case aF => exact (fun k_ hk => Kd.fresh' (Kd.R_lt (pR_ HO294.out)) k_ hk)); (case aO => exact (by (with_reducible repeat (first | apply Kd.R_alloc | apply Kd.R_drewN | apply Kd.R_drew)); exact Kd.R_mono HO_3.out (fun _ hk => hk.2))); (case aS => exact (below_size bl_)); (case aL => have := LMc27.out; omega); intro v296 w30 ho hb hg hat; rw [← Ny295.out] at ho; have HO297 := Aside0.mk (ho); replace BK278 := Aside0.mk (blk_grown (g := gb278) (o := .cells #[.int .i64 a0_0, .int .i64 a0_1, .int .i64 a0_2, .int .i64 a0_3, .slice (some ad291) l0_4.length c0_4] 24 (0, 0)) bk_ hg (Kd.R_ne HO_3.out BK278.out (by decide))); replace HO294 := Aside0.mk (Kd.R_after (ok := (fun _ => True)) (pR_ HO294.out) hg hat); replace HB := Aside0.mk (hb); clear HO_3; clear ho hb hg hat))
            go_roundg k2
            case measure => have := HJ11.out; have := HK2.out; omega
            case rel => exact ⟨(y295), (wrap64 (x4_2 + 1)), rs_, H', ⟨by have := HJ11.out; have := HK2.out; omega⟩, ⟨by (with_reducible repeat (first | apply Kd.R_alloc | apply Kd.R_drewN | apply Kd.R_drew)); exact Kd.R_mono HO297.out (fun _ hk => trivial)⟩, ⟨bk_⟩, ⟨bl_⟩⟩
           ·rw [if_neg c27] at H
            exact absurd H (by simp)
          ·rw [if_neg c25] at H
           exact absurd H (by simp)
         ·rw [if_neg c24] at H
          have c24b0 : decide (x4_2 < a0_3) = false := decide_eq_false c24
          clear c24
          obtain rfl := Option.some.inj H
          obtain ⟨hcz32_0, hcz32_1, hcz32_2, hcz32_3, hcz32_4, hfz32_0, hfz32_1, hfz32_2, hfz32_3, hfz32_4⟩ := cf5_ BK278.out
          go_wp2
          go_ret
          exact ⟨_, re_, pR_ HO_3.out, bl_⟩
      ·rw [if_neg c20] at H
       have c20b0 : (a0_0 == 6) = false := beq_eq_false_iff_ne.mpr c20
       have c20b1 : (a0_0 != 6) = true := bne_iff_ne.mpr c20
       have H' := Aside0.mk H
       clear H
       go_wp2
       go_loopg [5, 6] kj11 (fun kq v5 v6 w' => ∃ (x5_2 : List (S41)) (x6_2 : Int), v6 = .int .i64 x6_2 ∧ Aside0 (exactpplref06_Parts.l1 kq x5_2 x6_2 a0_0 a0_1 a0_2 a0_3 l0_4 = some r) ∧ Aside0 (kq ≤ kj11) ∧ Aside0 (Kd.R k41 41 w' w.heap.size (fun _ => True) v5 x5_2) ∧ Aside0 (w'.heap[gb278]? = some (.cells #[.int .i64 a0_0, .int .i64 a0_1, .int .i64 a0_2, .int .i64 a0_3, (.slice A0_4 l0_4.length c0_4)] 24 (0, 0))) ∧ Aside0 (Below w.heap.size w w'))
       case atStart => exact ⟨(([] : List (S41))), (0), rs_, H', ⟨Nat.le_refl _⟩, ⟨by first | exact Kd.R_nil _ _ _ _ _ | exact Kd.N_nil _ _ _ _ _ | exact Kd.V_nil _ _ _ _ _ | exact Kd.Q_nil _ _ _ _ _ | exact Kd.S_nil _ _ _ _ _⟩, ⟨bk_⟩, ⟨bl_⟩⟩
       case round =>
        clear H'
        try clear c1
        try clear c2
        try clear c2b0
        try clear c2b1
        try clear p2
        try clear q2
        try clear hx2
        try clear qi2
        try clear c3
        try clear c4
        try clear p6
        try clear c7
        try clear c7b0
        try clear c7b1
        try clear c15
        try clear c15b0
        try clear c15b1
        try clear c16
        try clear c20
        try clear c20b0
        try clear c20b1
        try clear c24
        try clear c24b0
        try clear c25
        try clear c25b0
        try clear c25b1
        try clear c27
        try clear c29
        try clear p29
        try clear q29
        try clear hx29
        try clear qi29
        try clear hcz14_0 hcz14_1 hcz14_2 hcz14_3 hcz14_4 hfz14_0 hfz14_1 hfz14_2 hfz14_3 hfz14_4
        try clear hcz17_0 hcz17_1 hcz17_2 hcz17_3 hcz17_4 hfz17_0 hfz17_1 hfz17_2 hfz17_3 hfz17_4
        try clear hcz21_0 hcz21_1 hcz21_2 hcz21_3 hcz21_4 hfz21_0 hfz21_1 hfz21_2 hfz21_3 hfz21_4
        try clear hcz28_0 hcz28_1 hcz28_2 hcz28_3 hcz28_4 hfz28_0 hfz28_1 hfz28_2 hfz28_3 hfz28_4
        try clear hcz32_0 hcz32_1 hcz32_2 hcz32_3 hcz32_4 hfz32_0 hfz32_1 hfz32_2 hfz32_3 hfz32_4
        try clear hcz4_0 hcz4_1 hcz4_2 hcz4_3 hcz4_4 hfz4_0 hfz4_1 hfz4_2 hfz4_3 hfz4_4
        try clear hcz9_0 hcz9_1 hcz9_2 hcz9_3 hcz9_4 hfz9_0 hfz9_1 hfz9_2 hfz9_3 hfz9_4
        try clear hx291_0
        try clear hx291_1
        try clear hx291_2
        try clear hx291_3
        try clear hx291_4
        try clear p2
        try clear p291
        try clear q291
        obtain ⟨x5_2, x6_2, rfl, HA, HK2, HO_5, BK278, HB⟩ := hrel
        cases gk with
        | zero => exact absurd HA.out (by simp [exactpplref06_Parts.l1])
        | succ k2 =>
         have H := HA.out
         clear HA
         simp only [exactpplref06_Parts.l1] at H
         by_cases c33 : x6_2 < (l0_4.length : Int)
         ·rw [if_pos c33] at H
          have c33b0 : decide (x6_2 < (l0_4.length : Int)) = true := decide_eq_true c33
          clear c33
          by_cases c34 : 0 ≤ x6_2
          ·rw [if_pos c34] at H
           have c34b0 : decide (0 ≤ x6_2) = true := decide_eq_true c34
           clear c34
           replace H := Option.bind_eq_some_iff.mp H
           obtain ⟨t299, A350, H⟩ := H
           replace H : (if x5_2.length + t299.length < 5864062014805 then (exactpplref06_Parts.l1 k2 (x5_2 ++ t299) (wrap64 (x6_2 + 1)) a0_0 a0_1 a0_2 a0_3 l0_4) else (none)) = some r := H
           have A35 := Aside0.mk A350
           clear A350
           by_cases c36 : x5_2.length + t299.length < 5864062014805
           ·rw [if_pos c36] at H
            have LMc36 := Aside0.mk c36
            clear c36
            obtain ⟨y302, hy302⟩ : ∃ y_ : List (S41), y_ = (x5_2 ++ t299) := ⟨_, rfl⟩
            replace H : (exactpplref06_Parts.l1 k2 y302 (wrap64 (x6_2 + 1)) a0_0 a0_1 a0_2 a0_3 l0_4) = some r := by first | (rw [hy302]; with_reducible exact H) | (have H2_ := (Option.bind_some _ _).symm.trans H; rw [hy302]; with_reducible exact H2_) | (have H2_ := (Option.bind_some _ _).symm.trans H; with_reducible exact H2_) | with_reducible exact H | (rw [hy302]; exact H) | exact H
            have Ny302 := Aside0.mk hy302
            clear hy302
            have H' := Aside0.mk H
            clear H
            obtain ⟨hcz37_0, hcz37_1, hcz37_2, hcz37_3, hcz37_4, hfz37_0, hfz37_1, hfz37_2, hfz37_3, hfz37_4⟩ := cf5_ BK278.out
            have p298 : 0 ≤ (x6_2 : Int) := dt_
            have q298 : x6_2 < (l0_4.length : Int) := dt_
            obtain ⟨ad298, A298_4, c298_4, e298, hx298_0, hx298_1, hx298_2, hx298_3, hx298_4, hl298_4, hi298_4⟩ := at_T24 HR0_4.out x6_2 p298 q298
            cases e298
            replace hx298_0 := (HB.out.cell (World.block_lt_of_cell? w _ hx298_0)).trans hx298_0
            replace hx298_1 := (HB.out.cell (World.block_lt_of_cell? w _ hx298_1)).trans hx298_1
            replace hx298_2 := (HB.out.cell (World.block_lt_of_cell? w _ hx298_2)).trans hx298_2
            replace hx298_3 := (HB.out.cell (World.block_lt_of_cell? w _ hx298_3)).trans hx298_3
            replace hx298_4 := (HB.out.cell (World.block_lt_of_cell? w _ hx298_4)).trans hx298_4
            have HR298_4 := Aside0.mk hi298_4
            have HC298_4 := Aside0.mk hl298_4
            clear hi298_4 hl298_4
            replace p298 := eq_true p298
            replace q298 := eq_true q298
            go_wp2_with (first | ((with_reducible refine gate_callee (f := 47) rfl ?_); refine goesL_ (some 61) rfl rfl Tryd.func47 (by kernel_rfl) rfl #[.agg #[.int .i64 ((rd_T24 l0_4 x6_2).f0), .int .i64 ((rd_T24 l0_4 x6_2).f1), .int .i64 ((rd_T24 l0_4 x6_2).f2), .int .i64 ((rd_T24 l0_4 x6_2).f3), .slice A298_4 ((rd_T24 l0_4 x6_2).f4).length c298_4]] rfl (by (try simp only [List.map_toArray, List.map_cons, List.map_nil]); first | done | rfl | (simp only [List.length_drop, List.length_take]; rfl)) ?_; (with_reducible refine (ih k2 (by have := HJ11.out; have := HK2.out; omega) ((rd_T24 l0_4 x6_2).f0) ((rd_T24 l0_4 x6_2).f1) ((rd_T24 l0_4 x6_2).f2) ((rd_T24 l0_4 x6_2).f3) _ _ ((rd_T24 l0_4 x6_2).f4) t299 _ ?side1 ?side2 A35.out).mono ?_); (case side1 => repeat (first | exact (Kd.C_below HR298_4.out HB.out) | (with_reducible refine Kd.C_alloc ?_ _) | (with_reducible refine Kd.C_drewN ?_ _) | (with_reducible refine Kd.C_drew ?_))); (case side2 => exact HC298_4.out); rintro e w38 ⟨v300, rfl, ho0, hb⟩; refine ⟨_, rfl, ?_⟩; have HO301 := Aside0.mk (Kd.R_lower (Kd.R_new' ho0 (Kd.R_lt (pR_ HO_5.out))) (below_size bl_)); replace HO_5 := Aside0.mk (Kd.R_elder' (pR_ HO_5.out) (Kd.R_base ho0) hb); replace BK278 := Aside0.mk (blk_below (g := gb278) (o := .cells #[.int .i64 a0_0, .int .i64 a0_1, .int .i64 a0_2, .int .i64 a0_3, .slice (some ad298) l0_4.length c0_4] 24 (0, 0)) bk_ hb); replace HB := Aside0.mk (below_step bl_ hb); (try clear hb); (try clear hb2); (try clear hk); (try clear hi); (try clear ho0); obtain ⟨Ao40, co40, eo40⟩ := Kd.R_slice HO301.out; subst eo40) | ((with_reducible refine gate_builtin (b := .append) (xs := #[.tmp 55, .tmp 61]) rfl ?_); at_builtin; refine Kd.R_append_rows k41 (w0 := w) w.heap.size rfl (.tmp 55) (.tmp 61) 37 41 (.agg #[(.int .i64 0), (.int .i64 0), (.int .i64 0)]) 24 rfl Tryd.underlying37 info41 rfl (by decide) (by omega) u5 x5_2 t299 _ _ _ (fun k_ => some k_ ≠ (.slice Ao40 t299.length co40 : Value).ownBlock) (fun _ => False) rfl rfl ?aO ?aR (fun _ _ h => h) (fun _ h => h.elim) ?aF ?aB ?aS ?aL ?_; (case aR => repeat (first | exact (Kd.R_reads' HO301.out).2.2 | (with_reducible refine Kd.C_alloc ?_ _) | (with_reducible refine Kd.C_drewN ?_ _) | (with_reducible refine Kd.C_drew ?_))); (case aB => exact bl_); (case aF => exact (fun k_ hk => Kd.fresh' (Kd.R_lt (pR_ HO301.out)) k_ hk)); (case aO => exact (by (with_reducible repeat (first | apply Kd.R_alloc | apply Kd.R_drewN | apply Kd.R_drew)); exact Kd.R_mono HO_5.out (fun _ hk => hk.2))); (case aS => exact (below_size bl_)); (case aL => have := LMc36.out; omega); intro v303 w39 ho hb hg hat; rw [← Ny302.out] at ho; have HO304 := Aside0.mk (ho); replace BK278 := Aside0.mk (blk_grown (g := gb278) (o := .cells #[.int .i64 a0_0, .int .i64 a0_1, .int .i64 a0_2, .int .i64 a0_3, .slice (some ad298) l0_4.length c0_4] 24 (0, 0)) bk_ hg (Kd.R_ne HO_5.out BK278.out (by decide))); replace HO301 := Aside0.mk (Kd.R_after (ok := (fun _ => True)) (pR_ HO301.out) hg hat); replace HB := Aside0.mk (hb); clear HO_5; clear ho hb hg hat))
            go_roundg k2
            case measure => have := HJ11.out; have := HK2.out; omega
            case rel => exact ⟨(y302), (wrap64 (x6_2 + 1)), rs_, H', ⟨by have := HJ11.out; have := HK2.out; omega⟩, ⟨by (with_reducible repeat (first | apply Kd.R_alloc | apply Kd.R_drewN | apply Kd.R_drew)); exact Kd.R_mono HO304.out (fun _ hk => trivial)⟩, ⟨bk_⟩, ⟨bl_⟩⟩
           ·rw [if_neg c36] at H
            exact absurd H (by simp)
          ·rw [if_neg c34] at H
           exact absurd H (by simp)
         ·rw [if_neg c33] at H
          have c33b0 : decide (x6_2 < (l0_4.length : Int)) = false := decide_eq_false c33
          clear c33
          obtain rfl := Option.some.inj H
          obtain ⟨hcz41_0, hcz41_1, hcz41_2, hcz41_3, hcz41_4, hfz41_0, hfz41_1, hfz41_2, hfz41_3, hfz41_4⟩ := cf5_ BK278.out
          go_wp2
          go_ret
          exact ⟨_, re_, pR_ HO_5.out, bl_⟩

end Go.Proofs.YtggelekooacmnaaDoor.Q
