/- Lemmas for: Proved: the tied card of exactppllaw19.DiagramBranches (for every list and site the law returns true). Conditions: none beyond the given row. -/
import Derived.BigRegion
import Derived.Test.YtopbjginpmdebaaDoorBr2
import Derived.Test.YtopbjginpmdebaaDoorBr3
import Derived.Test.YtopbjginpmdebaaDoorBr4
namespace Go.Proofs.YtopbjginpmdebaaDoor.K
open Go.RowKit Go.Proofs.YtopbjginpmdebaaDoorW.PrintWords Go.Proofs.YtopbjginpmdebaaDoorW.PrintLast Go.Proofs.YtopbjginpmdebaaDoorW.PrintMore
attribute [local go_sem] max2_int min2_int max_two min_two max_three min_three max_four min_four   -- for this text's walks alone
set_option linter.unusedVariables false
set_option linter.unusedSimpArgs false

/-! ### exactpplmake_Src_Diagram: function 22 -/
mutual
def exactpplmake_Src_Diagram.j0 : Nat → Int → Int → Bool → List Int → Int → Int → Option ((List (S60)) × Int × Int)
 | 0, _, _, _, _, _, _ => none
 | k + 1, x1, x2, x16, x1000, x1001, x1002 => if x16 = true then ((exactpplmake_Src_Range.f x1000 x1001 x1002 (-2) 3).bind fun bt339 => ((exactpplref19_Const.f bt339.1).bind fun t342 => (some (t342, bt339.2.1, bt339.2.2)))) else ((exactpplmake_Src_N.f x1000 x1001 x1002 4).bind fun bt345 => (if bt345.1 = 0 then ((exactpplmake_Src_Diagram.f k x1000 bt345.2.1 bt345.2.2 (wrap64 (x1 + 1)) x2).bind fun bt348 => (some (bt348.1, bt348.2.1, bt348.2.2))) else (exactpplmake_Src_Diagram.l0 k x1 x2 ([] : List (S31)) 0 x1000 bt345.2.1 bt345.2.2)))
def exactpplmake_Src_Diagram.l0 : Nat → Int → Int → List (S31) → Int → List Int → Int → Int → Option ((List (S60)) × Int × Int)
 | 0, _, _, _, _, _, _, _ => none
 | k + 1, x1, x2, x7, x8, x1000, x1001, x1002 => (exactpplmake_Width.f x1).bind fun t353 => (if x8 < t353 then ((exactpplmake_Src_Diagram.f k x1000 x1001 x1002 (wrap64 (x1 + 1)) x2).bind fun bt354 => (if x7.length < 5864062014805 then (exactpplmake_Src_Diagram.l0 k x1 x2 (x7 ++ [(⟨bt354.1⟩ : S31)]) (wrap64 (x8 + 1)) x1000 bt354.2.1 bt354.2.2) else (none))) else ((exactpplref19_Join.f x1 x7).bind fun t362 => (some (t362, x1001, x1002))))
def exactpplmake_Src_Diagram.f : Nat → List Int → Int → Int → Int → Int → Option ((List (S60)) × Int × Int)
 | 0, _, _, _, _, _ => none
 | k + 1, s0_0, s0_1, s0_2, a1, a2 => if a1 > a2 then (exactpplmake_Src_Diagram.j0 k a1 a2 true s0_0 s0_1 s0_2) else ((exactpplmake_Src_N.f s0_0 s0_1 s0_2 5).bind fun bt336 => (exactpplmake_Src_Diagram.j0 k a1 a2 (bt336.1 == 0) s0_0 bt336.2.1 bt336.2.2))
end
theorem exactpplmake_Src_Diagram.mono_l : ∀ k, (∀ y0 y1 y2 y3 y4, LeO (exactpplmake_Src_Diagram.f k y0 y1 y2 y3 y4) (exactpplmake_Src_Diagram.f (k + 1) y0 y1 y2 y3 y4)) ∧ (∀ y0 y1 y2 y3 y4 y5, LeO (exactpplmake_Src_Diagram.j0 k y0 y1 y2 y3 y4 y5) (exactpplmake_Src_Diagram.j0 (k + 1) y0 y1 y2 y3 y4 y5)) ∧ (∀ y0 y1 y2 y3 y4 y5 y6, LeO (exactpplmake_Src_Diagram.l0 k y0 y1 y2 y3 y4 y5 y6) (exactpplmake_Src_Diagram.l0 (k + 1) y0 y1 y2 y3 y4 y5 y6))
 | 0 => ⟨fun _ _ _ _ _ r h => by simp [exactpplmake_Src_Diagram.f] at h, fun _ _ _ _ _ _ r h => by simp [exactpplmake_Src_Diagram.j0] at h, fun _ _ _ _ _ _ _ r h => by simp [exactpplmake_Src_Diagram.l0] at h⟩
 | k + 1 => by
  obtain ⟨ih0, ih1, ih2⟩ := exactpplmake_Src_Diagram.mono_l k
  refine ⟨?_, ?_, ?_⟩
  ·intro y0 y1 y2 y3 y4
   unfold exactpplmake_Src_Diagram.f
   repeat' first
   | (with_reducible exact ih0 _ _ _ _ _)
   | (with_reducible exact ih1 _ _ _ _ _ _)
   | (with_reducible exact ih2 _ _ _ _ _ _ _)
   | (with_reducible exact LeO.refl _)
   | (with_reducible exact LeO.none _)
   | (with_reducible refine LeO.ite ?_ ?_)
   | (with_reducible refine LeO.bind ?_ (fun _ => ?_))
   | exact ih0 _ _ _ _ _
   | exact ih1 _ _ _ _ _ _
   | exact ih2 _ _ _ _ _ _ _
   | exact LeO.none _
   | refine LeO.ite ?_ ?_
   | refine LeO.bind ?_ (fun _ => ?_)
  ·intro y0 y1 y2 y3 y4 y5
   unfold exactpplmake_Src_Diagram.j0
   repeat' first
   | (with_reducible exact ih0 _ _ _ _ _)
   | (with_reducible exact ih1 _ _ _ _ _ _)
   | (with_reducible exact ih2 _ _ _ _ _ _ _)
   | (with_reducible exact LeO.refl _)
   | (with_reducible exact LeO.none _)
   | (with_reducible refine LeO.ite ?_ ?_)
   | (with_reducible refine LeO.bind ?_ (fun _ => ?_))
   | exact ih0 _ _ _ _ _
   | exact ih1 _ _ _ _ _ _
   | exact ih2 _ _ _ _ _ _ _
   | exact LeO.none _
   | refine LeO.ite ?_ ?_
   | refine LeO.bind ?_ (fun _ => ?_)
  ·intro y0 y1 y2 y3 y4 y5 y6
   unfold exactpplmake_Src_Diagram.l0
   repeat' first
   | (with_reducible exact ih0 _ _ _ _ _)
   | (with_reducible exact ih1 _ _ _ _ _ _)
   | (with_reducible exact ih2 _ _ _ _ _ _ _)
   | (with_reducible exact LeO.refl _)
   | (with_reducible exact LeO.none _)
   | (with_reducible refine LeO.ite ?_ ?_)
   | (with_reducible refine LeO.bind ?_ (fun _ => ?_))
   | exact ih0 _ _ _ _ _
   | exact ih1 _ _ _ _ _ _
   | exact ih2 _ _ _ _ _ _ _
   | exact LeO.none _
   | refine LeO.ite ?_ ?_
   | refine LeO.bind ?_ (fun _ => ?_)
theorem exactpplmake_Src_Diagram.mono : ∀ a0 a1 a2 a3 a4 k, LeO (exactpplmake_Src_Diagram.f k a0 a1 a2 a3 a4) (exactpplmake_Src_Diagram.f (k + 1) a0 a1 a2 a3 a4) := by
 intro a0 a1 a2 a3 a4 k
 obtain ⟨ih0, ih1, ih2⟩ := exactpplmake_Src_Diagram.mono_l k
 exact ih0 a0 a1 a2 a3 a4
set_option maxHeartbeats 8000000 in
set_option maxRecDepth 100000 in
theorem exactpplmake_Src_Diagram.calls (k : Nat) : ∀ (g : Nat) (s0_0 : List Int) (s0_1 : Int) (s0_2 : Int) (a1 : Int) (a2 : Int) (r1 : List (S60)) (r2 : Int) (r3 : Int) (w0 w : World) (hI : IsS58 w0 w g s0_0 s0_1 s0_2) (hB : Below w0.heap.size w0 w) (h : exactpplmake_Src_Diagram.f k s0_0 s0_1 s0_2 a1 a2 = some (r1, r2, r3)),
  Calls Tryd.prog 22 #[.pointer (some ⟨g, 0, none⟩), .int .i64 a1, .int .i64 a2] w fun e w' => ∃ v0_ : Value, e = .returned (.agg #[v0_]) ∧ Kd.V k60 60 w' w.heap.size (fun k_ => (w.heap.size ≤ k_)) v0_ r1 ∧ IsS58 w0 w' g s0_0 r2 r3 ∧ Below w0.heap.size w0 w' ∧ KeepBut w w' g none := by
 induction k using Nat.strongRecOn with
 | _ k ih =>
 intro g s0_0 s0_1 s0_2 a1 a2 r1 r2 r3 w0 w hI hB h
 cases k with
 | zero => exact absurd h (by simp [exactpplmake_Src_Diagram.f])
 | succ k =>
 simp only [exactpplmake_Src_Diagram.f] at h
 have hu31 := Tryd.underlying31
 have HI0 := Aside0.mk hI
 have HK := Aside0.mk (KeepBut.refl w g none)
 have HL := Aside0.mk hB.size
 clear hI
 have HW0 := Aside0.mk hB.size
 have HB := Aside0.mk hB
 clear hB
 have H : (if a1 > a2 then (exactpplmake_Src_Diagram.j0 k a1 a2 true s0_0 s0_1 s0_2) else ((exactpplmake_Src_N.f s0_0 s0_1 s0_2 5).bind fun bt336 => (exactpplmake_Src_Diagram.j0 k a1 a2 (bt336.1 == 0) s0_0 bt336.2.1 bt336.2.2))) = some (r1, r2, r3) := h
 clear h
 have HC4 := Aside0.mk H
 clear H
 go_enter Tryd.func22, Tryd.ntmps22
 go_upto_region 1 with (first | ((with_reducible refine gate_dst (N := 6) rfl ?_); refine box_event ?hg (N := 6) ?hd (cs := #[.slice none 0 0]) (t := 31) ?hr ?_; (case hd => rfl); (case hg => rfl); (case hr => first | (go_simp; done) | (go_simp; rfl)); intro gb335 hg w5 hbox hb; have BK335 := Aside0.mk (hbox); have GW335 := Aside0.mk ((by rw [hg]; exact (keep_size (w := w) (g := g) (row := none) (by repeat (first | (with_reducible first | exact HK.out | apply KeepBut.set_ | apply keep_drewN | apply keep_drew | apply keep_alloc) | exact HK.out))) : w.heap.size ≤ gb335)); have GE335 := Aside0.mk ((Nat.le_trans HW0.out (by rw [hg]; exact (keep_size (w := w) (g := g) (row := none) (by repeat (first | (with_reducible first | exact HK.out | apply KeepBut.set_ | apply keep_drewN | apply keep_drew | apply keep_alloc) | exact HK.out))) : w.heap.size ≤ gb335) : w0.heap.size ≤ gb335)); have NB0_335 := Aside0.mk ((by rw [hg]; exact Nat.ne_of_lt (IsS58.lt (show IsS58 w0 _ g s0_0 s0_1 s0_2 from si_)) : g ≠ gb335)); have NB335_0 := Aside0.mk ((by rw [hg]; exact Nat.ne_of_gt (IsS58.lt (show IsS58 w0 _ g s0_0 s0_1 s0_2 from si_)) : gb335 ≠ g)); replace HI0 := Aside0.mk (IsS58.below si_ hb); replace HK := Aside0.mk (KeepBut.trans (by repeat (first | (with_reducible first | exact HK.out | apply KeepBut.set_ | apply keep_drewN | apply keep_drew | apply keep_alloc) | exact HK.out)) (KeepBut.of_below hb g none) (.inl rfl)); replace HB := Aside0.mk (below_step bl_ hb); clear hb hbox hg))
 (try simp only [Act.put, List.setIfInBounds_toArray, List.set_cons_zero, List.set_cons_succ])
 go_cut [16] (fun v16 wc => ∃ (kq : Nat) (x16_3 : Bool) (x1001_3 : Int) (x1002_3 : Int), v16 = .bool x16_3 ∧ Aside0 (exactpplmake_Src_Diagram.j0 kq a1 a2 x16_3 s0_0 x1001_3 x1002_3 = some (r1, r2, r3)) ∧ Aside0 (kq ≤ k) ∧ Aside0 (wc.heap[gb335]? = some (.cells #[(.slice none 0 0)] 31 (0, 0))) ∧ Aside0 (IsS58 w0 wc g s0_0 x1001_3 x1002_3) ∧ Aside0 (KeepBut w wc g none) ∧ Aside0 (Below w0.heap.size w0 wc))
 case first =>
  have H := HC4.out
  clear HC4
  by_cases c6 : a1 > a2
  ·rw [if_pos c6] at H
   have c6b0 : decide (a2 < a1) = true := decide_eq_true c6
   clear c6
   (first | rw [c6b0] | (simp only [i64_w, i32_w]; rw [c6b0]) | skip)
   have H' := Aside0.mk H
   clear H
   go_wp2
   go_meet
   case rel => exact ⟨_, (true), (s0_1), (s0_2), rs_, H', ⟨by first | omega | exact Nat.le_refl _⟩, ⟨bk_⟩, ⟨si_⟩, ⟨by repeat (first | (with_reducible first | exact HK.out | apply KeepBut.set_ | apply keep_drewN | apply keep_drew | apply keep_alloc | refine keep_far ?_ GW335.out _) | exact HK.out)⟩, ⟨bl_⟩⟩
  ·rw [if_neg c6] at H
   have c6b0 : decide (a2 < a1) = false := decide_eq_false c6
   clear c6
   (first | rw [c6b0] | (simp only [i64_w, i32_w]; rw [c6b0]) | skip)
   replace H := Option.bind_eq_some_iff.mp H
   obtain ⟨⟨t336, t337, t338⟩, A70, H⟩ := H
   replace H : (exactpplmake_Src_Diagram.j0 k a1 a2 (t336 == 0) s0_0 t337 t338) = some (r1, r2, r3) := H
   have A7 := Aside0.mk A70
   clear A70
   have H' := Aside0.mk H
   clear H
   go_wp2_with (first | (go_at_call 23; (with_reducible refine (exactpplmake_Src_N.calls g s0_0 s0_1 s0_2 5 t336 t337 t338 w0 _ ?side1 ?side2 A7.out).mono ?_); (case side1 => repeat (first | (with_reducible first | exact HI0.out | apply IsS58.alloc | apply IsS58.drewN | apply IsS58.drew | apply IsS58.set_1 | apply IsS58.set_2 | refine IsS58.far ?_ NB0_335.out _) | exact HI0.out)); (case side2 => repeat (first | (with_reducible first | exact HB.out | apply below_alloc | apply pw_below_drewN | apply below_drew1 | refine below_set ?_ (IsS58.ge HI0.out) | refine below_set ?_ GE335.out) | exact HB.out)); rintro e w8 ⟨rfl, hi, hb, hk⟩; replace BK335 := Aside0.mk (KeepBut.blk hk (g' := gb335) (o := .cells #[.slice none 0 0] 31 (0, 0)) bk_ NB335_0.out (by simp)); replace HK := Aside0.mk (KeepBut.trans (by repeat (first | (with_reducible first | exact HK.out | apply KeepBut.set_ | apply keep_drewN | apply keep_drew | apply keep_alloc | refine keep_far ?_ GW335.out _) | exact HK.out)) hk (.inl rfl)); replace HB := Aside0.mk (hb); replace HI0 := Aside0.mk (hi); (try clear hb); (try clear hb2); (try clear hk); (try clear hi)))
   go_meet
   case rel => exact ⟨_, ((t336 == 0)), (t337), (t338), rs_, H', ⟨by first | omega | exact Nat.le_refl _⟩, ⟨bk_⟩, ⟨si_⟩, ⟨by repeat (first | (with_reducible first | exact HK.out | apply KeepBut.set_ | apply keep_drewN | apply keep_drew | apply keep_alloc | refine keep_far ?_ GW335.out _) | exact HK.out)⟩, ⟨bl_⟩⟩
 case rest =>
  clear HC4
  try clear c2
  try clear p2
  try clear c6
  try clear c6b0
  obtain ⟨kq, x16_3, x1001_3, x1002_3, rfl, HA, HJ3, BK335, HI0, HK, HB⟩ := hcut
  cases kq with
  | zero => exact absurd HA.out (by simp [exactpplmake_Src_Diagram.j0])
  | succ kj3 =>
   have H := HA.out
   clear HA
   simp only [exactpplmake_Src_Diagram.j0] at H
   by_cases c9 : x16_3 = true
   ·subst c9
    have H1 : ((exactpplmake_Src_Range.f s0_0 x1001_3 x1002_3 (-2) 3).bind fun bt339 => ((exactpplref19_Const.f bt339.1).bind fun t342 => (some (t342, bt339.2.1, bt339.2.2)))) = some (r1, r2, r3) := by rw [if_pos rfl] at H; exact H
    clear H
    have H := H1
    clear H1
    replace H := Option.bind_eq_some_iff.mp H
    obtain ⟨⟨t339, t340, t341⟩, A100, H⟩ := H
    replace H : ((exactpplref19_Const.f t339).bind fun t342 => (some (t342, t340, t341))) = some (r1, r2, r3) := H
    have A10 := Aside0.mk A100
    clear A100
    replace H := Option.bind_eq_some_iff.mp H
    obtain ⟨t342, A110, H⟩ := H
    replace H : (some (t342, t340, t341)) = some (r1, r2, r3) := H
    have A11 := Aside0.mk A110
    clear A110
    simp only [Option.some.injEq, Prod.mk.injEq] at H
    obtain ⟨rfl, rfl, rfl⟩ := H
    go_wp2_with (first | ((with_reducible refine gate_callee (f := 25) rfl ?_); refine goesL_ (some 18) rfl rfl Tryd.func25 (by kernel_rfl) rfl #[.pointer (some ⟨g, 0, none⟩), .int .i64 (-2), .int .i64 3] rfl (by (try simp only [List.map_toArray, List.map_cons, List.map_nil]); first | done | rfl | (simp only [List.length_drop, List.length_take]; rfl)) ?_; (with_reducible refine (exactpplmake_Src_Range.calls g s0_0 x1001_3 x1002_3 (-2) 3 t339 t340 t341 w0 _ ?side1 ?side2 A10.out).mono ?_); (case side1 => repeat (first | (with_reducible first | exact HI0.out | apply IsS58.alloc | apply IsS58.drewN | apply IsS58.drew | apply IsS58.set_1 | apply IsS58.set_2 | refine IsS58.far ?_ NB0_335.out _) | exact HI0.out)); (case side2 => repeat (first | (with_reducible first | exact HB.out | apply below_alloc | apply pw_below_drewN | apply below_drew1 | refine below_set ?_ (IsS58.ge HI0.out) | refine below_set ?_ GE335.out) | exact HB.out)); rintro e w12 ⟨rfl, hi, hb, hk⟩; refine ⟨_, rfl, ?_⟩; replace BK335 := Aside0.mk (KeepBut.blk hk (g' := gb335) (o := .cells #[.slice none 0 0] 31 (0, 0)) bk_ NB335_0.out (by simp)); replace HK := Aside0.mk (KeepBut.trans (by repeat (first | (with_reducible first | exact HK.out | apply KeepBut.set_ | apply keep_drewN | apply keep_drew | apply keep_alloc | refine keep_far ?_ GW335.out _) | exact HK.out)) hk (.inl rfl)); replace HB := Aside0.mk (hb); replace HI0 := Aside0.mk (hi); (try clear hb); (try clear hb2); (try clear hk); (try clear hi)) | ((with_reducible refine gate_callee (f := 33) rfl ?_); refine goesL_ (some 19) rfl rfl Tryd.func33 (by kernel_rfl) rfl #[.int .i64 t339] rfl (by (try simp only [List.map_toArray, List.map_cons, List.map_nil]); first | done | rfl | (simp only [List.length_drop, List.length_take]; rfl)) ?_; (with_reducible refine (exactpplref19_Const.calls t339 t342 _ A11.out).mono ?_); rintro e w13 ⟨v343, rfl, ho0, hb⟩; refine ⟨_, rfl, ?_⟩; have HO344 := Aside0.mk (Kd.N_lower (Kd.N_mono (ok' := fun k_ => (w.heap.size ≤ k_) ∧ k_ ≠ gb335 ∧ k_ ≠ g) (Kd.S_N (Kd.S_bound ho0)) (fun k_ hk_ => ⟨(Nat.le_trans (keep_size (w := w) (g := g) (row := none) (by repeat (first | (with_reducible first | exact HK.out | apply KeepBut.set_ | apply keep_drewN | apply keep_drew | apply keep_alloc | refine keep_far ?_ GW335.out _) | exact HK.out))) hk_.2.1), (Kd.freshB (g := gb335) (o := .cells #[.slice none 0 0] 31 (0, 0)) bk_ k_ hk_.2.1), (IsS58.fresh si_ k_ hk_.2.1)⟩)) (keep_size (w := w) (g := g) (row := none) (by repeat (first | (with_reducible first | exact HK.out | apply KeepBut.set_ | apply keep_drewN | apply keep_drew | apply keep_alloc | refine keep_far ?_ GW335.out _) | exact HK.out)))); replace BK335 := Aside0.mk (blk_below (g := gb335) (o := .cells #[.slice none 0 0] 31 (0, 0)) bk_ hb); replace HI0 := Aside0.mk (IsS58.below si_ hb); replace HK := Aside0.mk (KeepBut.trans (by repeat (first | (with_reducible first | exact HK.out | apply KeepBut.set_ | apply keep_drewN | apply keep_drew | apply keep_alloc | refine keep_far ?_ GW335.out _) | exact HK.out)) (KeepBut.of_below hb g none) (.inl rfl)); replace HB := Aside0.mk (below_step bl_ hb); (try clear hb); (try clear hb2); (try clear hk); (try clear hi); (try clear ho0); obtain ⟨Ao14, co14, eo14⟩ := Kd.N_slice HO344.out; subst eo14; have hnb15 := NB335_0.out; have hnc15 := NB0_335.out; obtain ⟨hcz16_0, hfz16_0⟩ := cf1_ BK335.out))
    refine bodyPost_ret (results_cell_row rfl _ _ gb335 31 #[.slice Ao14 t342.length co14] (0, 0) _ rfl (by (with_reducible repeat (first | refine blk_drewN ?_ _ | refine blk_drew ?_ | refine blk_alloc ?_ _)); refine blk_put (cs := #[.slice none 0 0]) ?_ 0 _ rfl; (with_reducible repeat (first | refine blk_drewN ?_ _ | refine blk_drew ?_ | refine blk_alloc ?_ _)); exact BK335.out) Tryd.underlying31 rfl (by kernel_rfl)) rfl ?_
    exact ⟨_, re_, Kd.N_V (by (with_reducible repeat (first | apply Kd.N_alloc | apply Kd.N_drewN | apply Kd.N_drew)); exact Kd.N_mono (Kd.N_far (p := ⟨gb335, 0, none⟩) (Kd.N_mono HO344.out (fun k_ hk => (⟨hk, by first | exact hk.2.1 | exact hk.1 | exact hk.2 | exact hk.1.1 | exact hk.1.2⟩ : _ ∧ k_ ≠ gb335))) (fun _ hk => hk.2) (.slice Ao14 t342.length co14)) (fun _ hk => hk.1.1)), si_, bl_, by repeat (first | (with_reducible first | exact HK.out | apply KeepBut.set_ | apply keep_drewN | apply keep_drew | apply keep_alloc | refine keep_far ?_ GW335.out _) | exact HK.out)⟩
   ·replace c9 := Bool.eq_false_iff.mpr c9
    subst c9
    have H1 : ((exactpplmake_Src_N.f s0_0 x1001_3 x1002_3 4).bind fun bt345 => (if bt345.1 = 0 then ((exactpplmake_Src_Diagram.f kj3 s0_0 bt345.2.1 bt345.2.2 (wrap64 (a1 + 1)) a2).bind fun bt348 => (some (bt348.1, bt348.2.1, bt348.2.2))) else (exactpplmake_Src_Diagram.l0 kj3 a1 a2 ([] : List (S31)) 0 s0_0 bt345.2.1 bt345.2.2))) = some (r1, r2, r3) := by rw [if_neg (show ¬ (false = true) by decide)] at H; exact H
    clear H
    have H := H1
    clear H1
    replace H := Option.bind_eq_some_iff.mp H
    obtain ⟨⟨t345, t346, t347⟩, A170, H⟩ := H
    replace H : (if t345 = 0 then ((exactpplmake_Src_Diagram.f kj3 s0_0 t346 t347 (wrap64 (a1 + 1)) a2).bind fun bt348 => (some (bt348.1, bt348.2.1, bt348.2.2))) else (exactpplmake_Src_Diagram.l0 kj3 a1 a2 ([] : List (S31)) 0 s0_0 t346 t347)) = some (r1, r2, r3) := H
    have A17 := Aside0.mk A170
    clear A170
    by_cases c18 : t345 = 0
    ·rw [if_pos c18] at H
     have c18b0 : (t345 == 0) = true := beq_iff_eq.mpr c18
     have c18b1 : (t345 != 0) = false := bne_eq_false_iff_eq.mpr c18
     clear c18
     replace H := Option.bind_eq_some_iff.mp H
     obtain ⟨⟨t348, t351, t352⟩, A190, H⟩ := H
     replace H : (some (t348, t351, t352)) = some (r1, r2, r3) := H
     have A19 := Aside0.mk A190
     clear A190
     simp only [Option.some.injEq, Prod.mk.injEq] at H
     obtain ⟨rfl, rfl, rfl⟩ := H
     go_wp2_with (first | ((with_reducible refine gate_callee (f := 23) rfl ?_); refine goesL_ (some 21) rfl rfl Tryd.func23 (by kernel_rfl) rfl #[.pointer (some ⟨g, 0, none⟩), .int .i64 4] rfl (by (try simp only [List.map_toArray, List.map_cons, List.map_nil]); first | done | rfl | (simp only [List.length_drop, List.length_take]; rfl)) ?_; (with_reducible refine (exactpplmake_Src_N.calls g s0_0 x1001_3 x1002_3 4 t345 t346 t347 w0 _ ?side1 ?side2 A17.out).mono ?_); (case side1 => repeat (first | (with_reducible first | exact HI0.out | apply IsS58.alloc | apply IsS58.drewN | apply IsS58.drew | apply IsS58.set_1 | apply IsS58.set_2 | refine IsS58.far ?_ NB0_335.out _) | exact HI0.out)); (case side2 => repeat (first | (with_reducible first | exact HB.out | apply below_alloc | apply pw_below_drewN | apply below_drew1 | refine below_set ?_ (IsS58.ge HI0.out) | refine below_set ?_ GE335.out) | exact HB.out)); rintro e w20 ⟨rfl, hi, hb, hk⟩; refine ⟨_, rfl, ?_⟩; replace BK335 := Aside0.mk (KeepBut.blk hk (g' := gb335) (o := .cells #[.slice none 0 0] 31 (0, 0)) bk_ NB335_0.out (by simp)); replace HK := Aside0.mk (KeepBut.trans (by repeat (first | (with_reducible first | exact HK.out | apply KeepBut.set_ | apply keep_drewN | apply keep_drew | apply keep_alloc | refine keep_far ?_ GW335.out _) | exact HK.out)) hk (.inl rfl)); replace HB := Aside0.mk (hb); replace HI0 := Aside0.mk (hi); (try clear hb); (try clear hb2); (try clear hk); (try clear hi)) | ((with_reducible refine gate_callee (f := 22) rfl ?_); refine goesL_ (some 27) rfl rfl Tryd.func22 (by kernel_rfl) rfl #[.pointer (some ⟨g, 0, none⟩), .int .i64 (wrap64 (a1 + 1)), .int .i64 a2] rfl (by (try simp only [List.map_toArray, List.map_cons, List.map_nil]); first | done | rfl | (simp only [List.length_drop, List.length_take]; rfl)) ?_; (with_reducible refine (ih kj3 (by have := HJ3.out; omega) g s0_0 t346 t347 (wrap64 (a1 + 1)) a2 t348 t351 t352 w0 _ ?side1 ?side2 A19.out).mono ?_); (case side1 => repeat (first | (with_reducible first | exact HI0.out | apply IsS58.alloc | apply IsS58.drewN | apply IsS58.drew | apply IsS58.set_1 | apply IsS58.set_2 | refine IsS58.far ?_ NB0_335.out _) | exact HI0.out)); (case side2 => repeat (first | (with_reducible first | exact HB.out | apply below_alloc | apply pw_below_drewN | apply below_drew1 | refine below_set ?_ (IsS58.ge HI0.out) | refine below_set ?_ GE335.out) | exact HB.out)); rintro e w21 ⟨v349, rfl, ho0, hi, hb, hk⟩; refine ⟨_, rfl, ?_⟩; have HO350 := Aside0.mk (Kd.V_lower (Kd.V_mono (ok' := fun k_ => (w.heap.size ≤ k_) ∧ k_ ≠ gb335 ∧ k_ ≠ g) ho0 (fun k_ hk_ => ⟨(Nat.le_trans (keep_size (w := w) (g := g) (row := none) (by repeat (first | (with_reducible first | exact HK.out | apply KeepBut.set_ | apply keep_drewN | apply keep_drew | apply keep_alloc | refine keep_far ?_ GW335.out _) | exact HK.out))) hk_), (Kd.freshB (g := gb335) (o := .cells #[.slice none 0 0] 31 (0, 0)) bk_ k_ hk_), (IsS58.fresh si_ k_ hk_)⟩)) (keep_size (w := w) (g := g) (row := none) (by repeat (first | (with_reducible first | exact HK.out | apply KeepBut.set_ | apply keep_drewN | apply keep_drew | apply keep_alloc | refine keep_far ?_ GW335.out _) | exact HK.out)))); replace BK335 := Aside0.mk (KeepBut.blk hk (g' := gb335) (o := .cells #[.slice none 0 0] 31 (0, 0)) bk_ NB335_0.out (by simp)); replace HK := Aside0.mk (KeepBut.trans (by repeat (first | (with_reducible first | exact HK.out | apply KeepBut.set_ | apply keep_drewN | apply keep_drew | apply keep_alloc | refine keep_far ?_ GW335.out _) | exact HK.out)) hk (.inl rfl)); replace HB := Aside0.mk (hb); replace HI0 := Aside0.mk (hi); (try clear hb); (try clear hb2); (try clear hk); (try clear hi); (try clear ho0); obtain ⟨Ao22, co22, eo22⟩ := Kd.V_slice HO350.out; subst eo22; have hnb23 := NB335_0.out; have hnc23 := NB0_335.out; obtain ⟨hcz24_0, hfz24_0⟩ := cf1_ BK335.out))
     refine bodyPost_ret (results_cell_row rfl _ _ gb335 31 #[.slice Ao22 t348.length co22] (0, 0) _ rfl (by (with_reducible repeat (first | refine blk_drewN ?_ _ | refine blk_drew ?_ | refine blk_alloc ?_ _)); refine blk_put (cs := #[.slice none 0 0]) ?_ 0 _ rfl; (with_reducible repeat (first | refine blk_drewN ?_ _ | refine blk_drew ?_ | refine blk_alloc ?_ _)); exact BK335.out) Tryd.underlying31 rfl (by kernel_rfl)) rfl ?_
     exact ⟨_, re_, by (with_reducible repeat (first | apply Kd.V_alloc | apply Kd.V_drewN | apply Kd.V_drew)); exact Kd.V_mono (Kd.V_far (p := ⟨gb335, 0, none⟩) (Kd.V_mono HO350.out (fun k_ hk => (⟨hk, by first | exact hk.2.1 | exact hk.1 | exact hk.2 | exact hk.1.1 | exact hk.1.2⟩ : _ ∧ k_ ≠ gb335))) (fun _ hk => hk.2) (.slice Ao22 t348.length co22)) (fun _ hk => hk.1.1), si_, bl_, by repeat (first | (with_reducible first | exact HK.out | apply KeepBut.set_ | apply keep_drewN | apply keep_drew | apply keep_alloc | refine keep_far ?_ GW335.out _) | exact HK.out)⟩
    ·rw [if_neg c18] at H
     have c18b0 : (t345 == 0) = false := beq_eq_false_iff_ne.mpr c18
     have c18b1 : (t345 != 0) = true := bne_iff_ne.mpr c18
     have H' := Aside0.mk H
     clear H
     go_wp2_with (first | ((with_reducible refine gate_callee (f := 23) rfl ?_); refine goesL_ (some 21) rfl rfl Tryd.func23 (by kernel_rfl) rfl #[.pointer (some ⟨g, 0, none⟩), .int .i64 4] rfl (by (try simp only [List.map_toArray, List.map_cons, List.map_nil]); first | done | rfl | (simp only [List.length_drop, List.length_take]; rfl)) ?_; (with_reducible refine (exactpplmake_Src_N.calls g s0_0 x1001_3 x1002_3 4 t345 t346 t347 w0 _ ?side1 ?side2 A17.out).mono ?_); (case side1 => repeat (first | (with_reducible first | exact HI0.out | apply IsS58.alloc | apply IsS58.drewN | apply IsS58.drew | apply IsS58.set_1 | apply IsS58.set_2 | refine IsS58.far ?_ NB0_335.out _) | exact HI0.out)); (case side2 => repeat (first | (with_reducible first | exact HB.out | apply below_alloc | apply pw_below_drewN | apply below_drew1 | refine below_set ?_ (IsS58.ge HI0.out) | refine below_set ?_ GE335.out) | exact HB.out)); rintro e w25 ⟨rfl, hi, hb, hk⟩; refine ⟨_, rfl, ?_⟩; replace BK335 := Aside0.mk (KeepBut.blk hk (g' := gb335) (o := .cells #[.slice none 0 0] 31 (0, 0)) bk_ NB335_0.out (by simp)); replace HK := Aside0.mk (KeepBut.trans (by repeat (first | (with_reducible first | exact HK.out | apply KeepBut.set_ | apply keep_drewN | apply keep_drew | apply keep_alloc | refine keep_far ?_ GW335.out _) | exact HK.out)) hk (.inl rfl)); replace HB := Aside0.mk (hb); replace HI0 := Aside0.mk (hi); (try clear hb); (try clear hb2); (try clear hk); (try clear hi)))
     go_loopg [7, 8] kj3 (fun kq v7 v8 w' => ∃ (x7_2 : List (S31)) (x8_2 : Int) (x1001_2 : Int) (x1002_2 : Int), v8 = .int .i64 x8_2 ∧ Aside0 (exactpplmake_Src_Diagram.l0 kq a1 a2 x7_2 x8_2 s0_0 x1001_2 x1002_2 = some (r1, r2, r3)) ∧ Aside0 (kq ≤ kj3) ∧ Aside0 (Kd.N k31 31 w' w.heap.size (fun k_ => (w.heap.size ≤ k_) ∧ k_ ≠ gb335 ∧ k_ ≠ g) v7 x7_2) ∧ Aside0 (w'.heap[gb335]? = some (.cells #[(.slice none 0 0)] 31 (0, 0))) ∧ Aside0 (IsS58 w0 w' g s0_0 x1001_2 x1002_2) ∧ Aside0 (KeepBut w w' g none) ∧ Aside0 (Below w0.heap.size w0 w'))
     case atStart => exact ⟨(([] : List (S31))), (0), (t346), (t347), rs_, H', ⟨Nat.le_refl _⟩, ⟨by first | exact Kd.R_nil _ _ _ _ _ | exact Kd.N_nil _ _ _ _ _ | exact Kd.V_nil _ _ _ _ _ | exact Kd.Q_nil _ _ _ _ _ | exact Kd.S_nil _ _ _ _ _⟩, ⟨bk_⟩, ⟨si_⟩, ⟨by repeat (first | (with_reducible first | exact HK.out | apply KeepBut.set_ | apply keep_drewN | apply keep_drew | apply keep_alloc | refine keep_far ?_ GW335.out _) | exact HK.out)⟩, ⟨bl_⟩⟩
     case round =>
      clear H'
      try clear c1
      try clear c2
      try clear p2
      try clear c3
      try clear c6
      try clear c6b0
      try clear p6
      try clear c9
      try clear c15
      try clear c18
      try clear c18b0
      try clear c18b1
      try clear c22
      try clear c23
      try clear c25
      try clear hcz16_0 hfz16_0
      try clear hcz24_0 hfz24_0
      try clear p2
      obtain ⟨x7_2, x8_2, x1001_2, x1002_2, rfl, HA, HK2, HO_7, BK335, HI0, HK, HB⟩ := hrel
      cases gk with
      | zero => exact absurd HA.out (by simp [exactpplmake_Src_Diagram.l0])
      | succ k2 =>
       have H := HA.out
       clear HA
       simp only [exactpplmake_Src_Diagram.l0] at H
       replace H := Option.bind_eq_some_iff.mp H
       obtain ⟨t353, A260, H⟩ := H
       replace H : (if x8_2 < t353 then ((exactpplmake_Src_Diagram.f k2 s0_0 x1001_2 x1002_2 (wrap64 (a1 + 1)) a2).bind fun bt354 => (if x7_2.length < 5864062014805 then (exactpplmake_Src_Diagram.l0 k2 a1 a2 (x7_2 ++ [(⟨bt354.1⟩ : S31)]) (wrap64 (x8_2 + 1)) s0_0 bt354.2.1 bt354.2.2) else (none))) else ((exactpplref19_Join.f a1 x7_2).bind fun t362 => (some (t362, x1001_2, x1002_2)))) = some (r1, r2, r3) := H
       have A26 := Aside0.mk A260
       clear A260
       by_cases c27 : x8_2 < t353
       ·rw [if_pos c27] at H
        have c27b0 : decide (x8_2 < t353) = true := decide_eq_true c27
        clear c27
        replace H := Option.bind_eq_some_iff.mp H
        obtain ⟨⟨t354, t357, t358⟩, A280, H⟩ := H
        replace H : (if x7_2.length < 5864062014805 then (exactpplmake_Src_Diagram.l0 k2 a1 a2 (x7_2 ++ [(⟨t354⟩ : S31)]) (wrap64 (x8_2 + 1)) s0_0 t357 t358) else (none)) = some (r1, r2, r3) := H
        have A28 := Aside0.mk A280
        clear A280
        by_cases c29 : x7_2.length < 5864062014805
        ·rw [if_pos c29] at H
         have LMc29 := Aside0.mk c29
         clear c29
         obtain ⟨y359, hy359⟩ : ∃ y_ : List (S31), y_ = (x7_2 ++ [(⟨t354⟩ : S31)]) := ⟨_, rfl⟩
         replace H : (exactpplmake_Src_Diagram.l0 k2 a1 a2 y359 (wrap64 (x8_2 + 1)) s0_0 t357 t358) = some (r1, r2, r3) := by first | (rw [hy359]; with_reducible exact H) | (have H2_ := (Option.bind_some _ _).symm.trans H; rw [hy359]; with_reducible exact H2_) | (have H2_ := (Option.bind_some _ _).symm.trans H; with_reducible exact H2_) | with_reducible exact H | (rw [hy359]; exact H) | exact H
         have Ny359 := Aside0.mk hy359
         clear hy359
         have H' := Aside0.mk H
         clear H
         go_wp2_with (first | ((with_reducible refine gate_callee (f := 42) rfl ?_); refine goesL_ (some 30) rfl rfl Tryd.func42 (by kernel_rfl) rfl #[.int .i64 a1] rfl (by (try simp only [List.map_toArray, List.map_cons, List.map_nil]); first | done | rfl | (simp only [List.length_drop, List.length_take]; rfl)) ?_; (with_reducible refine (exactpplmake_Width.calls a1 t353 _ A26.out).mono ?_); rintro e w' ⟨rfl, ⟨nd, rfl⟩⟩; refine ⟨_, rfl, ?_⟩) | ((with_reducible refine gate_callee (f := 22) rfl ?_); refine goesL_ (some 39) rfl rfl Tryd.func22 (by kernel_rfl) rfl #[.pointer (some ⟨g, 0, none⟩), .int .i64 (wrap64 (a1 + 1)), .int .i64 a2] rfl (by (try simp only [List.map_toArray, List.map_cons, List.map_nil]); first | done | rfl | (simp only [List.length_drop, List.length_take]; rfl)) ?_; (with_reducible refine (ih k2 (by have := HJ3.out; have := HK2.out; omega) g s0_0 x1001_2 x1002_2 (wrap64 (a1 + 1)) a2 t354 t357 t358 w0 _ ?side1 ?side2 A28.out).mono ?_); (case side1 => repeat (first | (with_reducible first | exact HI0.out | apply IsS58.alloc | apply IsS58.drewN | apply IsS58.drew | apply IsS58.set_1 | apply IsS58.set_2 | refine IsS58.far ?_ NB0_335.out _) | exact HI0.out)); (case side2 => repeat (first | (with_reducible first | exact HB.out | apply below_alloc | apply pw_below_drewN | apply below_drew1 | refine below_set ?_ (IsS58.ge HI0.out) | refine below_set ?_ GE335.out) | exact HB.out)); rintro e w30 ⟨v355, rfl, ho0, hi, hb, hk⟩; refine ⟨_, rfl, ?_⟩; have HO356 := Aside0.mk (Kd.V_lower (Kd.V_mono (ok' := fun k_ => (w.heap.size ≤ k_) ∧ some k_ ≠ (u7 : Value).ownBlock ∧ k_ ≠ gb335 ∧ k_ ≠ g) ho0 (fun k_ hk_ => ⟨(Nat.le_trans (keep_size (w := w) (g := g) (row := none) (by repeat (first | (with_reducible first | exact HK.out | apply KeepBut.set_ | apply keep_drewN | apply keep_drew | apply keep_alloc | refine keep_far ?_ GW335.out _) | exact HK.out))) hk_), (Kd.fresh' (Kd.N_lt (pN_ HO_7.out)) k_ hk_), (Kd.freshB (g := gb335) (o := .cells #[.slice none 0 0] 31 (0, 0)) bk_ k_ hk_), (IsS58.fresh si_ k_ hk_)⟩)) (keep_size (w := w) (g := g) (row := none) (by repeat (first | (with_reducible first | exact HK.out | apply KeepBut.set_ | apply keep_drewN | apply keep_drew | apply keep_alloc | refine keep_far ?_ GW335.out _) | exact HK.out)))); replace HO_7 := Aside0.mk (Kd.N_mono (Kd.N_keep (Kd.N_mono (ok := fun k_ => (((w.heap.size ≤ k_)) ∧ (k_ ≠ gb335 ∧ k_ ≠ g))) (pN_ HO_7.out) (fun k_ hk_ => (⟨hk_, hk_.2.2⟩ : _ ∧ k_ ≠ g))) hk (fun _ h => h.2)) (fun _ h => h.1)); replace BK335 := Aside0.mk (KeepBut.blk hk (g' := gb335) (o := .cells #[.slice none 0 0] 31 (0, 0)) bk_ NB335_0.out (by simp)); replace HK := Aside0.mk (KeepBut.trans (by repeat (first | (with_reducible first | exact HK.out | apply KeepBut.set_ | apply keep_drewN | apply keep_drew | apply keep_alloc | refine keep_far ?_ GW335.out _) | exact HK.out)) hk (.inl rfl)); replace HB := Aside0.mk (hb); replace HI0 := Aside0.mk (hi); (try clear hb); (try clear hb2); (try clear hk); (try clear hi); (try clear ho0); obtain ⟨Ao32, co32, eo32⟩ := Kd.V_slice HO356.out; subst eo32) | ((with_reducible refine gate_builtin (b := .append) (xs := #[.tmp 34, .tmp 40]) rfl ?_); at_builtin; refine Kd.N_append k31 w.heap.size rfl (.tmp 34) (.tmp 40) 48 31 (.agg #[(.slice none 0 0)]) 24 rfl Tryd.underlying48 info31 rfl (by decide) (by omega) u7 x7_2 (⟨t354⟩ : S31) [.slice Ao32 t354.length co32] (fun k_ => (w.heap.size ≤ k_) ∧ k_ ≠ gb335 ∧ k_ ≠ g) (fun k_ => ((fun k_ => (w.heap.size ≤ k_) ∧ k_ ≠ gb335 ∧ k_ ≠ g)) k_ ∧ some k_ ≠ (u7 : Value).ownBlock) rfl rfl ?aP (fun _ hk => hk) ?aF ?aO (Below.refl _ _) ?aS ?aL ?_; (case aP => exact (k31_mkF _ _ (⟨t354⟩ : S31) (Kd.V_reads' (Kd.V_mono (ok' := (fun k_ => ((fun k_ => (w.heap.size ≤ k_) ∧ k_ ≠ gb335 ∧ k_ ≠ g)) k_ ∧ some k_ ≠ (u7 : Value).ownBlock)) (HO356.out) (fun k_ hk => ⟨⟨hk.1, ⟨hk.2.2.1, hk.2.2.2⟩⟩, hk.2.1⟩))).2.1 (Kd.V_F (Kd.V_mono (ok' := (fun k_ => ((fun k_ => (w.heap.size ≤ k_) ∧ k_ ≠ gb335 ∧ k_ ≠ g)) k_ ∧ some k_ ≠ (u7 : Value).ownBlock)) (HO356.out) (fun k_ hk => ⟨⟨hk.1, ⟨hk.2.2.1, hk.2.2.2⟩⟩, hk.2.1⟩))))); (case aF => exact (fun k_ hk => ⟨(Nat.le_trans (keep_size (w := w) (g := g) (row := none) (by repeat (first | (with_reducible first | exact HK.out | apply KeepBut.set_ | apply keep_drewN | apply keep_drew | apply keep_alloc | refine keep_far ?_ GW335.out _) | exact HK.out))) hk), Kd.freshB (g := gb335) (o := .cells #[.slice none 0 0] 31 (0, 0)) bk_ k_ hk, IsS58.fresh si_ k_ hk⟩)); (case aO => exact (pN_ HO_7.out)); (case aS => exact (keep_size (w := w) (g := g) (row := none) (by repeat (first | (with_reducible first | exact HK.out | apply KeepBut.set_ | apply keep_drewN | apply keep_drew | apply keep_alloc | refine keep_far ?_ GW335.out _) | exact HK.out)))); (case aL => have := LMc29.out; omega); intro v360 w31 ho hb hg hat; rw [← Ny359.out] at ho; have HO361 := Aside0.mk (ho); replace BK335 := Aside0.mk (blk_grown (g := gb335) (o := .cells #[.slice none 0 0] 31 (0, 0)) bk_ hg (Kd.N_away HO_7.out (fun _ hk => hk.2.1))); replace HI0 := Aside0.mk (IsS58.grown si_ hg (IsS58.own_neN HI0.out HO_7.out (by decide))); replace HO356 := Aside0.mk (Kd.V_afterv (ok := (fun k_ => (w.heap.size ≤ k_) ∧ k_ ≠ gb335 ∧ k_ ≠ g)) (by (with_reducible repeat (first | apply Kd.V_alloc | apply Kd.V_drewN | apply Kd.V_drew)); exact Kd.V_mono HO356.out (fun _ hk => ⟨⟨hk.1, ⟨hk.2.2.1, hk.2.2.2⟩⟩, hk.2.1⟩)) hg hat); replace HB := Aside0.mk (below_weaken bl_ HL.out hb); replace HK := Aside0.mk (KeepBut.trans (by repeat (first | (with_reducible first | exact HK.out | apply KeepBut.set_ | apply keep_drewN | apply keep_drew | apply keep_alloc | refine keep_far ?_ GW335.out _) | exact HK.out)) (KeepBut.of_grown hg g) (Kd.N_base2 HO_7.out)); clear HO_7; clear ho hb hg hat))
         go_roundg k2
         case measure => have := HJ3.out; have := HK2.out; omega
         case rel => exact ⟨(y359), (wrap64 (x8_2 + 1)), (t357), (t358), rs_, H', ⟨by have := HJ3.out; have := HK2.out; omega⟩, ⟨pN_ HO361.out⟩, ⟨bk_⟩, ⟨si_⟩, ⟨by repeat (first | (with_reducible first | exact HK.out | apply KeepBut.set_ | apply keep_drewN | apply keep_drew | apply keep_alloc | refine keep_far ?_ GW335.out _) | exact HK.out)⟩, ⟨bl_⟩⟩
        ·rw [if_neg c29] at H
         exact absurd H (by simp)
       ·rw [if_neg c27] at H
        have c27b0 : decide (x8_2 < t353) = false := decide_eq_false c27
        clear c27
        replace H := Option.bind_eq_some_iff.mp H
        obtain ⟨t362, A330, H⟩ := H
        replace H : (some (t362, x1001_2, x1002_2)) = some (r1, r2, r3) := H
        have A33 := Aside0.mk A330
        clear A330
        simp only [Option.some.injEq, Prod.mk.injEq] at H
        obtain ⟨rfl, rfl, rfl⟩ := H
        go_wp2_with (first | ((with_reducible refine gate_callee (f := 42) rfl ?_); refine goesL_ (some 30) rfl rfl Tryd.func42 (by kernel_rfl) rfl #[.int .i64 a1] rfl (by (try simp only [List.map_toArray, List.map_cons, List.map_nil]); first | done | rfl | (simp only [List.length_drop, List.length_take]; rfl)) ?_; (with_reducible refine (exactpplmake_Width.calls a1 t353 _ A26.out).mono ?_); rintro e w' ⟨rfl, ⟨nd, rfl⟩⟩; refine ⟨_, rfl, ?_⟩; (try (rw [drewN_self wr]; generalize hq_ : World.drewN wr _ = wr; replace HO_7 : Aside0 (Kd.N k31 31 wr w.heap.size (fun k_ => (w.heap.size ≤ k_) ∧ k_ ≠ g ∧ k_ ≠ gb335) u7 x7_2) := ⟨by rw [← hq_]; exact (by (with_reducible repeat (first | apply Kd.N_alloc | apply Kd.N_drewN | apply Kd.N_drew)); exact Kd.N_mono HO_7.out (fun _ hk => ⟨hk.1, ⟨hk.2.2, hk.2.1⟩⟩))⟩; replace BK335 : Aside0 (wr.heap[gb335]? = some (.cells #[.slice none 0 0] 31 (0, 0))) := ⟨by rw [← hq_]; exact bk_⟩; replace HI0 : Aside0 (IsS58 w0 wr g s0_0 x1001_2 x1002_2) := ⟨by rw [← hq_]; exact si_⟩; replace HK : Aside0 (KeepBut w wr g none) := ⟨by rw [← hq_]; exact (by repeat (first | (with_reducible first | exact HK.out | apply KeepBut.set_ | apply keep_drewN | apply keep_drew | apply keep_alloc | refine keep_far ?_ GW335.out _) | exact HK.out))⟩; replace HB : Aside0 (Below w0.heap.size w0 wr) := ⟨by rw [← hq_]; exact bl_⟩; clear hq_)); obtain ⟨Ao34, co34, eo34⟩ := Kd.N_slice HO_7.out; subst eo34) | ((with_reducible refine gate_callee (f := 53) rfl ?_); refine goesL_ (some 44) rfl rfl Tryd.func53 (by kernel_rfl) rfl #[.int .i64 a1, .slice Ao34 x7_2.length co34] rfl (by (try simp only [List.map_toArray, List.map_cons, List.map_nil]); first | done | rfl | (simp only [List.length_drop, List.length_take]; rfl)) ?_; (with_reducible refine (exactpplref19_Join.calls a1 _ _ x7_2 t362 _ ?side1 ?side2 A33.out).mono ?_); (case side1 => repeat (first | exact (Kd.N_reads' HO_7.out).2.2 | (with_reducible refine Kd.C_alloc ?_ _) | (with_reducible refine Kd.C_drewN ?_ _) | (with_reducible refine Kd.C_drew ?_))); (case side2 => exact (Kd.N_reads' HO_7.out).2.1); rintro e w35 ⟨v363, rfl, ho0, hb⟩; refine ⟨_, rfl, ?_⟩; have HO364 := Aside0.mk (Kd.V_lower (Kd.V_mono (ok' := fun k_ => (w.heap.size ≤ k_) ∧ some k_ ≠ (.slice Ao34 x7_2.length co34 : Value).ownBlock ∧ k_ ≠ gb335 ∧ k_ ≠ g) ho0 (fun k_ hk_ => ⟨(Nat.le_trans (keep_size (w := w) (g := g) (row := none) (by repeat (first | (with_reducible first | exact HK.out | apply KeepBut.set_ | apply keep_drewN | apply keep_drew | apply keep_alloc | refine keep_far ?_ GW335.out _) | exact HK.out))) hk_), (Kd.fresh' (Kd.N_lt (pN_ HO_7.out)) k_ hk_), (Kd.freshB (g := gb335) (o := .cells #[.slice none 0 0] 31 (0, 0)) bk_ k_ hk_), (IsS58.fresh si_ k_ hk_)⟩)) (keep_size (w := w) (g := g) (row := none) (by repeat (first | (with_reducible first | exact HK.out | apply KeepBut.set_ | apply keep_drewN | apply keep_drew | apply keep_alloc | refine keep_far ?_ GW335.out _) | exact HK.out)))); replace HO_7 := Aside0.mk (Kd.N_below (pN_ HO_7.out) hb); replace BK335 := Aside0.mk (blk_below (g := gb335) (o := .cells #[.slice none 0 0] 31 (0, 0)) bk_ hb); replace HI0 := Aside0.mk (IsS58.below si_ hb); replace HK := Aside0.mk (KeepBut.trans (by repeat (first | (with_reducible first | exact HK.out | apply KeepBut.set_ | apply keep_drewN | apply keep_drew | apply keep_alloc | refine keep_far ?_ GW335.out _) | exact HK.out)) (KeepBut.of_below hb g none) (.inl rfl)); replace HB := Aside0.mk (below_step bl_ hb); (try clear hb); (try clear hb2); (try clear hk); (try clear hi); (try clear ho0); obtain ⟨Ao36, co36, eo36⟩ := Kd.V_slice HO364.out; subst eo36; have hnb37 := NB335_0.out; have hnc37 := NB0_335.out; obtain ⟨hcz38_0, hfz38_0⟩ := cf1_ BK335.out))
        refine bodyPost_ret (results_cell_row rfl _ _ gb335 31 #[.slice Ao36 t362.length co36] (0, 0) _ rfl (by (with_reducible repeat (first | refine blk_drewN ?_ _ | refine blk_drew ?_ | refine blk_alloc ?_ _)); refine blk_put (cs := #[.slice none 0 0]) ?_ 0 _ rfl; (with_reducible repeat (first | refine blk_drewN ?_ _ | refine blk_drew ?_ | refine blk_alloc ?_ _)); exact BK335.out) Tryd.underlying31 rfl (by kernel_rfl)) rfl ?_
        exact ⟨_, re_, by (with_reducible repeat (first | apply Kd.V_alloc | apply Kd.V_drewN | apply Kd.V_drew)); exact Kd.V_mono (Kd.V_far (p := ⟨gb335, 0, none⟩) (Kd.V_mono HO364.out (fun k_ hk => (⟨hk, by first | exact hk.2.2.1 | exact hk.1 | exact hk.2 | exact hk.1.1 | exact hk.1.2⟩ : _ ∧ k_ ≠ gb335))) (fun _ hk => hk.2) (.slice Ao36 t362.length co36)) (fun _ hk => hk.1.1), si_, bl_, by repeat (first | (with_reducible first | exact HK.out | apply KeepBut.set_ | apply keep_drewN | apply keep_drew | apply keep_alloc | refine keep_far ?_ GW335.out _) | exact HK.out)⟩

end Go.Proofs.YtopbjginpmdebaaDoor.K
namespace Go.Proofs.YtopbjginpmdebaaDoor.K
open Go.RowKit Go.Proofs.YtopbjginpmdebaaDoorW.PrintWords Go.Proofs.YtopbjginpmdebaaDoorW.PrintLast Go.Proofs.YtopbjginpmdebaaDoorW.PrintMore
attribute [local go_sem] max2_int min2_int max_two min_two max_three min_three max_four min_four   -- for this text's walks alone
set_option linter.unusedVariables false
set_option linter.unusedSimpArgs false

/-! ### exactpplref19_Fit: function 62 -/
def exactpplref19_Fit.f (l0_0 : List (S60)) : Option ((List (S60)) × Int) := if (l0_0.length : Int) > 20000 then (some (([] : List (S60)), 9)) else (some (l0_0, 0))
set_option maxHeartbeats 8000000 in
set_option maxRecDepth 100000 in
theorem exactpplref19_Fit.calls (P0_0_ : Nat → Prop) (A0_0 : Option Addr) (c0_0 : Nat) (l0_0 : List (S60)) (r1 : List (S60)) (r2 : Int) (w : World) (hs0_0 : Kd.V k60 60 w w.heap.size (fun k_ => P0_0_ k_) (.slice A0_0 l0_0.length c0_0) l0_0) (h : exactpplref19_Fit.f l0_0 = some (r1, r2)) :
  Calls Tryd.prog 62 #[.agg #[.slice A0_0 l0_0.length c0_0]] w fun e w' => ∃ v0_ : Value, e = .returned (.tuple #[.agg #[v0_], .int .i64 r2]) ∧ Kd.V k60 60 w' w.heap.size (fun k_ => (P0_0_ k_ ∨ w.heap.size ≤ k_)) v0_ r1 ∧ Below w.heap.size w w' := by
 have hu31 := Tryd.underlying31
 have HO0_0 := Aside0.mk (show Kd.V k60 60 w w.heap.size (fun k_ => (P0_0_ k_ ∨ w.heap.size ≤ k_)) (.slice A0_0 l0_0.length c0_0) l0_0 from Kd.V_mono hs0_0 (fun k_ hk => .inl hk))
 have HB := Aside0.mk (Below.refl w.heap.size w)
 have H : (if (l0_0.length : Int) > 20000 then (some (([] : List (S60)), 9)) else (some (l0_0, 0))) = some (r1, r2) := h
 clear h
 by_cases c2 : (l0_0.length : Int) > 20000
 ·rw [if_pos c2] at H
  have c2b0 : decide (20000 < (l0_0.length : Int)) = true := decide_eq_true c2
  have c2b1 : decide (20000 < l0_0.length) = true := decide_eq_true (by omega)
  clear c2
  simp only [Option.some.injEq, Prod.mk.injEq] at H
  obtain ⟨rfl, rfl⟩ := H
  go_enter Tryd.func62, Tryd.ntmps62
  go_wp2_with (first | ((with_reducible refine gate_dst (N := 1) rfl ?_); refine box_event ?hg (N := 1) ?hd (cs := #[.slice A0_0 l0_0.length c0_0]) (t := 31) ?hr ?_; (case hd => rfl); (case hg => rfl); (case hr => first | (go_simp; done) | (go_simp; rfl)); intro gb142 hg w3 hbox hb; have BK142 := Aside0.mk (hbox); have GW142 : Aside0 (w.heap.size ≤ gb142) := gw_ hg (below_size bl_); have GE142 := GW142; replace HO0_0 := Aside0.mk (Kd.V_below (Kd.V_elderB (pV_ HO0_0.out) gb142 (Nat.le_of_eq hg.symm)) hb); replace HB := Aside0.mk (below_step bl_ hb); clear hb hbox hg) | ((with_reducible refine gate_dst (N := 2) rfl ?_); refine box_event ?hg (N := 2) ?hd (cs := #[.slice none 0 0]) (t := 31) ?hr ?_; (case hd => rfl); (case hg => rfl); (case hr => first | (go_simp; done) | (go_simp; rfl)); intro gb143 hg w4 hbox hb; have BK143 := Aside0.mk (hbox); have GW143 : Aside0 (w.heap.size ≤ gb143) := gw_ hg (below_size bl_); have GE143 := GW143; have NB142_143 := Aside0.mk ((by rw [hg]; exact Nat.ne_of_lt (blk_lt (g := gb142) (o := .cells #[.slice A0_0 l0_0.length c0_0] 31 (0, 0)) bk_) : gb142 ≠ gb143)); have NB143_142 := Aside0.mk ((by rw [hg]; exact Nat.ne_of_gt (blk_lt (g := gb142) (o := .cells #[.slice A0_0 l0_0.length c0_0] 31 (0, 0)) bk_) : gb143 ≠ gb142)); replace HO0_0 := Aside0.mk (Kd.V_below (Kd.V_elderB (pV_ HO0_0.out) gb143 (Nat.le_of_eq hg.symm)) hb); replace BK142 := Aside0.mk (blk_below (g := gb142) (o := .cells #[.slice A0_0 l0_0.length c0_0] 31 (0, 0)) bk_ hb); replace HB := Aside0.mk (below_step bl_ hb); clear hb hbox hg; have hnb5 := NB142_143.out; have hnc5 := NB143_142.out; obtain ⟨hcz6_0, hfz6_0⟩ := cf1_ BK142.out; obtain ⟨hcz7_0, hfz7_0⟩ := cf1_ BK143.out))
  refine bodyPost_ret (results_ct rfl _ _ gb143 31 #[.slice none 0 0] (0, 0) _ rfl (by (with_reducible repeat (first | refine blk_drewN ?_ _ | refine blk_drew ?_ | refine blk_alloc ?_ _)); refine blk_put (cs := #[.slice none 0 0]) ?_ 0 _ rfl; (with_reducible repeat (first | refine blk_drewN ?_ _ | refine blk_drew ?_ | refine blk_alloc ?_ _)); exact BK143.out) Tryd.underlying31 rfl (by kernel_rfl)) rfl ?_
  exact ⟨_, re_, Kd.V_nil _ _ _ _ _, bl_⟩
 ·rw [if_neg c2] at H
  have c2b0 : decide (20000 < (l0_0.length : Int)) = false := decide_eq_false c2
  have c2b1 : decide (20000 < l0_0.length) = false := decide_eq_false (by omega)
  clear c2
  simp only [Option.some.injEq, Prod.mk.injEq] at H
  obtain ⟨rfl, rfl⟩ := H
  go_enter Tryd.func62, Tryd.ntmps62
  go_wp2_with (first | ((with_reducible refine gate_dst (N := 1) rfl ?_); refine box_event ?hg (N := 1) ?hd (cs := #[.slice A0_0 l0_0.length c0_0]) (t := 31) ?hr ?_; (case hd => rfl); (case hg => rfl); (case hr => first | (go_simp; done) | (go_simp; rfl)); intro gb142 hg w8 hbox hb; have BK142 := Aside0.mk (hbox); have GW142 : Aside0 (w.heap.size ≤ gb142) := gw_ hg (below_size bl_); have GE142 := GW142; replace HO0_0 := Aside0.mk (Kd.V_below (Kd.V_elderB (pV_ HO0_0.out) gb142 (Nat.le_of_eq hg.symm)) hb); replace HB := Aside0.mk (below_step bl_ hb); clear hb hbox hg) | ((with_reducible refine gate_dst (N := 2) rfl ?_); refine box_event ?hg (N := 2) ?hd (cs := #[.slice none 0 0]) (t := 31) ?hr ?_; (case hd => rfl); (case hg => rfl); (case hr => first | (go_simp; done) | (go_simp; rfl)); intro gb143 hg w9 hbox hb; have BK143 := Aside0.mk (hbox); have GW143 : Aside0 (w.heap.size ≤ gb143) := gw_ hg (below_size bl_); have GE143 := GW143; have NB142_143 := Aside0.mk ((by rw [hg]; exact Nat.ne_of_lt (blk_lt (g := gb142) (o := .cells #[.slice A0_0 l0_0.length c0_0] 31 (0, 0)) bk_) : gb142 ≠ gb143)); have NB143_142 := Aside0.mk ((by rw [hg]; exact Nat.ne_of_gt (blk_lt (g := gb142) (o := .cells #[.slice A0_0 l0_0.length c0_0] 31 (0, 0)) bk_) : gb143 ≠ gb142)); replace HO0_0 := Aside0.mk (Kd.V_below (Kd.V_elderB (pV_ HO0_0.out) gb143 (Nat.le_of_eq hg.symm)) hb); replace BK142 := Aside0.mk (blk_below (g := gb142) (o := .cells #[.slice A0_0 l0_0.length c0_0] 31 (0, 0)) bk_ hb); replace HB := Aside0.mk (below_step bl_ hb); clear hb hbox hg; have hnb10 := NB142_143.out; have hnc10 := NB143_142.out; obtain ⟨hcz11_0, hfz11_0⟩ := cf1_ BK142.out; obtain ⟨hcz12_0, hfz12_0⟩ := cf1_ BK143.out))
  refine bodyPost_ret (results_ct rfl _ _ gb143 31 #[.slice A0_0 l0_0.length c0_0] (0, 0) _ rfl (by (with_reducible repeat (first | refine blk_drewN ?_ _ | refine blk_drew ?_ | refine blk_alloc ?_ _)); refine blk_put (cs := #[.slice none 0 0]) ?_ 0 _ rfl; (with_reducible repeat (first | refine blk_drewN ?_ _ | refine blk_drew ?_ | refine blk_alloc ?_ _)); exact BK143.out) Tryd.underlying31 rfl (by kernel_rfl)) rfl ?_
  exact ⟨_, re_, by (with_reducible repeat (first | apply Kd.V_alloc | apply Kd.V_drewN | apply Kd.V_drew)); exact Kd.V_mono (Kd.V_far (p := ⟨gb143, 0, none⟩) (Kd.V_mono HO0_0.out (fun k_ hk => (⟨hk, by first | exact hk.2 | exact hk.1 | exact hk.2 | exact hk.1.1 | exact hk.1.2⟩ : _ ∧ k_ ≠ gb143))) (fun _ hk => hk.2) (.slice A0_0 l0_0.length c0_0)) (fun _ hk => hk.1.1.1), bl_⟩

end Go.Proofs.YtopbjginpmdebaaDoor.K
namespace Go.Proofs.YtopbjginpmdebaaDoor.K
open Go.RowKit Go.Proofs.YtopbjginpmdebaaDoorW.PrintWords Go.Proofs.YtopbjginpmdebaaDoorW.PrintLast Go.Proofs.YtopbjginpmdebaaDoorW.PrintMore
attribute [local go_sem] max2_int min2_int max_two min_two max_three min_three max_four min_four   -- for this text's walks alone
set_option linter.unusedVariables false
set_option linter.unusedSimpArgs false

/-! ### exactpplref19_Reduce: function 43 -/
def exactpplref19_Reduce.f (k : Nat) (l0 : List (S60)) : Option ((List (S60)) × Int) := (exactpplref19_Graph.f k l0).bind fun t198 => (if t198 = true then ((exactpplref19_Canon.f l0).bind fun t199 => ((exactpplref19_Fit.f t199).bind fun bt202 => (some (bt202.1, bt202.2)))) else (some (([] : List (S60)), 2)))
theorem exactpplref19_Reduce.mono : ∀ a0 k, LeO (exactpplref19_Reduce.f k a0) (exactpplref19_Reduce.f (k + 1) a0) := by
 intro a0 k
 unfold exactpplref19_Reduce.f
 repeat' first
   | (with_reducible exact exactpplref19_Graph.mono _ _)
   | (with_reducible exact LeO.refl _)
   | (with_reducible exact LeO.none _)
   | (with_reducible refine LeO.ite ?_ ?_)
   | (with_reducible refine LeO.bind ?_ (fun _ => ?_))
   | exact exactpplref19_Graph.mono _ _
   | exact LeO.none _
   | refine LeO.ite ?_ ?_
   | refine LeO.bind ?_ (fun _ => ?_)
set_option maxHeartbeats 8000000 in
set_option maxRecDepth 100000 in
theorem exactpplref19_Reduce.calls (k : Nat) (A0 : Option Addr) (c0 : Nat) (l0 : List (S60)) (r1 : List (S60)) (r2 : Int) (w : World) (hr0 : Kd.C k60 w A0 l0.length l0) (hc0 : l0.length ≤ c0) (h : exactpplref19_Reduce.f k l0 = some (r1, r2)) :
  Calls Tryd.prog 43 #[.slice A0 l0.length c0] w fun e w' => ∃ v0_ : Value, e = .returned (.tuple #[.agg #[v0_], .int .i64 r2]) ∧ Kd.V k60 60 w' w.heap.size (fun k_ => (w.heap.size ≤ k_)) v0_ r1 ∧ Below w.heap.size w w' := by
 have hu31 := Tryd.underlying31
 have HR0 := Aside0.mk hr0
 have HC0 := Aside0.mk hc0
 clear hr0 hc0
 have HB := Aside0.mk (Below.refl w.heap.size w)
 have H : ((exactpplref19_Graph.f k l0).bind fun t198 => (if t198 = true then ((exactpplref19_Canon.f l0).bind fun t199 => ((exactpplref19_Fit.f t199).bind fun bt202 => (some (bt202.1, bt202.2)))) else (some (([] : List (S60)), 2)))) = some (r1, r2) := h
 clear h
 replace H := Option.bind_eq_some_iff.mp H
 obtain ⟨t198, A20, H⟩ := H
 replace H : (if t198 = true then ((exactpplref19_Canon.f l0).bind fun t199 => ((exactpplref19_Fit.f t199).bind fun bt202 => (some (bt202.1, bt202.2)))) else (some (([] : List (S60)), 2))) = some (r1, r2) := H
 have A2 := Aside0.mk A20
 clear A20
 by_cases c3 : t198 = true
 ·subst c3
  have H1 : ((exactpplref19_Canon.f l0).bind fun t199 => ((exactpplref19_Fit.f t199).bind fun bt202 => (some (bt202.1, bt202.2)))) = some (r1, r2) := by rw [if_pos rfl] at H; exact H
  clear H
  have H := H1
  clear H1
  replace H := Option.bind_eq_some_iff.mp H
  obtain ⟨t199, A40, H⟩ := H
  replace H : ((exactpplref19_Fit.f t199).bind fun bt202 => (some (bt202.1, bt202.2))) = some (r1, r2) := H
  have A4 := Aside0.mk A40
  clear A40
  replace H := Option.bind_eq_some_iff.mp H
  obtain ⟨⟨t202, t205⟩, A50, H⟩ := H
  replace H : (some (t202, t205)) = some (r1, r2) := H
  have A5 := Aside0.mk A50
  clear A50
  simp only [Option.some.injEq, Prod.mk.injEq] at H
  obtain ⟨rfl, rfl⟩ := H
  go_enter Tryd.func43, Tryd.ntmps43
  go_wp2_with (first | ((with_reducible refine gate_dst (N := 2) rfl ?_); refine box_event ?hg (N := 2) ?hd (cs := #[.slice none 0 0]) (t := 31) ?hr ?_; (case hd => rfl); (case hg => rfl); (case hr => first | (go_simp; done) | (go_simp; rfl)); intro gb197 hg w6 hbox hb; have BK197 := Aside0.mk (hbox); have GW197 : Aside0 (w.heap.size ≤ gb197) := gw_ hg (below_size bl_); have GE197 := GW197; replace HB := Aside0.mk (below_step bl_ hb); clear hb hbox hg) | ((with_reducible refine gate_callee (f := 67) rfl ?_); refine goesL_ (some 5) rfl rfl Tryd.func67 (by kernel_rfl) rfl #[.slice A0 l0.length c0] rfl (by (try simp only [List.map_toArray, List.map_cons, List.map_nil]); first | done | rfl | (simp only [List.length_drop, List.length_take]; rfl)) ?_; (with_reducible refine (exactpplref19_Graph.calls k _ _ l0 true _ ?side1 ?side2 A2.out).mono ?_); (case side1 => repeat (first | exact (Kd.C_below HR0.out HB.out) | (with_reducible refine Kd.C_alloc ?_ _) | (with_reducible refine Kd.C_drewN ?_ _) | (with_reducible refine Kd.C_drew ?_))); (case side2 => exact HC0.out); rintro e w7 ⟨rfl, hb⟩; refine ⟨_, rfl, ?_⟩; replace BK197 := Aside0.mk (blk_below (g := gb197) (o := .cells #[.slice none 0 0] 31 (0, 0)) bk_ hb); replace HB := Aside0.mk (below_step bl_ hb); (try clear hb); (try clear hb2); (try clear hk); (try clear hi)) | ((with_reducible refine gate_callee (f := 68) rfl ?_); refine goesL_ (some 9) rfl rfl Tryd.func68 (by kernel_rfl) rfl #[.slice A0 l0.length c0] rfl (by (try simp only [List.map_toArray, List.map_cons, List.map_nil]); first | done | rfl | (simp only [List.length_drop, List.length_take]; rfl)) ?_; (with_reducible refine (exactpplref19_Canon.calls _ _ l0 t199 _ ?side1 ?side2 A4.out).mono ?_); (case side1 => repeat (first | exact (Kd.C_below HR0.out HB.out) | (with_reducible refine Kd.C_alloc ?_ _) | (with_reducible refine Kd.C_drewN ?_ _) | (with_reducible refine Kd.C_drew ?_))); (case side2 => exact HC0.out); rintro e w8 ⟨v200, rfl, ho0, hb⟩; refine ⟨_, rfl, ?_⟩; have HO201 := Aside0.mk (Kd.V_lower (Kd.V_mono (ok' := fun k_ => (w.heap.size ≤ k_) ∧ k_ ≠ gb197) ho0 (fun k_ hk_ => ⟨(Nat.le_trans (below_size bl_) hk_), (Kd.freshB (g := gb197) (o := .cells #[.slice none 0 0] 31 (0, 0)) bk_ k_ hk_)⟩)) (below_size bl_)); replace BK197 := Aside0.mk (blk_below (g := gb197) (o := .cells #[.slice none 0 0] 31 (0, 0)) bk_ hb); replace HB := Aside0.mk (below_step bl_ hb); (try clear hb); (try clear hb2); (try clear hk); (try clear hi); (try clear ho0); obtain ⟨Ao9, co9, eo9⟩ := Kd.V_slice HO201.out; subst eo9) | ((with_reducible refine gate_callee (f := 62) rfl ?_); refine goesL_ (some 10) rfl rfl Tryd.func62 (by kernel_rfl) rfl #[.agg #[.slice Ao9 t199.length co9]] rfl (by (try simp only [List.map_toArray, List.map_cons, List.map_nil]); first | done | rfl | (simp only [List.length_drop, List.length_take]; rfl)) ?_; (with_reducible refine (exactpplref19_Fit.calls (fun k_ => ((w.heap.size ≤ k_) ∧ k_ ≠ gb197)) _ _ t199 t202 t205 _ ?side1 A5.out).mono ?_); (case side1 => exact HO201.out); rintro e w10 ⟨v203, rfl, ho0, hb⟩; refine ⟨_, rfl, ?_⟩; have HO204 := Aside0.mk (Kd.V_lower (Kd.V_mono (ok' := fun k_ => (w.heap.size ≤ k_) ∧ k_ ≠ gb197) ho0 (fun k_ hk_ => ⟨Or.elim hk_ (fun hs_ => hs_.1) (fun hn_ => (Nat.le_trans (below_size bl_) hn_)), Or.elim hk_ (fun hs_ => hs_.2) (fun hn_ => (Kd.freshB (g := gb197) (o := .cells #[.slice none 0 0] 31 (0, 0)) bk_ k_ hn_))⟩)) (below_size bl_)); replace HO201 := Aside0.mk (Kd.V_below (pV_ HO201.out) hb); replace BK197 := Aside0.mk (blk_below (g := gb197) (o := .cells #[.slice none 0 0] 31 (0, 0)) bk_ hb); replace HB := Aside0.mk (below_step bl_ hb); (try clear hb); (try clear hb2); (try clear hk); (try clear hi); (try clear ho0); obtain ⟨Ao11, co11, eo11⟩ := Kd.V_slice HO204.out; subst eo11; obtain ⟨hcz12_0, hfz12_0⟩ := cf1_ BK197.out))
  refine bodyPost_ret (results_ct rfl _ _ gb197 31 #[.slice Ao11 t202.length co11] (0, 0) _ rfl (by (with_reducible repeat (first | refine blk_drewN ?_ _ | refine blk_drew ?_ | refine blk_alloc ?_ _)); refine blk_put (cs := #[.slice none 0 0]) ?_ 0 _ rfl; (with_reducible repeat (first | refine blk_drewN ?_ _ | refine blk_drew ?_ | refine blk_alloc ?_ _)); exact BK197.out) Tryd.underlying31 rfl (by kernel_rfl)) rfl ?_
  exact ⟨_, re_, by (with_reducible repeat (first | apply Kd.V_alloc | apply Kd.V_drewN | apply Kd.V_drew)); exact Kd.V_mono (Kd.V_far (p := ⟨gb197, 0, none⟩) (Kd.V_mono HO204.out (fun k_ hk => (⟨hk, by first | exact hk.2 | exact hk.1 | exact hk.2 | exact hk.1.1 | exact hk.1.2⟩ : _ ∧ k_ ≠ gb197))) (fun _ hk => hk.2) (.slice Ao11 t202.length co11)) (fun _ hk => hk.1.1), bl_⟩
 ·replace c3 := Bool.eq_false_iff.mpr c3
  subst c3
  have H1 : (some (([] : List (S60)), 2)) = some (r1, r2) := by rw [if_neg (show ¬ (false = true) by decide)] at H; exact H
  clear H
  have H := H1
  clear H1
  simp only [Option.some.injEq, Prod.mk.injEq] at H
  obtain ⟨rfl, rfl⟩ := H
  go_enter Tryd.func43, Tryd.ntmps43
  go_wp2_with (first | ((with_reducible refine gate_dst (N := 2) rfl ?_); refine box_event ?hg (N := 2) ?hd (cs := #[.slice none 0 0]) (t := 31) ?hr ?_; (case hd => rfl); (case hg => rfl); (case hr => first | (go_simp; done) | (go_simp; rfl)); intro gb197 hg w13 hbox hb; have BK197 := Aside0.mk (hbox); have GW197 : Aside0 (w.heap.size ≤ gb197) := gw_ hg (below_size bl_); have GE197 := GW197; replace HB := Aside0.mk (below_step bl_ hb); clear hb hbox hg) | ((with_reducible refine gate_callee (f := 67) rfl ?_); refine goesL_ (some 5) rfl rfl Tryd.func67 (by kernel_rfl) rfl #[.slice A0 l0.length c0] rfl (by (try simp only [List.map_toArray, List.map_cons, List.map_nil]); first | done | rfl | (simp only [List.length_drop, List.length_take]; rfl)) ?_; (with_reducible refine (exactpplref19_Graph.calls k _ _ l0 false _ ?side1 ?side2 A2.out).mono ?_); (case side1 => repeat (first | exact (Kd.C_below HR0.out HB.out) | (with_reducible refine Kd.C_alloc ?_ _) | (with_reducible refine Kd.C_drewN ?_ _) | (with_reducible refine Kd.C_drew ?_))); (case side2 => exact HC0.out); rintro e w14 ⟨rfl, hb⟩; refine ⟨_, rfl, ?_⟩; replace BK197 := Aside0.mk (blk_below (g := gb197) (o := .cells #[.slice none 0 0] 31 (0, 0)) bk_ hb); replace HB := Aside0.mk (below_step bl_ hb); (try clear hb); (try clear hb2); (try clear hk); (try clear hi); obtain ⟨hcz15_0, hfz15_0⟩ := cf1_ BK197.out))
  refine bodyPost_ret (results_ct rfl _ _ gb197 31 #[.slice none 0 0] (0, 0) _ rfl (by (with_reducible repeat (first | refine blk_drewN ?_ _ | refine blk_drew ?_ | refine blk_alloc ?_ _)); refine blk_put (cs := #[.slice none 0 0]) ?_ 0 _ rfl; (with_reducible repeat (first | refine blk_drewN ?_ _ | refine blk_drew ?_ | refine blk_alloc ?_ _)); exact BK197.out) Tryd.underlying31 rfl (by kernel_rfl)) rfl ?_
  exact ⟨_, re_, Kd.V_nil _ _ _ _ _, bl_⟩

end Go.Proofs.YtopbjginpmdebaaDoor.K
namespace Go.Proofs.YtopbjginpmdebaaDoor.K
open Go.RowKit Go.Proofs.YtopbjginpmdebaaDoorW.PrintWords Go.Proofs.YtopbjginpmdebaaDoorW.PrintLast Go.Proofs.YtopbjginpmdebaaDoorW.PrintMore
attribute [local go_sem] max2_int min2_int max_two min_two max_three min_three max_four min_four   -- for this text's walks alone
set_option linter.unusedVariables false
set_option linter.unusedSimpArgs false

/-! ### exactpplref19_Validate: function 44 -/
def exactpplref19_Validate.f (k : Nat) (l0_0 : List (S60)) : Option (Int) := (exactpplref19_Reduce.f k l0_0).bind fun bt207 => (if bt207.2 = 0 then ((exactpplref19_Same.f k bt207.1 l0_0).bind fun t212 => (if t212 = true then (some 0) else (some 2))) else (some bt207.2))
theorem exactpplref19_Validate.mono : ∀ a0 k, LeO (exactpplref19_Validate.f k a0) (exactpplref19_Validate.f (k + 1) a0) := by
 intro a0 k
 unfold exactpplref19_Validate.f
 repeat' first
   | (with_reducible exact exactpplref19_Reduce.mono _ _)
   | (with_reducible exact exactpplref19_Same.mono _ _ _)
   | (with_reducible exact LeO.refl _)
   | (with_reducible exact LeO.none _)
   | (with_reducible refine LeO.ite ?_ ?_)
   | (with_reducible refine LeO.bind ?_ (fun _ => ?_))
   | exact exactpplref19_Reduce.mono _ _
   | exact exactpplref19_Same.mono _ _ _
   | exact LeO.none _
   | refine LeO.ite ?_ ?_
   | refine LeO.bind ?_ (fun _ => ?_)
set_option maxHeartbeats 8000000 in
set_option maxRecDepth 100000 in
theorem exactpplref19_Validate.calls (k : Nat) (A0_0 : Option Addr) (c0_0 : Nat) (l0_0 : List (S60)) (r : Int) (w : World) (hr0_0 : Kd.C k60 w A0_0 l0_0.length l0_0) (hc0_0 : l0_0.length ≤ c0_0) (h : exactpplref19_Validate.f k l0_0 = some r) :
  Calls Tryd.prog 44 #[.agg #[.slice A0_0 l0_0.length c0_0]] w fun e w' => e = .returned (.int .i64 r) ∧ Below w.heap.size w w' := by
 have hu31 := Tryd.underlying31
 have HR0_0 := Aside0.mk hr0_0
 have HC0_0 := Aside0.mk hc0_0
 clear hr0_0 hc0_0
 have HB := Aside0.mk (Below.refl w.heap.size w)
 have H : ((exactpplref19_Reduce.f k l0_0).bind fun bt207 => (if bt207.2 = 0 then ((exactpplref19_Same.f k bt207.1 l0_0).bind fun t212 => (if t212 = true then (some 0) else (some 2))) else (some bt207.2))) = some r := h
 clear h
 replace H := Option.bind_eq_some_iff.mp H
 obtain ⟨⟨t207, t210⟩, A20, H⟩ := H
 replace H : (if t210 = 0 then ((exactpplref19_Same.f k t207 l0_0).bind fun t212 => (if t212 = true then (some 0) else (some 2))) else (some t210)) = some r := H
 have A2 := Aside0.mk A20
 clear A20
 by_cases c3 : t210 = 0
 ·rw [if_pos c3] at H
  have c3b0 : (t210 == 0) = true := beq_iff_eq.mpr c3
  have c3b1 : (t210 != 0) = false := bne_eq_false_iff_eq.mpr c3
  clear c3
  replace H := Option.bind_eq_some_iff.mp H
  obtain ⟨t212, A40, H⟩ := H
  replace H : (if t212 = true then (some 0) else (some 2)) = some r := H
  have A4 := Aside0.mk A40
  clear A40
  by_cases c5 : t212 = true
  ·subst c5
   have H1 : (some 0) = some r := by rw [if_pos rfl] at H; exact H
   clear H
   have H := H1
   clear H1
   obtain rfl := Option.some.inj H
   go_enter Tryd.func44, Tryd.ntmps44
   go_wp2_with (first | ((with_reducible refine gate_dst (N := 1) rfl ?_); refine box_event ?hg (N := 1) ?hd (cs := #[.slice A0_0 l0_0.length c0_0]) (t := 31) ?hr ?_; (case hd => rfl); (case hg => rfl); (case hr => first | (go_simp; done) | (go_simp; rfl)); intro gb206 hg w6 hbox hb; have BK206 := Aside0.mk (hbox); have GW206 : Aside0 (w.heap.size ≤ gb206) := gw_ hg (below_size bl_); have GE206 := GW206; replace HB := Aside0.mk (below_step bl_ hb); clear hb hbox hg; obtain ⟨hcz7_0, hfz7_0⟩ := cf1_ BK206.out) | ((with_reducible refine gate_callee (f := 43) rfl ?_); refine goesL_ (some 8) rfl rfl Tryd.func43 (by kernel_rfl) rfl #[.slice A0_0 l0_0.length c0_0] rfl (by (try simp only [List.map_toArray, List.map_cons, List.map_nil]); first | done | rfl | (simp only [List.length_drop, List.length_take]; rfl)) ?_; (with_reducible refine (exactpplref19_Reduce.calls k _ _ l0_0 t207 t210 _ ?side1 ?side2 A2.out).mono ?_); (case side1 => repeat (first | exact (Kd.C_below HR0_0.out HB.out) | (with_reducible refine Kd.C_alloc ?_ _) | (with_reducible refine Kd.C_drewN ?_ _) | (with_reducible refine Kd.C_drew ?_))); (case side2 => exact HC0_0.out); rintro e w8 ⟨v208, rfl, ho0, hb⟩; refine ⟨_, rfl, ?_⟩; have HO209 := Aside0.mk (Kd.V_lower (Kd.V_mono (ok' := fun k_ => k_ ≠ gb206) ho0 (fun k_ hk_ => (Kd.freshB (g := gb206) (o := .cells #[.slice A0_0 l0_0.length c0_0] 31 (0, 0)) bk_ k_ hk_))) (below_size bl_)); replace BK206 := Aside0.mk (blk_below (g := gb206) (o := .cells #[.slice A0_0 l0_0.length c0_0] 31 (0, 0)) bk_ hb); replace HB := Aside0.mk (below_step bl_ hb); (try clear hb); (try clear hb2); (try clear hk); (try clear hi); (try clear ho0)) | ((with_reducible refine gate_dst (N := 3) rfl ?_); refine box_event ?hg (N := 3) ?hd (cs := #[.slice none 0 0]) (t := 31) ?hr ?_; (case hd => rfl); (case hg => rfl); (case hr => first | (go_simp; done) | (go_simp; rfl)); intro gb211 hg w9 hbox hb; have BK211 := Aside0.mk (hbox); have GW211 : Aside0 (w.heap.size ≤ gb211) := gw_ hg (below_size bl_); have GE211 := GW211; have NB206_211 := Aside0.mk ((by rw [hg]; exact Nat.ne_of_lt (blk_lt (g := gb206) (o := .cells #[.slice A0_0 l0_0.length c0_0] 31 (0, 0)) bk_) : gb206 ≠ gb211)); have NB211_206 := Aside0.mk ((by rw [hg]; exact Nat.ne_of_gt (blk_lt (g := gb206) (o := .cells #[.slice A0_0 l0_0.length c0_0] 31 (0, 0)) bk_) : gb211 ≠ gb206)); replace HO209 := Aside0.mk (Kd.V_below (Kd.V_elderB (pV_ HO209.out) gb211 (Nat.le_of_eq hg.symm)) hb); replace BK206 := Aside0.mk (blk_below (g := gb206) (o := .cells #[.slice A0_0 l0_0.length c0_0] 31 (0, 0)) bk_ hb); replace HB := Aside0.mk (below_step bl_ hb); clear hb hbox hg; obtain ⟨Ao10, co10, eo10⟩ := Kd.V_slice HO209.out; subst eo10; have hnb11 := NB211_206.out; have hnc11 := NB206_211.out; obtain ⟨hcz12_0, hfz12_0⟩ := cf1_ BK211.out; obtain ⟨hcz13_0, hfz13_0⟩ := cf1_ BK206.out) | ((with_reducible refine gate_callee (f := 20) rfl ?_); refine goesL_ (some 16) rfl rfl Tryd.func20 (by kernel_rfl) rfl #[.agg #[.slice Ao10 t207.length co10], .agg #[.slice A0_0 l0_0.length c0_0]] rfl (by (try simp only [List.map_toArray, List.map_cons, List.map_nil]); first | done | rfl | (simp only [List.length_drop, List.length_take]; rfl)) ?_; (with_reducible refine (exactpplref19_Same.calls k _ _ t207 _ _ l0_0 true _ ?side1 ?side2 ?side3 ?side4 A4.out).mono ?_); (case side1 => refine (Kd.V_reads' (e := 60) (base := w.heap.size) (ok := fun k_ => (k_ ≠ gb206 ∧ k_ ≠ gb211)) (n := t207.length) (c := co10) ?_).2.2; exact (by (with_reducible repeat (first | apply Kd.V_alloc | apply Kd.V_drewN | apply Kd.V_drew)); exact (Kd.V_mono (Kd.V_far (p := ⟨gb211, 0, none⟩) (Kd.V_mono HO209.out (fun k_ hk => (⟨hk, by first | exact hk.2 | exact hk.1 | exact hk.2 | exact hk.1.1 | exact hk.1.2⟩ : _ ∧ k_ ≠ gb211))) (fun _ hk => hk.2) (.slice Ao10 t207.length co10)) (fun _ h_ => h_.1)))); (case side2 => exact (Kd.V_reads' HO209.out).2.1); (case side3 => exact Kd.C_below HR0_0.out bl_); (case side4 => exact HC0_0.out); rintro e w14 ⟨rfl, hb⟩; refine ⟨_, rfl, ?_⟩; replace HO209 := Aside0.mk (Kd.V_below (by (with_reducible repeat (first | apply Kd.V_alloc | apply Kd.V_drewN | apply Kd.V_drew)); exact (Kd.V_mono (Kd.V_far (p := ⟨gb211, 0, none⟩) (Kd.V_mono HO209.out (fun k_ hk => (⟨hk, by first | exact hk.2 | exact hk.1 | exact hk.2 | exact hk.1.1 | exact hk.1.2⟩ : _ ∧ k_ ≠ gb211))) (fun _ hk => hk.2) (.slice Ao10 t207.length co10)) (fun _ h_ => h_.1))) hb); replace BK206 := Aside0.mk (blk_below (g := gb206) (o := .cells #[.slice A0_0 l0_0.length c0_0] 31 (0, 0)) (by (with_reducible repeat (first | refine blk_drewN ?_ _ | refine blk_drew ?_ | refine blk_alloc ?_ _)); refine blk_far ?_ NB206_211.out _; (with_reducible repeat (first | refine blk_drewN ?_ _ | refine blk_drew ?_ | refine blk_alloc ?_ _)); exact BK206.out) hb); replace BK211 := Aside0.mk (blk_below (g := gb211) (o := .cells #[.slice Ao10 t207.length co10] 31 (0, 0)) (by (with_reducible repeat (first | refine blk_drewN ?_ _ | refine blk_drew ?_ | refine blk_alloc ?_ _)); refine blk_put (cs := #[.slice none 0 0]) ?_ 0 _ rfl; (with_reducible repeat (first | refine blk_drewN ?_ _ | refine blk_drew ?_ | refine blk_alloc ?_ _)); exact BK211.out) hb); replace HB := Aside0.mk (below_step bl_ hb); (try clear hb); (try clear hb2); (try clear hk); (try clear hi)))
   go_ret
   exact ⟨re_, bl_⟩
  ·replace c5 := Bool.eq_false_iff.mpr c5
   subst c5
   have H1 : (some 2) = some r := by rw [if_neg (show ¬ (false = true) by decide)] at H; exact H
   clear H
   have H := H1
   clear H1
   obtain rfl := Option.some.inj H
   go_enter Tryd.func44, Tryd.ntmps44
   go_wp2_with (first | ((with_reducible refine gate_dst (N := 1) rfl ?_); refine box_event ?hg (N := 1) ?hd (cs := #[.slice A0_0 l0_0.length c0_0]) (t := 31) ?hr ?_; (case hd => rfl); (case hg => rfl); (case hr => first | (go_simp; done) | (go_simp; rfl)); intro gb206 hg w15 hbox hb; have BK206 := Aside0.mk (hbox); have GW206 : Aside0 (w.heap.size ≤ gb206) := gw_ hg (below_size bl_); have GE206 := GW206; replace HB := Aside0.mk (below_step bl_ hb); clear hb hbox hg; obtain ⟨hcz16_0, hfz16_0⟩ := cf1_ BK206.out) | ((with_reducible refine gate_callee (f := 43) rfl ?_); refine goesL_ (some 8) rfl rfl Tryd.func43 (by kernel_rfl) rfl #[.slice A0_0 l0_0.length c0_0] rfl (by (try simp only [List.map_toArray, List.map_cons, List.map_nil]); first | done | rfl | (simp only [List.length_drop, List.length_take]; rfl)) ?_; (with_reducible refine (exactpplref19_Reduce.calls k _ _ l0_0 t207 t210 _ ?side1 ?side2 A2.out).mono ?_); (case side1 => repeat (first | exact (Kd.C_below HR0_0.out HB.out) | (with_reducible refine Kd.C_alloc ?_ _) | (with_reducible refine Kd.C_drewN ?_ _) | (with_reducible refine Kd.C_drew ?_))); (case side2 => exact HC0_0.out); rintro e w17 ⟨v208, rfl, ho0, hb⟩; refine ⟨_, rfl, ?_⟩; have HO209 := Aside0.mk (Kd.V_lower (Kd.V_mono (ok' := fun k_ => k_ ≠ gb206) ho0 (fun k_ hk_ => (Kd.freshB (g := gb206) (o := .cells #[.slice A0_0 l0_0.length c0_0] 31 (0, 0)) bk_ k_ hk_))) (below_size bl_)); replace BK206 := Aside0.mk (blk_below (g := gb206) (o := .cells #[.slice A0_0 l0_0.length c0_0] 31 (0, 0)) bk_ hb); replace HB := Aside0.mk (below_step bl_ hb); (try clear hb); (try clear hb2); (try clear hk); (try clear hi); (try clear ho0)) | ((with_reducible refine gate_dst (N := 3) rfl ?_); refine box_event ?hg (N := 3) ?hd (cs := #[.slice none 0 0]) (t := 31) ?hr ?_; (case hd => rfl); (case hg => rfl); (case hr => first | (go_simp; done) | (go_simp; rfl)); intro gb211 hg w18 hbox hb; have BK211 := Aside0.mk (hbox); have GW211 : Aside0 (w.heap.size ≤ gb211) := gw_ hg (below_size bl_); have GE211 := GW211; have NB206_211 := Aside0.mk ((by rw [hg]; exact Nat.ne_of_lt (blk_lt (g := gb206) (o := .cells #[.slice A0_0 l0_0.length c0_0] 31 (0, 0)) bk_) : gb206 ≠ gb211)); have NB211_206 := Aside0.mk ((by rw [hg]; exact Nat.ne_of_gt (blk_lt (g := gb206) (o := .cells #[.slice A0_0 l0_0.length c0_0] 31 (0, 0)) bk_) : gb211 ≠ gb206)); replace HO209 := Aside0.mk (Kd.V_below (Kd.V_elderB (pV_ HO209.out) gb211 (Nat.le_of_eq hg.symm)) hb); replace BK206 := Aside0.mk (blk_below (g := gb206) (o := .cells #[.slice A0_0 l0_0.length c0_0] 31 (0, 0)) bk_ hb); replace HB := Aside0.mk (below_step bl_ hb); clear hb hbox hg; obtain ⟨Ao19, co19, eo19⟩ := Kd.V_slice HO209.out; subst eo19; have hnb20 := NB211_206.out; have hnc20 := NB206_211.out; obtain ⟨hcz21_0, hfz21_0⟩ := cf1_ BK211.out; obtain ⟨hcz22_0, hfz22_0⟩ := cf1_ BK206.out) | ((with_reducible refine gate_callee (f := 20) rfl ?_); refine goesL_ (some 16) rfl rfl Tryd.func20 (by kernel_rfl) rfl #[.agg #[.slice Ao19 t207.length co19], .agg #[.slice A0_0 l0_0.length c0_0]] rfl (by (try simp only [List.map_toArray, List.map_cons, List.map_nil]); first | done | rfl | (simp only [List.length_drop, List.length_take]; rfl)) ?_; (with_reducible refine (exactpplref19_Same.calls k _ _ t207 _ _ l0_0 false _ ?side1 ?side2 ?side3 ?side4 A4.out).mono ?_); (case side1 => refine (Kd.V_reads' (e := 60) (base := w.heap.size) (ok := fun k_ => (k_ ≠ gb206 ∧ k_ ≠ gb211)) (n := t207.length) (c := co19) ?_).2.2; exact (by (with_reducible repeat (first | apply Kd.V_alloc | apply Kd.V_drewN | apply Kd.V_drew)); exact (Kd.V_mono (Kd.V_far (p := ⟨gb211, 0, none⟩) (Kd.V_mono HO209.out (fun k_ hk => (⟨hk, by first | exact hk.2 | exact hk.1 | exact hk.2 | exact hk.1.1 | exact hk.1.2⟩ : _ ∧ k_ ≠ gb211))) (fun _ hk => hk.2) (.slice Ao19 t207.length co19)) (fun _ h_ => h_.1)))); (case side2 => exact (Kd.V_reads' HO209.out).2.1); (case side3 => exact Kd.C_below HR0_0.out bl_); (case side4 => exact HC0_0.out); rintro e w23 ⟨rfl, hb⟩; refine ⟨_, rfl, ?_⟩; replace HO209 := Aside0.mk (Kd.V_below (by (with_reducible repeat (first | apply Kd.V_alloc | apply Kd.V_drewN | apply Kd.V_drew)); exact (Kd.V_mono (Kd.V_far (p := ⟨gb211, 0, none⟩) (Kd.V_mono HO209.out (fun k_ hk => (⟨hk, by first | exact hk.2 | exact hk.1 | exact hk.2 | exact hk.1.1 | exact hk.1.2⟩ : _ ∧ k_ ≠ gb211))) (fun _ hk => hk.2) (.slice Ao19 t207.length co19)) (fun _ h_ => h_.1))) hb); replace BK206 := Aside0.mk (blk_below (g := gb206) (o := .cells #[.slice A0_0 l0_0.length c0_0] 31 (0, 0)) (by (with_reducible repeat (first | refine blk_drewN ?_ _ | refine blk_drew ?_ | refine blk_alloc ?_ _)); refine blk_far ?_ NB206_211.out _; (with_reducible repeat (first | refine blk_drewN ?_ _ | refine blk_drew ?_ | refine blk_alloc ?_ _)); exact BK206.out) hb); replace BK211 := Aside0.mk (blk_below (g := gb211) (o := .cells #[.slice Ao19 t207.length co19] 31 (0, 0)) (by (with_reducible repeat (first | refine blk_drewN ?_ _ | refine blk_drew ?_ | refine blk_alloc ?_ _)); refine blk_put (cs := #[.slice none 0 0]) ?_ 0 _ rfl; (with_reducible repeat (first | refine blk_drewN ?_ _ | refine blk_drew ?_ | refine blk_alloc ?_ _)); exact BK211.out) hb); replace HB := Aside0.mk (below_step bl_ hb); (try clear hb); (try clear hb2); (try clear hk); (try clear hi)))
   go_ret
   exact ⟨re_, bl_⟩
 ·rw [if_neg c3] at H
  have c3b0 : (t210 == 0) = false := beq_eq_false_iff_ne.mpr c3
  have c3b1 : (t210 != 0) = true := bne_iff_ne.mpr c3
  obtain rfl := Option.some.inj H
  go_enter Tryd.func44, Tryd.ntmps44
  go_wp2_with (first | ((with_reducible refine gate_dst (N := 1) rfl ?_); refine box_event ?hg (N := 1) ?hd (cs := #[.slice A0_0 l0_0.length c0_0]) (t := 31) ?hr ?_; (case hd => rfl); (case hg => rfl); (case hr => first | (go_simp; done) | (go_simp; rfl)); intro gb206 hg w24 hbox hb; have BK206 := Aside0.mk (hbox); have GW206 : Aside0 (w.heap.size ≤ gb206) := gw_ hg (below_size bl_); have GE206 := GW206; replace HB := Aside0.mk (below_step bl_ hb); clear hb hbox hg; obtain ⟨hcz25_0, hfz25_0⟩ := cf1_ BK206.out) | ((with_reducible refine gate_callee (f := 43) rfl ?_); refine goesL_ (some 8) rfl rfl Tryd.func43 (by kernel_rfl) rfl #[.slice A0_0 l0_0.length c0_0] rfl (by (try simp only [List.map_toArray, List.map_cons, List.map_nil]); first | done | rfl | (simp only [List.length_drop, List.length_take]; rfl)) ?_; (with_reducible refine (exactpplref19_Reduce.calls k _ _ l0_0 t207 t210 _ ?side1 ?side2 A2.out).mono ?_); (case side1 => repeat (first | exact (Kd.C_below HR0_0.out HB.out) | (with_reducible refine Kd.C_alloc ?_ _) | (with_reducible refine Kd.C_drewN ?_ _) | (with_reducible refine Kd.C_drew ?_))); (case side2 => exact HC0_0.out); rintro e w26 ⟨v208, rfl, ho0, hb⟩; refine ⟨_, rfl, ?_⟩; have HO209 := Aside0.mk (Kd.V_lower (Kd.V_mono (ok' := fun k_ => k_ ≠ gb206) ho0 (fun k_ hk_ => (Kd.freshB (g := gb206) (o := .cells #[.slice A0_0 l0_0.length c0_0] 31 (0, 0)) bk_ k_ hk_))) (below_size bl_)); replace BK206 := Aside0.mk (blk_below (g := gb206) (o := .cells #[.slice A0_0 l0_0.length c0_0] 31 (0, 0)) bk_ hb); replace HB := Aside0.mk (below_step bl_ hb); (try clear hb); (try clear hb2); (try clear hk); (try clear hi); (try clear ho0)) | ((with_reducible refine gate_dst (N := 3) rfl ?_); refine box_event ?hg (N := 3) ?hd (cs := #[.slice none 0 0]) (t := 31) ?hr ?_; (case hd => rfl); (case hg => rfl); (case hr => first | (go_simp; done) | (go_simp; rfl)); intro gb211 hg w27 hbox hb; have BK211 := Aside0.mk (hbox); have GW211 : Aside0 (w.heap.size ≤ gb211) := gw_ hg (below_size bl_); have GE211 := GW211; have NB206_211 := Aside0.mk ((by rw [hg]; exact Nat.ne_of_lt (blk_lt (g := gb206) (o := .cells #[.slice A0_0 l0_0.length c0_0] 31 (0, 0)) bk_) : gb206 ≠ gb211)); have NB211_206 := Aside0.mk ((by rw [hg]; exact Nat.ne_of_gt (blk_lt (g := gb206) (o := .cells #[.slice A0_0 l0_0.length c0_0] 31 (0, 0)) bk_) : gb211 ≠ gb206)); replace HO209 := Aside0.mk (Kd.V_below (Kd.V_elderB (pV_ HO209.out) gb211 (Nat.le_of_eq hg.symm)) hb); replace BK206 := Aside0.mk (blk_below (g := gb206) (o := .cells #[.slice A0_0 l0_0.length c0_0] 31 (0, 0)) bk_ hb); replace HB := Aside0.mk (below_step bl_ hb); clear hb hbox hg; obtain ⟨Ao28, co28, eo28⟩ := Kd.V_slice HO209.out; subst eo28; have hnb29 := NB211_206.out; have hnc29 := NB206_211.out; obtain ⟨hcz30_0, hfz30_0⟩ := cf1_ BK211.out))
  go_ret
  exact ⟨re_, bl_⟩

end Go.Proofs.YtopbjginpmdebaaDoor.K
namespace Go.Proofs.YtopbjginpmdebaaDoor.K
open Go.RowKit Go.Proofs.YtopbjginpmdebaaDoorW.PrintWords Go.Proofs.YtopbjginpmdebaaDoorW.PrintLast Go.Proofs.YtopbjginpmdebaaDoorW.PrintMore
attribute [local go_sem] max2_int min2_int max_two min_two max_three min_three max_four min_four   -- for this text's walks alone
set_option linter.unusedVariables false
set_option linter.unusedSimpArgs false

/-! ### exactpplref19_Agree: function 61 -/
mutual
def exactpplref19_Agree.l0 : Nat → Int → List (S60) → List (S60) → Option (Bool)
 | 0, _, _, _ => none
 | k + 1, x5, x492000, x493000 => if x5 < (x492000.length : Int) then (exactpplref19_Agree.l1 k x5 0 x492000 x493000) else (some true)
def exactpplref19_Agree.l1 : Nat → Int → Int → List (S60) → List (S60) → Option (Bool)
 | 0, _, _, _, _ => none
 | k + 1, x5, x6, x492000, x493000 => if x6 < (x493000.length : Int) then (if 0 ≤ x5 then (if x5 < (x492000.length : Int) then ((exactpplref19_IsBranch.f ((rd_T60 x492000 x5).f0) ((rd_T60 x492000 x5).f1) ((rd_T60 x492000 x5).f2)).bind fun t494 => (if t494 = true then (if 0 ≤ x6 then (if ((rd_T60 x492000 x5).f0) = ((rd_T60 x493000 x6).f0) then (if (((rd_T60 x492000 x5).f2).length : Int) = (((rd_T60 x493000 x6).f2).length : Int) then (exactpplref19_Agree.l1 k x5 (wrap64 (x6 + 1)) x492000 x493000) else (some false)) else (exactpplref19_Agree.l1 k x5 (wrap64 (x6 + 1)) x492000 x493000)) else (none)) else (exactpplref19_Agree.l1 k x5 (wrap64 (x6 + 1)) x492000 x493000))) else (none)) else (none)) else (exactpplref19_Agree.l0 k (wrap64 (x5 + 1)) x492000 x493000)
end
def exactpplref19_Agree.f (k : Nat) (l0_0 : List (S60)) (l1_0 : List (S60)) : Option (Bool) := exactpplref19_Agree.l0 k 0 l0_0 l1_0
theorem exactpplref19_Agree.mono_l : ∀ k, (∀ y0 y1 y2, LeO (exactpplref19_Agree.l0 k y0 y1 y2) (exactpplref19_Agree.l0 (k + 1) y0 y1 y2)) ∧ (∀ y0 y1 y2 y3, LeO (exactpplref19_Agree.l1 k y0 y1 y2 y3) (exactpplref19_Agree.l1 (k + 1) y0 y1 y2 y3))
 | 0 => ⟨fun _ _ _ r h => by simp [exactpplref19_Agree.l0] at h, fun _ _ _ _ r h => by simp [exactpplref19_Agree.l1] at h⟩
 | k + 1 => by
  obtain ⟨ih0, ih1⟩ := exactpplref19_Agree.mono_l k
  refine ⟨?_, ?_⟩
  ·intro y0 y1 y2
   unfold exactpplref19_Agree.l0
   repeat' first
   | (with_reducible exact ih0 _ _ _)
   | (with_reducible exact ih1 _ _ _ _)
   | (with_reducible exact LeO.refl _)
   | (with_reducible exact LeO.none _)
   | (with_reducible refine LeO.ite ?_ ?_)
   | (with_reducible refine LeO.bind ?_ (fun _ => ?_))
   | exact ih0 _ _ _
   | exact ih1 _ _ _ _
   | exact LeO.none _
   | refine LeO.ite ?_ ?_
   | refine LeO.bind ?_ (fun _ => ?_)
  ·intro y0 y1 y2 y3
   unfold exactpplref19_Agree.l1
   repeat' first
   | (with_reducible exact ih0 _ _ _)
   | (with_reducible exact ih1 _ _ _ _)
   | (with_reducible exact LeO.refl _)
   | (with_reducible exact LeO.none _)
   | (with_reducible refine LeO.ite ?_ ?_)
   | (with_reducible refine LeO.bind ?_ (fun _ => ?_))
   | exact ih0 _ _ _
   | exact ih1 _ _ _ _
   | exact LeO.none _
   | refine LeO.ite ?_ ?_
   | refine LeO.bind ?_ (fun _ => ?_)
theorem exactpplref19_Agree.mono : ∀ a0 a1 k, LeO (exactpplref19_Agree.f k a0 a1) (exactpplref19_Agree.f (k + 1) a0 a1) := by
 intro a0 a1 k
 obtain ⟨ih0, ih1⟩ := exactpplref19_Agree.mono_l k
 unfold exactpplref19_Agree.f
 repeat' first
   | (with_reducible exact ih0 _ _ _)
   | (with_reducible exact ih1 _ _ _ _)
   | (with_reducible exact LeO.refl _)
   | (with_reducible exact LeO.none _)
   | (with_reducible refine LeO.ite ?_ ?_)
   | (with_reducible refine LeO.bind ?_ (fun _ => ?_))
   | exact ih0 _ _ _
   | exact ih1 _ _ _ _
   | exact LeO.none _
   | refine LeO.ite ?_ ?_
   | refine LeO.bind ?_ (fun _ => ?_)
def exactpplref19_Agree.T7 : Bool × List (List Nat × List Nat) := (true, [([], []), ([0], [0]), ([], []), ([1, 2], [1, 2]), ([3], [3]), ([4], [4]), ([5, 5], [5]), ([6], [6]), ([7, 6], [6, 7]), ([6], [6]), ([8, 9, 6], [6, 8, 9]), ([10, 6], [6, 10]), ([11, 6], [6, 11]), ([6], [6]), ([13, 6], [6, 13]), ([6], [6]), ([14, 15, 6], [6, 14, 15]), ([16, 6], [6, 16]), ([17, 6], [6, 17]), ([12, 18, 6], [6, 12, 18]), ([6, 19], [6, 19]), ([20, 6], [20]), ([21], [21]), ([22, 21], [21, 22]), ([21], [21]), ([23, 24, 21], [21, 23, 24]), ([25, 21], [21, 25]), ([26, 21], [21, 26]), ([27, 21], [21, 27]), ([21], [21]), ([29, 21], [21, 29]), ([21], [21]), ([30, 31, 21], [21, 30, 31]), ([32, 21], [21, 32]), ([33, 21], [21, 33]), ([34, 21], [21, 34]), ([28, 35, 21], [21, 28, 35]), ([21, 36], [21, 36])])
def exactpplref19_Agree.B7 : List Nat := [0, 1, 0, 7, 15, 31, 63, 127, 255, 127, 1023, 2047, 4095, 127, 8319, 127, 57471, 123007, 254079, 524287, 1048575, 2097151, 4194303, 8388607, 4194303, 33554431, 67108863, 134217727, 268435455, 4194303, 541065215, 4194303, 3762290687, 8057257983, 16647192575, 33827061759, 68719476735, 137438953471]
theorem exactpplref19_Agree.tab7 : rtab .any (opsOf Tryd.f61 7) = exactpplref19_Agree.T7 := by kernel_rfl
theorem exactpplref19_Agree.bits7 : waitsOk exactpplref19_Agree.T7.2 exactpplref19_Agree.B7 = true := by kernel_rfl
set_option maxHeartbeats 8000000 in
set_option maxRecDepth 100000 in
theorem exactpplref19_Agree.calls (k : Nat) (A0_0 : Option Addr) (c0_0 : Nat) (l0_0 : List (S60)) (A1_0 : Option Addr) (c1_0 : Nat) (l1_0 : List (S60)) (r : Bool) (w : World) (hr0_0 : Kd.C k60 w A0_0 l0_0.length l0_0) (hc0_0 : l0_0.length ≤ c0_0) (hr1_0 : Kd.C k60 w A1_0 l1_0.length l1_0) (hc1_0 : l1_0.length ≤ c1_0) (h : exactpplref19_Agree.f k l0_0 l1_0 = some r) :
  Calls Tryd.prog 61 #[.agg #[.slice A0_0 l0_0.length c0_0], .agg #[.slice A1_0 l1_0.length c1_0]] w fun e w' => e = .returned (.bool r) ∧ Below w.heap.size w w' := by
 have hu31 := Tryd.underlying31
 have hu60 := Tryd.underlying60
 have HR0_0 := Aside0.mk hr0_0
 have HC0_0 := Aside0.mk hc0_0
 clear hr0_0 hc0_0
 have HR1_0 := Aside0.mk hr1_0
 have HC1_0 := Aside0.mk hc1_0
 clear hr1_0 hc1_0
 have HB := Aside0.mk (Below.refl w.heap.size w)
 have H : (exactpplref19_Agree.l0 k 0 l0_0 l1_0) = some r := h
 clear h
 have H' := Aside0.mk H
 clear H
 go_enter Tryd.func61, Tryd.ntmps61
 go_wp2_with (first | ((with_reducible refine gate_dst (N := 2) rfl ?_); (try (refine gate_guard (by rfl) ?_; dsimp only)); refine box_event ?hg (N := 2) ?hd (cs := #[.slice A0_0 l0_0.length c0_0]) (t := 31) ?hr ?_; (case hd => rfl); (case hg => rfl); (case hr => first | (go_simp; done) | (go_simp; rfl)); intro gb491 hg w3 hbox hb; have BK491 := Aside0.mk (hbox); have GW491 : Aside0 (w.heap.size ≤ gb491) := gw_ hg (below_size bl_); have GE491 := GW491; replace HB := Aside0.mk (below_step bl_ hb); clear hb hbox hg) | ((with_reducible refine gate_dst (N := 3) rfl ?_); (try (refine gate_guard (by rfl) ?_; dsimp only)); refine box_event ?hg (N := 3) ?hd (cs := #[.slice A1_0 l1_0.length c1_0]) (t := 31) ?hr ?_; (case hd => rfl); (case hg => rfl); (case hr => first | (go_simp; done) | (go_simp; rfl)); intro gb492 hg w4 hbox hb; have BK492 := Aside0.mk (hbox); have GW492 : Aside0 (w.heap.size ≤ gb492) := gw_ hg (below_size bl_); have GE492 := GW492; have NB491_492 := Aside0.mk ((by rw [hg]; exact Nat.ne_of_lt (blk_lt (g := gb491) (o := .cells #[.slice A0_0 l0_0.length c0_0] 31 (0, 0)) bk_) : gb491 ≠ gb492)); have NB492_491 := Aside0.mk ((by rw [hg]; exact Nat.ne_of_gt (blk_lt (g := gb491) (o := .cells #[.slice A0_0 l0_0.length c0_0] 31 (0, 0)) bk_) : gb492 ≠ gb491)); replace BK491 := Aside0.mk (blk_below (g := gb491) (o := .cells #[.slice A0_0 l0_0.length c0_0] 31 (0, 0)) bk_ hb); replace HB := Aside0.mk (below_step bl_ hb); clear hb hbox hg))
 go_loopg [5] k (fun kq v5 w' => ∃ (x5_1 : Int), v5 = .int .i64 x5_1 ∧ Aside0 (exactpplref19_Agree.l0 kq x5_1 l0_0 l1_0 = some r) ∧ Aside0 (kq ≤ k) ∧ Aside0 (w'.heap[gb491]? = some (.cells #[(.slice A0_0 l0_0.length c0_0)] 31 (0, 0))) ∧ Aside0 (w'.heap[gb492]? = some (.cells #[(.slice A1_0 l1_0.length c1_0)] 31 (0, 0))) ∧ Aside0 (Below w.heap.size w w'))
 case atStart => exact ⟨(0), rs_, H', ⟨Nat.le_refl _⟩, ⟨bk_⟩, ⟨bk_⟩, ⟨bl_⟩⟩
 case round =>
  clear H'
  try clear c1
  try clear p2
  obtain ⟨x5_1, rfl, HA, HK1, BK491, BK492, HB⟩ := hrel
  cases gk with
  | zero => exact absurd HA.out (by simp [exactpplref19_Agree.l0])
  | succ k1 =>
   have H := HA.out
   clear HA
   simp only [exactpplref19_Agree.l0] at H
   by_cases c5 : x5_1 < (l0_0.length : Int)
   ·rw [if_pos c5] at H
    have c5b0 : decide (x5_1 < (l0_0.length : Int)) = true := decide_eq_true c5
    clear c5
    have H' := Aside0.mk H
    clear H
    have hnb6 := NB491_492.out
    have hnc6 := NB492_491.out
    obtain ⟨hcz7_0, hfz7_0⟩ := cf1_ BK491.out
    go_wp2
    go_loopg [6] k1 (fun kq v6 w' => ∃ (x6_2 : Int), v6 = .int .i64 x6_2 ∧ Aside0 (exactpplref19_Agree.l1 kq x5_1 x6_2 l0_0 l1_0 = some r) ∧ Aside0 (kq ≤ k1) ∧ Aside0 (w'.heap[gb491]? = some (.cells #[(.slice A0_0 l0_0.length c0_0)] 31 (0, 0))) ∧ Aside0 (w'.heap[gb492]? = some (.cells #[(.slice A1_0 l1_0.length c1_0)] 31 (0, 0))) ∧ Aside0 (Below w.heap.size w w'))
    case atStart => exact ⟨(0), rs_, H', ⟨Nat.le_refl _⟩, ⟨bk_⟩, ⟨bk_⟩, ⟨bl_⟩⟩
    case round =>
     clear H'
     try clear c1
     try clear p2
     try clear c5
     try clear c5b0
     try clear c6
     try clear hcz7_0 hfz7_0
     try clear p2
     obtain ⟨x6_2, rfl, HA, HK2, BK491, BK492, HB⟩ := hrel
     cases gk with
     | zero => exact absurd HA.out (by simp [exactpplref19_Agree.l1])
     | succ k2 =>
      have H := HA.out
      clear HA
      simp only [exactpplref19_Agree.l1] at H
      by_cases c8 : x6_2 < (l1_0.length : Int)
      ·rw [if_pos c8] at H
       have c8b0 : decide (x6_2 < (l1_0.length : Int)) = true := decide_eq_true c8
       clear c8
       by_cases c9 : 0 ≤ x5_1
       ·rw [if_pos c9] at H
        have c9b0 : decide (0 ≤ x5_1) = true := decide_eq_true c9
        clear c9
        by_cases c10 : x5_1 < (l0_0.length : Int)
        ·rw [if_pos c10] at H
         have c10b0 : decide (x5_1 < (l0_0.length : Int)) = true := decide_eq_true c10
         clear c10
         replace H := Option.bind_eq_some_iff.mp H
         obtain ⟨t494, A110, H⟩ := H
         replace H : (if t494 = true then (if 0 ≤ x6_2 then (if ((rd_T60 l0_0 x5_1).f0) = ((rd_T60 l1_0 x6_2).f0) then (if (((rd_T60 l0_0 x5_1).f2).length : Int) = (((rd_T60 l1_0 x6_2).f2).length : Int) then (exactpplref19_Agree.l1 k2 x5_1 (wrap64 (x6_2 + 1)) l0_0 l1_0) else (some false)) else (exactpplref19_Agree.l1 k2 x5_1 (wrap64 (x6_2 + 1)) l0_0 l1_0)) else (none)) else (exactpplref19_Agree.l1 k2 x5_1 (wrap64 (x6_2 + 1)) l0_0 l1_0)) = some r := H
         have A11 := Aside0.mk A110
         clear A110
         by_cases c12 : t494 = true
         ·subst c12
          have H1 : (if 0 ≤ x6_2 then (if ((rd_T60 l0_0 x5_1).f0) = ((rd_T60 l1_0 x6_2).f0) then (if (((rd_T60 l0_0 x5_1).f2).length : Int) = (((rd_T60 l1_0 x6_2).f2).length : Int) then (exactpplref19_Agree.l1 k2 x5_1 (wrap64 (x6_2 + 1)) l0_0 l1_0) else (some false)) else (exactpplref19_Agree.l1 k2 x5_1 (wrap64 (x6_2 + 1)) l0_0 l1_0)) else (none)) = some r := by rw [if_pos rfl] at H; exact H
          clear H
          have H := H1
          clear H1
          by_cases c13 : 0 ≤ x6_2
          ·rw [if_pos c13] at H
           have c13b0 : decide (0 ≤ x6_2) = true := decide_eq_true c13
           clear c13
           by_cases c14 : ((rd_T60 l0_0 x5_1).f0) = ((rd_T60 l1_0 x6_2).f0)
           ·rw [if_pos c14] at H
            have c14b0 : (((rd_T60 l0_0 x5_1).f0) == ((rd_T60 l1_0 x6_2).f0)) = true := beq_iff_eq.mpr c14
            have c14b1 : (((rd_T60 l0_0 x5_1).f0) != ((rd_T60 l1_0 x6_2).f0)) = false := bne_eq_false_iff_eq.mpr c14
            clear c14
            by_cases c15 : (((rd_T60 l0_0 x5_1).f2).length : Int) = (((rd_T60 l1_0 x6_2).f2).length : Int)
            ·rw [if_pos c15] at H
             have c15b0 : ((((rd_T60 l0_0 x5_1).f2).length : Int) == (((rd_T60 l1_0 x6_2).f2).length : Int)) = true := beq_iff_eq.mpr c15
             have c15b1 : ((((rd_T60 l0_0 x5_1).f2).length : Int) != (((rd_T60 l1_0 x6_2).f2).length : Int)) = false := bne_eq_false_iff_eq.mpr c15
             have c15b2 : (((rd_T60 l0_0 x5_1).f2).length == ((rd_T60 l1_0 x6_2).f2).length) = true := by first | simpa using c15 | (simp at c15 ⊢; omega)
             clear c15
             have H' := Aside0.mk H
             clear H
             have hnb16 := NB492_491.out
             have hnc16 := NB491_492.out
             obtain ⟨hcz17_0, hfz17_0⟩ := cf1_ BK492.out
             try go_wp2
             replace BK491 := Aside0.mk (blk_drew BK491.out)
             replace BK492 := Aside0.mk (blk_drew BK492.out)
             replace HB := Aside0.mk (below_drew1 HB.out)
             have p493 : 0 ≤ (x5_1 : Int) := dt_
             have q493 : x5_1 < (l0_0.length : Int) := dt_
             obtain ⟨ad493, A493_2, c493_2, e493, hx493_0, hx493_1, hx493_2, hl493_2, hi493_2⟩ := at_T60 HR0_0.out x5_1 p493 q493
             have hw493_2 := hx493_2
             have hw493_1 := hx493_1
             have hw493_0 := hx493_0
             cases e493
             replace hx493_0 := (HB.out.cell (World.block_lt_of_cell? w _ hx493_0)).trans hx493_0
             replace hx493_1 := (HB.out.cell (World.block_lt_of_cell? w _ hx493_1)).trans hx493_1
             replace hx493_2 := (HB.out.cell (World.block_lt_of_cell? w _ hx493_2)).trans hx493_2
             have HR493_2 := Aside0.mk hi493_2
             have HC493_2 := Aside0.mk hl493_2
             clear hi493_2 hl493_2
             replace p493 := eq_true p493
             replace q493 := eq_true q493
             have p495 : 0 ≤ (x5_1 : Int) := dt_
             have q495 : x5_1 < (l0_0.length : Int) := dt_
             obtain ⟨ad495, A495_2, c495_2, e495, hx495_0, hx495_1, hx495_2, hl495_2, hi495_2⟩ := at_T60 HR0_0.out x5_1 p495 q495
             have hw495_2 := hx495_2
             have hw495_1 := hx495_1
             have hw495_0 := hx495_0
             obtain rfl : ad493 = ad495 := (by injection e495)
             replace hx495_0 := (HB.out.cell (World.block_lt_of_cell? w _ hx495_0)).trans hx495_0
             replace hx495_1 := (HB.out.cell (World.block_lt_of_cell? w _ hx495_1)).trans hx495_1
             replace hx495_2 := (HB.out.cell (World.block_lt_of_cell? w _ hx495_2)).trans hx495_2
             have HR495_2 := Aside0.mk hi495_2
             have HC495_2 := Aside0.mk hl495_2
             clear hi495_2 hl495_2
             replace p495 := eq_true p495
             replace q495 := eq_true q495
             have p496 : 0 ≤ (x6_2 : Int) := dt_
             have q496 : x6_2 < (l1_0.length : Int) := dt_
             obtain ⟨ad496, A496_2, c496_2, e496, hx496_0, hx496_1, hx496_2, hl496_2, hi496_2⟩ := at_T60 HR1_0.out x6_2 p496 q496
             have hw496_2 := hx496_2
             have hw496_1 := hx496_1
             have hw496_0 := hx496_0
             cases e496
             replace hx496_0 := (HB.out.cell (World.block_lt_of_cell? w _ hx496_0)).trans hx496_0
             replace hx496_1 := (HB.out.cell (World.block_lt_of_cell? w _ hx496_1)).trans hx496_1
             replace hx496_2 := (HB.out.cell (World.block_lt_of_cell? w _ hx496_2)).trans hx496_2
             have HR496_2 := Aside0.mk hi496_2
             have HC496_2 := Aside0.mk hl496_2
             clear hi496_2 hl496_2
             replace p496 := eq_true p496
             replace q496 := eq_true q496
             have p497 : 0 ≤ (x5_1 : Int) := dt_
             have q497 : x5_1 < (l0_0.length : Int) := dt_
             obtain ⟨ad497, A497_2, c497_2, e497, hx497_0, hx497_1, hx497_2, hl497_2, hi497_2⟩ := at_T60 HR0_0.out x5_1 p497 q497
             have hw497_2 := hx497_2
             have hw497_1 := hx497_1
             have hw497_0 := hx497_0
             obtain rfl : ad493 = ad497 := (by injection e497)
             replace hx497_0 := (HB.out.cell (World.block_lt_of_cell? w _ hx497_0)).trans hx497_0
             replace hx497_1 := (HB.out.cell (World.block_lt_of_cell? w _ hx497_1)).trans hx497_1
             replace hx497_2 := (HB.out.cell (World.block_lt_of_cell? w _ hx497_2)).trans hx497_2
             have HR497_2 := Aside0.mk hi497_2
             have HC497_2 := Aside0.mk hl497_2
             clear hi497_2 hl497_2
             replace p497 := eq_true p497
             replace q497 := eq_true q497
             have ea_ := Option.some.inj (hx495_2.symm.trans hx497_2)
             injection ea_ with ea_ en_ ec_
             subst ea_
             subst ec_
             clear en_
             have p498 : 0 ≤ (x6_2 : Int) := dt_
             have q498 : x6_2 < (l1_0.length : Int) := dt_
             obtain ⟨ad498, A498_2, c498_2, e498, hx498_0, hx498_1, hx498_2, hl498_2, hi498_2⟩ := at_T60 HR1_0.out x6_2 p498 q498
             have hw498_2 := hx498_2
             have hw498_1 := hx498_1
             have hw498_0 := hx498_0
             obtain rfl : ad496 = ad498 := (by injection e498)
             replace hx498_0 := (HB.out.cell (World.block_lt_of_cell? w _ hx498_0)).trans hx498_0
             replace hx498_1 := (HB.out.cell (World.block_lt_of_cell? w _ hx498_1)).trans hx498_1
             replace hx498_2 := (HB.out.cell (World.block_lt_of_cell? w _ hx498_2)).trans hx498_2
             have HR498_2 := Aside0.mk hi498_2
             have HC498_2 := Aside0.mk hl498_2
             clear hi498_2 hl498_2
             replace p498 := eq_true p498
             replace q498 := eq_true q498
             have ea_ := Option.some.inj (hx496_2.symm.trans hx498_2)
             injection ea_ with ea_ en_ ec_
             subst ea_
             subst ec_
             clear en_
             refine start_ (n := 38) (S := fun w' => w'.cell? ⟨gb491, 0, none⟩ = some (.slice (some ad493) l0_0.length c0_0) ∧ w'.cell? ⟨gb492, 0, none⟩ = some (.slice (some ad496) l1_0.length c1_0) ∧ w'.cell? (ad493.add ((x5_1).toNat * 3)) = some (.int .i64 ((rd_T60 l0_0 x5_1).f0)) ∧ w'.cell? ⟨(ad493.add ((x5_1).toNat * 3)).block, (ad493.add ((x5_1).toNat * 3)).off + 1, none⟩ = some (.int .i64 ((rd_T60 l0_0 x5_1).f1)) ∧ w'.cell? ⟨(ad493.add ((x5_1).toNat * 3)).block, (ad493.add ((x5_1).toNat * 3)).off + 2, none⟩ = some (.slice A493_2 ((rd_T60 l0_0 x5_1).f2).length c493_2) ∧ w'.cell? (ad493.add ((x5_1).toNat * 3)) = some (.int .i64 ((rd_T60 l0_0 x5_1).f0)) ∧ w'.cell? ⟨(ad493.add ((x5_1).toNat * 3)).block, (ad493.add ((x5_1).toNat * 3)).off + 1, none⟩ = some (.int .i64 ((rd_T60 l0_0 x5_1).f1)) ∧ w'.cell? ⟨(ad493.add ((x5_1).toNat * 3)).block, (ad493.add ((x5_1).toNat * 3)).off + 2, none⟩ = some (.slice A495_2 ((rd_T60 l0_0 x5_1).f2).length c495_2) ∧ w'.cell? (ad496.add ((x6_2).toNat * 3)) = some (.int .i64 ((rd_T60 l1_0 x6_2).f0)) ∧ w'.cell? ⟨(ad496.add ((x6_2).toNat * 3)).block, (ad496.add ((x6_2).toNat * 3)).off + 1, none⟩ = some (.int .i64 ((rd_T60 l1_0 x6_2).f1)) ∧ w'.cell? ⟨(ad496.add ((x6_2).toNat * 3)).block, (ad496.add ((x6_2).toNat * 3)).off + 2, none⟩ = some (.slice A496_2 ((rd_T60 l1_0 x6_2).f2).length c496_2) ∧ w'.cell? (ad493.add ((x5_1).toNat * 3)) = some (.int .i64 ((rd_T60 l0_0 x5_1).f0)) ∧ w'.cell? ⟨(ad493.add ((x5_1).toNat * 3)).block, (ad493.add ((x5_1).toNat * 3)).off + 1, none⟩ = some (.int .i64 ((rd_T60 l0_0 x5_1).f1)) ∧ w'.cell? ⟨(ad493.add ((x5_1).toNat * 3)).block, (ad493.add ((x5_1).toNat * 3)).off + 2, none⟩ = some (.slice A495_2 ((rd_T60 l0_0 x5_1).f2).length c495_2) ∧ w'.cell? (ad496.add ((x6_2).toNat * 3)) = some (.int .i64 ((rd_T60 l1_0 x6_2).f0)) ∧ w'.cell? ⟨(ad496.add ((x6_2).toNat * 3)).block, (ad496.add ((x6_2).toNat * 3)).off + 1, none⟩ = some (.int .i64 ((rd_T60 l1_0 x6_2).f1)) ∧ w'.cell? ⟨(ad496.add ((x6_2).toNat * 3)).block, (ad496.add ((x6_2).toNat * 3)).off + 2, none⟩ = some (.slice A496_2 ((rd_T60 l1_0 x6_2).f2).length c496_2)) (ds := []) #[false, false, false, false, false, false, false, false, false, false, false, false, false, false, false, false, false, false, false, false, false, false, false, false, false, false, false, false, false, false, false, false, false, false, false, false, false, false] (by kernel_rfl) rfl rfl ⟨(blk_cell BK491.out 0).trans rfl, (blk_cell BK492.out 0).trans rfl, ((HB.out.cell (World.block_lt_of_cell? w _ hw493_0)).trans hw493_0), ((HB.out.cell (World.block_lt_of_cell? w _ hw493_1)).trans hw493_1), ((HB.out.cell (World.block_lt_of_cell? w _ hw493_2)).trans hw493_2), ((HB.out.cell (World.block_lt_of_cell? w _ hw495_0)).trans hw495_0), ((HB.out.cell (World.block_lt_of_cell? w _ hw495_1)).trans hw495_1), ((HB.out.cell (World.block_lt_of_cell? w _ hw495_2)).trans hw495_2), ((HB.out.cell (World.block_lt_of_cell? w _ hw496_0)).trans hw496_0), ((HB.out.cell (World.block_lt_of_cell? w _ hw496_1)).trans hw496_1), ((HB.out.cell (World.block_lt_of_cell? w _ hw496_2)).trans hw496_2), ((HB.out.cell (World.block_lt_of_cell? w _ hw497_0)).trans hw497_0), ((HB.out.cell (World.block_lt_of_cell? w _ hw497_1)).trans hw497_1), ((HB.out.cell (World.block_lt_of_cell? w _ hw497_2)).trans hw497_2), ((HB.out.cell (World.block_lt_of_cell? w _ hw498_0)).trans hw498_0), ((HB.out.cell (World.block_lt_of_cell? w _ hw498_1)).trans hw498_1), ((HB.out.cell (World.block_lt_of_cell? w _ hw498_2)).trans hw498_2)⟩ (fun hHeld => ?_); refine with_tabW exactpplref19_Agree.tab7 exactpplref19_Agree.bits7 (fun HT_ HW_ => ?_)
             generalize wr.drew = w18 at BK491 BK492 HB HR493_2 HR495_2 HR496_2 HR497_2 HR498_2 hx493_0 hx493_1 hx493_2 hx495_0 hx495_1 hx495_2 hx496_0 hx496_1 hx496_2 hx497_0 hx497_1 hx497_2 hx498_0 hx498_1 hx498_2 hHeld ⊢
             refine pu_ HT_ 0 21 (bm 38 1) ?_
             refine pu_ HT_ 2 23 (bm 38 5) ?_
             refine ta_ HT_ HW_ 1 22 (bm 38 7) hHeld ?_
             refine pu_ HT_ 3 24 (bm 38 15) ?_
             refine ta_ HT_ HW_ 4 25 (bm 38 31) hHeld ?_
             refine one_ (i := 5) (N := some 26) #[true, true, true, true, true, true, false, false, false, false, false, false, false, false, false, false, false, false, false, false, false, false, false, false, false, false, false, false, false, false, false, false, false, false, false, false, false, false] rfl rfl (one_of HT_.out (by kernel_rfl)) (by decide) (fun K hK => ?_)
             refine goes_ Tryd.func55 (by kernel_rfl) rfl #[.agg #[.int .i64 ((rd_T60 l0_0 x5_1).f0), .int .i64 ((rd_T60 l0_0 x5_1).f1), .slice A493_2 ((rd_T60 l0_0 x5_1).f2).length c493_2]] (by rfl) rfl rfl (by (try simp only [List.map_toArray, List.map_cons, List.map_nil]); first | done | rfl | (simp only [List.length_drop, List.length_take]; rfl)) ?_
             with_reducible refine (exactpplref19_IsBranch.calls ((rd_T60 l0_0 x5_1).f0) ((rd_T60 l0_0 x5_1).f1) _ _ ((rd_T60 l0_0 x5_1).f2) true _ ?side1 ?side2 A11.out).mono ?_
             (case side1 => repeat (first | exact (Kd.C_below HR493_2.out HB.out) | (with_reducible refine Kd.C_alloc ?_ _) | (with_reducible refine Kd.C_drewN ?_ _) | (with_reducible refine Kd.C_drew ?_)))
             (case side2 => exact HC493_2.out)
             rintro e w19 ⟨rfl, hb⟩
             refine ⟨_, rfl, ?_⟩
             replace BK491 := Aside0.mk (blk_below (g := gb491) (o := .cells #[.slice (some ad493) l0_0.length c0_0] 31 (0, 0)) bk_ hb)
             replace BK492 := Aside0.mk (blk_below (g := gb492) (o := .cells #[.slice (some ad496) l1_0.length c1_0] 31 (0, 0)) bk_ hb)
             replace HB := Aside0.mk (below_step bl_ hb)
             (try clear hb)
             (try clear hb2)
             (try clear hk)
             (try clear hi)
             refine hK.out _ _ ⟨(blk_cell BK491.out 0).trans rfl, (blk_cell BK492.out 0).trans rfl, ((HB.out.cell (World.block_lt_of_cell? w _ hw493_0)).trans hw493_0), ((HB.out.cell (World.block_lt_of_cell? w _ hw493_1)).trans hw493_1), ((HB.out.cell (World.block_lt_of_cell? w _ hw493_2)).trans hw493_2), ((HB.out.cell (World.block_lt_of_cell? w _ hw495_0)).trans hw495_0), ((HB.out.cell (World.block_lt_of_cell? w _ hw495_1)).trans hw495_1), ((HB.out.cell (World.block_lt_of_cell? w _ hw495_2)).trans hw495_2), ((HB.out.cell (World.block_lt_of_cell? w _ hw496_0)).trans hw496_0), ((HB.out.cell (World.block_lt_of_cell? w _ hw496_1)).trans hw496_1), ((HB.out.cell (World.block_lt_of_cell? w _ hw496_2)).trans hw496_2), ((HB.out.cell (World.block_lt_of_cell? w _ hw497_0)).trans hw497_0), ((HB.out.cell (World.block_lt_of_cell? w _ hw497_1)).trans hw497_1), ((HB.out.cell (World.block_lt_of_cell? w _ hw497_2)).trans hw497_2), ((HB.out.cell (World.block_lt_of_cell? w _ hw498_0)).trans hw498_0), ((HB.out.cell (World.block_lt_of_cell? w _ hw498_1)).trans hw498_1), ((HB.out.cell (World.block_lt_of_cell? w _ hw498_2)).trans hw498_2)⟩ (fun hHeld => ?_)
             clear hK K
             refine norm_ (a' := ?_) ?_ ?_
             rotate_left
             ·show Act.put _ (some 26) _ = _
              simp only [Act.put, List.setIfInBounds_toArray, List.set_cons_zero, List.set_cons_succ, i64_w, i32_w]
              rfl
             refine pu_ HT_ 6 27 (bm 38 127) ?_
             refine pu_ HT_ 7 28 (bm 38 255) ?_
             refine pu_ HT_ 9 30 (bm 38 767) ?_
             refine pu_ HT_ 13 34 (bm 38 8959) ?_
             refine pu_ HT_ 15 36 (bm 38 41727) ?_
             refine ta_ HT_ HW_ 8 29 (bm 38 41983) hHeld ?_
             refine pu_ HT_ 10 31 (bm 38 43007) ?_
             refine pu_ HT_ 11 32 (bm 38 45055) ?_
             refine ta_ HT_ HW_ 12 33 (bm 38 49151) hHeld ?_
             refine ta_ HT_ HW_ 14 35 (bm 38 65535) hHeld ?_
             refine pu_ HT_ 16 37 (bm 38 131071) ?_
             refine pu_ HT_ 17 38 (bm 38 262143) ?_
             refine ta_ HT_ HW_ 18 39 (bm 38 524287) hHeld ?_
             refine pu_ HT_ 19 40 (bm 38 1048575) ?_
             refine pu_ HT_ 20 41 (bm 38 2097151) ?_
             refine pu_ HT_ 21 42 (bm 38 4194303) ?_
             refine pu_ HT_ 22 43 (bm 38 8388607) ?_
             refine pu_ HT_ 24 45 (bm 38 25165823) ?_
             refine pu_ HT_ 29 50 (bm 38 562036735) ?_
             refine pu_ HT_ 31 52 (bm 38 2709520383) ?_
             refine ta_ HT_ HW_ 23 44 (bm 38 2717908991) hHeld ?_
             refine pu_ HT_ 25 46 (bm 38 2751463423) ?_
             refine pu_ HT_ 26 47 (bm 38 2818572287) ?_
             refine ta_ HT_ HW_ 27 48 (bm 38 2952790015) hHeld ?_
             refine pu_ HT_ 28 49 (bm 38 3221225471) ?_
             refine ta_ HT_ HW_ 30 51 (bm 38 4294967295) hHeld ?_
             refine pu_ HT_ 32 53 (bm 38 8589934591) ?_
             refine pu_ HT_ 33 54 (bm 38 17179869183) ?_
             refine ta_ HT_ HW_ 34 55 (bm 38 34359738367) hHeld ?_
             refine pu_ HT_ 35 56 (bm 38 68719476735) ?_
             refine pu_ HT_ 36 57 (bm 38 137438953471) ?_
             refine pu_ HT_ 37 58 #[true, true, true, true, true, true, true, true, true, true, true, true, true, true, true, true, true, true, true, true, true, true, true, true, true, true, true, true, true, true, true, true, true, true, true, true, true, true] ?_
             refine done_ (done_of HT_.out (by kernel_rfl)) ?_
             try go_wp2
             go_roundg k2
             case measure => have := HK1.out; have := HK2.out; omega
             case rel => exact ⟨(wrap64 (x6_2 + 1)), rs_, H', ⟨by have := HK1.out; have := HK2.out; omega⟩, ⟨bk_⟩, ⟨bk_⟩, ⟨bl_⟩⟩
            ·rw [if_neg c15] at H
             have c15b0 : ((((rd_T60 l0_0 x5_1).f2).length : Int) == (((rd_T60 l1_0 x6_2).f2).length : Int)) = false := beq_eq_false_iff_ne.mpr c15
             have c15b1 : ((((rd_T60 l0_0 x5_1).f2).length : Int) != (((rd_T60 l1_0 x6_2).f2).length : Int)) = true := bne_iff_ne.mpr c15
             have c15b2 : (((rd_T60 l0_0 x5_1).f2).length == ((rd_T60 l1_0 x6_2).f2).length) = false := by first | simpa using c15 | (simp at c15 ⊢; omega)
             obtain rfl := Option.some.inj H
             have hnb20 := NB492_491.out
             have hnc20 := NB491_492.out
             obtain ⟨hcz21_0, hfz21_0⟩ := cf1_ BK492.out
             try go_wp2
             replace BK491 := Aside0.mk (blk_drew BK491.out)
             replace BK492 := Aside0.mk (blk_drew BK492.out)
             replace HB := Aside0.mk (below_drew1 HB.out)
             have p493 : 0 ≤ (x5_1 : Int) := dt_
             have q493 : x5_1 < (l0_0.length : Int) := dt_
             obtain ⟨ad493, A493_2, c493_2, e493, hx493_0, hx493_1, hx493_2, hl493_2, hi493_2⟩ := at_T60 HR0_0.out x5_1 p493 q493
             have hw493_2 := hx493_2
             have hw493_1 := hx493_1
             have hw493_0 := hx493_0
             cases e493
             replace hx493_0 := (HB.out.cell (World.block_lt_of_cell? w _ hx493_0)).trans hx493_0
             replace hx493_1 := (HB.out.cell (World.block_lt_of_cell? w _ hx493_1)).trans hx493_1
             replace hx493_2 := (HB.out.cell (World.block_lt_of_cell? w _ hx493_2)).trans hx493_2
             have HR493_2 := Aside0.mk hi493_2
             have HC493_2 := Aside0.mk hl493_2
             clear hi493_2 hl493_2
             replace p493 := eq_true p493
             replace q493 := eq_true q493
             have p495 : 0 ≤ (x5_1 : Int) := dt_
             have q495 : x5_1 < (l0_0.length : Int) := dt_
             obtain ⟨ad495, A495_2, c495_2, e495, hx495_0, hx495_1, hx495_2, hl495_2, hi495_2⟩ := at_T60 HR0_0.out x5_1 p495 q495
             have hw495_2 := hx495_2
             have hw495_1 := hx495_1
             have hw495_0 := hx495_0
             obtain rfl : ad493 = ad495 := (by injection e495)
             replace hx495_0 := (HB.out.cell (World.block_lt_of_cell? w _ hx495_0)).trans hx495_0
             replace hx495_1 := (HB.out.cell (World.block_lt_of_cell? w _ hx495_1)).trans hx495_1
             replace hx495_2 := (HB.out.cell (World.block_lt_of_cell? w _ hx495_2)).trans hx495_2
             have HR495_2 := Aside0.mk hi495_2
             have HC495_2 := Aside0.mk hl495_2
             clear hi495_2 hl495_2
             replace p495 := eq_true p495
             replace q495 := eq_true q495
             have p496 : 0 ≤ (x6_2 : Int) := dt_
             have q496 : x6_2 < (l1_0.length : Int) := dt_
             obtain ⟨ad496, A496_2, c496_2, e496, hx496_0, hx496_1, hx496_2, hl496_2, hi496_2⟩ := at_T60 HR1_0.out x6_2 p496 q496
             have hw496_2 := hx496_2
             have hw496_1 := hx496_1
             have hw496_0 := hx496_0
             cases e496
             replace hx496_0 := (HB.out.cell (World.block_lt_of_cell? w _ hx496_0)).trans hx496_0
             replace hx496_1 := (HB.out.cell (World.block_lt_of_cell? w _ hx496_1)).trans hx496_1
             replace hx496_2 := (HB.out.cell (World.block_lt_of_cell? w _ hx496_2)).trans hx496_2
             have HR496_2 := Aside0.mk hi496_2
             have HC496_2 := Aside0.mk hl496_2
             clear hi496_2 hl496_2
             replace p496 := eq_true p496
             replace q496 := eq_true q496
             have p497 : 0 ≤ (x5_1 : Int) := dt_
             have q497 : x5_1 < (l0_0.length : Int) := dt_
             obtain ⟨ad497, A497_2, c497_2, e497, hx497_0, hx497_1, hx497_2, hl497_2, hi497_2⟩ := at_T60 HR0_0.out x5_1 p497 q497
             have hw497_2 := hx497_2
             have hw497_1 := hx497_1
             have hw497_0 := hx497_0
             obtain rfl : ad493 = ad497 := (by injection e497)
             replace hx497_0 := (HB.out.cell (World.block_lt_of_cell? w _ hx497_0)).trans hx497_0
             replace hx497_1 := (HB.out.cell (World.block_lt_of_cell? w _ hx497_1)).trans hx497_1
             replace hx497_2 := (HB.out.cell (World.block_lt_of_cell? w _ hx497_2)).trans hx497_2
             have HR497_2 := Aside0.mk hi497_2
             have HC497_2 := Aside0.mk hl497_2
             clear hi497_2 hl497_2
             replace p497 := eq_true p497
             replace q497 := eq_true q497
             have ea_ := Option.some.inj (hx495_2.symm.trans hx497_2)
             injection ea_ with ea_ en_ ec_
             subst ea_
             subst ec_
             clear en_
             have p498 : 0 ≤ (x6_2 : Int) := dt_
             have q498 : x6_2 < (l1_0.length : Int) := dt_
             obtain ⟨ad498, A498_2, c498_2, e498, hx498_0, hx498_1, hx498_2, hl498_2, hi498_2⟩ := at_T60 HR1_0.out x6_2 p498 q498
             have hw498_2 := hx498_2
             have hw498_1 := hx498_1
             have hw498_0 := hx498_0
             obtain rfl : ad496 = ad498 := (by injection e498)
             replace hx498_0 := (HB.out.cell (World.block_lt_of_cell? w _ hx498_0)).trans hx498_0
             replace hx498_1 := (HB.out.cell (World.block_lt_of_cell? w _ hx498_1)).trans hx498_1
             replace hx498_2 := (HB.out.cell (World.block_lt_of_cell? w _ hx498_2)).trans hx498_2
             have HR498_2 := Aside0.mk hi498_2
             have HC498_2 := Aside0.mk hl498_2
             clear hi498_2 hl498_2
             replace p498 := eq_true p498
             replace q498 := eq_true q498
             have ea_ := Option.some.inj (hx496_2.symm.trans hx498_2)
             injection ea_ with ea_ en_ ec_
             subst ea_
             subst ec_
             clear en_
             refine start_ (n := 38) (S := fun w' => w'.cell? ⟨gb491, 0, none⟩ = some (.slice (some ad493) l0_0.length c0_0) ∧ w'.cell? ⟨gb492, 0, none⟩ = some (.slice (some ad496) l1_0.length c1_0) ∧ w'.cell? (ad493.add ((x5_1).toNat * 3)) = some (.int .i64 ((rd_T60 l0_0 x5_1).f0)) ∧ w'.cell? ⟨(ad493.add ((x5_1).toNat * 3)).block, (ad493.add ((x5_1).toNat * 3)).off + 1, none⟩ = some (.int .i64 ((rd_T60 l0_0 x5_1).f1)) ∧ w'.cell? ⟨(ad493.add ((x5_1).toNat * 3)).block, (ad493.add ((x5_1).toNat * 3)).off + 2, none⟩ = some (.slice A493_2 ((rd_T60 l0_0 x5_1).f2).length c493_2) ∧ w'.cell? (ad493.add ((x5_1).toNat * 3)) = some (.int .i64 ((rd_T60 l0_0 x5_1).f0)) ∧ w'.cell? ⟨(ad493.add ((x5_1).toNat * 3)).block, (ad493.add ((x5_1).toNat * 3)).off + 1, none⟩ = some (.int .i64 ((rd_T60 l0_0 x5_1).f1)) ∧ w'.cell? ⟨(ad493.add ((x5_1).toNat * 3)).block, (ad493.add ((x5_1).toNat * 3)).off + 2, none⟩ = some (.slice A495_2 ((rd_T60 l0_0 x5_1).f2).length c495_2) ∧ w'.cell? (ad496.add ((x6_2).toNat * 3)) = some (.int .i64 ((rd_T60 l1_0 x6_2).f0)) ∧ w'.cell? ⟨(ad496.add ((x6_2).toNat * 3)).block, (ad496.add ((x6_2).toNat * 3)).off + 1, none⟩ = some (.int .i64 ((rd_T60 l1_0 x6_2).f1)) ∧ w'.cell? ⟨(ad496.add ((x6_2).toNat * 3)).block, (ad496.add ((x6_2).toNat * 3)).off + 2, none⟩ = some (.slice A496_2 ((rd_T60 l1_0 x6_2).f2).length c496_2) ∧ w'.cell? (ad493.add ((x5_1).toNat * 3)) = some (.int .i64 ((rd_T60 l0_0 x5_1).f0)) ∧ w'.cell? ⟨(ad493.add ((x5_1).toNat * 3)).block, (ad493.add ((x5_1).toNat * 3)).off + 1, none⟩ = some (.int .i64 ((rd_T60 l0_0 x5_1).f1)) ∧ w'.cell? ⟨(ad493.add ((x5_1).toNat * 3)).block, (ad493.add ((x5_1).toNat * 3)).off + 2, none⟩ = some (.slice A495_2 ((rd_T60 l0_0 x5_1).f2).length c495_2) ∧ w'.cell? (ad496.add ((x6_2).toNat * 3)) = some (.int .i64 ((rd_T60 l1_0 x6_2).f0)) ∧ w'.cell? ⟨(ad496.add ((x6_2).toNat * 3)).block, (ad496.add ((x6_2).toNat * 3)).off + 1, none⟩ = some (.int .i64 ((rd_T60 l1_0 x6_2).f1)) ∧ w'.cell? ⟨(ad496.add ((x6_2).toNat * 3)).block, (ad496.add ((x6_2).toNat * 3)).off + 2, none⟩ = some (.slice A496_2 ((rd_T60 l1_0 x6_2).f2).length c496_2)) (ds := []) #[false, false, false, false, false, false, false, false, false, false, false, false, false, false, false, false, false, false, false, false, false, false, false, false, false, false, false, false, false, false, false, false, false, false, false, false, false, false] (by kernel_rfl) rfl rfl ⟨(blk_cell BK491.out 0).trans rfl, (blk_cell BK492.out 0).trans rfl, ((HB.out.cell (World.block_lt_of_cell? w _ hw493_0)).trans hw493_0), ((HB.out.cell (World.block_lt_of_cell? w _ hw493_1)).trans hw493_1), ((HB.out.cell (World.block_lt_of_cell? w _ hw493_2)).trans hw493_2), ((HB.out.cell (World.block_lt_of_cell? w _ hw495_0)).trans hw495_0), ((HB.out.cell (World.block_lt_of_cell? w _ hw495_1)).trans hw495_1), ((HB.out.cell (World.block_lt_of_cell? w _ hw495_2)).trans hw495_2), ((HB.out.cell (World.block_lt_of_cell? w _ hw496_0)).trans hw496_0), ((HB.out.cell (World.block_lt_of_cell? w _ hw496_1)).trans hw496_1), ((HB.out.cell (World.block_lt_of_cell? w _ hw496_2)).trans hw496_2), ((HB.out.cell (World.block_lt_of_cell? w _ hw497_0)).trans hw497_0), ((HB.out.cell (World.block_lt_of_cell? w _ hw497_1)).trans hw497_1), ((HB.out.cell (World.block_lt_of_cell? w _ hw497_2)).trans hw497_2), ((HB.out.cell (World.block_lt_of_cell? w _ hw498_0)).trans hw498_0), ((HB.out.cell (World.block_lt_of_cell? w _ hw498_1)).trans hw498_1), ((HB.out.cell (World.block_lt_of_cell? w _ hw498_2)).trans hw498_2)⟩ (fun hHeld => ?_); refine with_tabW exactpplref19_Agree.tab7 exactpplref19_Agree.bits7 (fun HT_ HW_ => ?_)
             generalize wr.drew = w22 at BK491 BK492 HB HR493_2 HR495_2 HR496_2 HR497_2 HR498_2 hx493_0 hx493_1 hx493_2 hx495_0 hx495_1 hx495_2 hx496_0 hx496_1 hx496_2 hx497_0 hx497_1 hx497_2 hx498_0 hx498_1 hx498_2 hHeld ⊢
             refine pu_ HT_ 0 21 (bm 38 1) ?_
             refine pu_ HT_ 2 23 (bm 38 5) ?_
             refine ta_ HT_ HW_ 1 22 (bm 38 7) hHeld ?_
             refine pu_ HT_ 3 24 (bm 38 15) ?_
             refine ta_ HT_ HW_ 4 25 (bm 38 31) hHeld ?_
             refine one_ (i := 5) (N := some 26) #[true, true, true, true, true, true, false, false, false, false, false, false, false, false, false, false, false, false, false, false, false, false, false, false, false, false, false, false, false, false, false, false, false, false, false, false, false, false] rfl rfl (one_of HT_.out (by kernel_rfl)) (by decide) (fun K hK => ?_)
             refine goes_ Tryd.func55 (by kernel_rfl) rfl #[.agg #[.int .i64 ((rd_T60 l0_0 x5_1).f0), .int .i64 ((rd_T60 l0_0 x5_1).f1), .slice A493_2 ((rd_T60 l0_0 x5_1).f2).length c493_2]] (by rfl) rfl rfl (by (try simp only [List.map_toArray, List.map_cons, List.map_nil]); first | done | rfl | (simp only [List.length_drop, List.length_take]; rfl)) ?_
             with_reducible refine (exactpplref19_IsBranch.calls ((rd_T60 l0_0 x5_1).f0) ((rd_T60 l0_0 x5_1).f1) _ _ ((rd_T60 l0_0 x5_1).f2) true _ ?side1 ?side2 A11.out).mono ?_
             (case side1 => repeat (first | exact (Kd.C_below HR493_2.out HB.out) | (with_reducible refine Kd.C_alloc ?_ _) | (with_reducible refine Kd.C_drewN ?_ _) | (with_reducible refine Kd.C_drew ?_)))
             (case side2 => exact HC493_2.out)
             rintro e w23 ⟨rfl, hb⟩
             refine ⟨_, rfl, ?_⟩
             replace BK491 := Aside0.mk (blk_below (g := gb491) (o := .cells #[.slice (some ad493) l0_0.length c0_0] 31 (0, 0)) bk_ hb)
             replace BK492 := Aside0.mk (blk_below (g := gb492) (o := .cells #[.slice (some ad496) l1_0.length c1_0] 31 (0, 0)) bk_ hb)
             replace HB := Aside0.mk (below_step bl_ hb)
             (try clear hb)
             (try clear hb2)
             (try clear hk)
             (try clear hi)
             refine hK.out _ _ ⟨(blk_cell BK491.out 0).trans rfl, (blk_cell BK492.out 0).trans rfl, ((HB.out.cell (World.block_lt_of_cell? w _ hw493_0)).trans hw493_0), ((HB.out.cell (World.block_lt_of_cell? w _ hw493_1)).trans hw493_1), ((HB.out.cell (World.block_lt_of_cell? w _ hw493_2)).trans hw493_2), ((HB.out.cell (World.block_lt_of_cell? w _ hw495_0)).trans hw495_0), ((HB.out.cell (World.block_lt_of_cell? w _ hw495_1)).trans hw495_1), ((HB.out.cell (World.block_lt_of_cell? w _ hw495_2)).trans hw495_2), ((HB.out.cell (World.block_lt_of_cell? w _ hw496_0)).trans hw496_0), ((HB.out.cell (World.block_lt_of_cell? w _ hw496_1)).trans hw496_1), ((HB.out.cell (World.block_lt_of_cell? w _ hw496_2)).trans hw496_2), ((HB.out.cell (World.block_lt_of_cell? w _ hw497_0)).trans hw497_0), ((HB.out.cell (World.block_lt_of_cell? w _ hw497_1)).trans hw497_1), ((HB.out.cell (World.block_lt_of_cell? w _ hw497_2)).trans hw497_2), ((HB.out.cell (World.block_lt_of_cell? w _ hw498_0)).trans hw498_0), ((HB.out.cell (World.block_lt_of_cell? w _ hw498_1)).trans hw498_1), ((HB.out.cell (World.block_lt_of_cell? w _ hw498_2)).trans hw498_2)⟩ (fun hHeld => ?_)
             clear hK K
             refine norm_ (a' := ?_) ?_ ?_
             rotate_left
             ·show Act.put _ (some 26) _ = _
              simp only [Act.put, List.setIfInBounds_toArray, List.set_cons_zero, List.set_cons_succ, i64_w, i32_w]
              rfl
             refine pu_ HT_ 6 27 (bm 38 127) ?_
             refine pu_ HT_ 7 28 (bm 38 255) ?_
             refine pu_ HT_ 9 30 (bm 38 767) ?_
             refine pu_ HT_ 13 34 (bm 38 8959) ?_
             refine pu_ HT_ 15 36 (bm 38 41727) ?_
             refine ta_ HT_ HW_ 8 29 (bm 38 41983) hHeld ?_
             refine pu_ HT_ 10 31 (bm 38 43007) ?_
             refine pu_ HT_ 11 32 (bm 38 45055) ?_
             refine ta_ HT_ HW_ 12 33 (bm 38 49151) hHeld ?_
             refine ta_ HT_ HW_ 14 35 (bm 38 65535) hHeld ?_
             refine pu_ HT_ 16 37 (bm 38 131071) ?_
             refine pu_ HT_ 17 38 (bm 38 262143) ?_
             refine ta_ HT_ HW_ 18 39 (bm 38 524287) hHeld ?_
             refine pu_ HT_ 19 40 (bm 38 1048575) ?_
             refine pu_ HT_ 20 41 (bm 38 2097151) ?_
             refine pu_ HT_ 21 42 (bm 38 4194303) ?_
             refine pu_ HT_ 22 43 (bm 38 8388607) ?_
             refine pu_ HT_ 24 45 (bm 38 25165823) ?_
             refine pu_ HT_ 29 50 (bm 38 562036735) ?_
             refine pu_ HT_ 31 52 (bm 38 2709520383) ?_
             refine ta_ HT_ HW_ 23 44 (bm 38 2717908991) hHeld ?_
             refine pu_ HT_ 25 46 (bm 38 2751463423) ?_
             refine pu_ HT_ 26 47 (bm 38 2818572287) ?_
             refine ta_ HT_ HW_ 27 48 (bm 38 2952790015) hHeld ?_
             refine pu_ HT_ 28 49 (bm 38 3221225471) ?_
             refine ta_ HT_ HW_ 30 51 (bm 38 4294967295) hHeld ?_
             refine pu_ HT_ 32 53 (bm 38 8589934591) ?_
             refine pu_ HT_ 33 54 (bm 38 17179869183) ?_
             refine ta_ HT_ HW_ 34 55 (bm 38 34359738367) hHeld ?_
             refine pu_ HT_ 35 56 (bm 38 68719476735) ?_
             refine pu_ HT_ 36 57 (bm 38 137438953471) ?_
             refine pu_ HT_ 37 58 #[true, true, true, true, true, true, true, true, true, true, true, true, true, true, true, true, true, true, true, true, true, true, true, true, true, true, true, true, true, true, true, true, true, true, true, true, true, true] ?_
             refine done_ (done_of HT_.out (by kernel_rfl)) ?_
             try go_wp2
             go_ret
             exact ⟨re_, bl_⟩
           ·rw [if_neg c14] at H
            have c14b0 : (((rd_T60 l0_0 x5_1).f0) == ((rd_T60 l1_0 x6_2).f0)) = false := beq_eq_false_iff_ne.mpr c14
            have c14b1 : (((rd_T60 l0_0 x5_1).f0) != ((rd_T60 l1_0 x6_2).f0)) = true := bne_iff_ne.mpr c14
            have H' := Aside0.mk H
            clear H
            have hnb24 := NB492_491.out
            have hnc24 := NB491_492.out
            obtain ⟨hcz25_0, hfz25_0⟩ := cf1_ BK492.out
            try go_wp2
            replace BK491 := Aside0.mk (blk_drew BK491.out)
            replace BK492 := Aside0.mk (blk_drew BK492.out)
            replace HB := Aside0.mk (below_drew1 HB.out)
            have p493 : 0 ≤ (x5_1 : Int) := dt_
            have q493 : x5_1 < (l0_0.length : Int) := dt_
            obtain ⟨ad493, A493_2, c493_2, e493, hx493_0, hx493_1, hx493_2, hl493_2, hi493_2⟩ := at_T60 HR0_0.out x5_1 p493 q493
            have hw493_2 := hx493_2
            have hw493_1 := hx493_1
            have hw493_0 := hx493_0
            cases e493
            replace hx493_0 := (HB.out.cell (World.block_lt_of_cell? w _ hx493_0)).trans hx493_0
            replace hx493_1 := (HB.out.cell (World.block_lt_of_cell? w _ hx493_1)).trans hx493_1
            replace hx493_2 := (HB.out.cell (World.block_lt_of_cell? w _ hx493_2)).trans hx493_2
            have HR493_2 := Aside0.mk hi493_2
            have HC493_2 := Aside0.mk hl493_2
            clear hi493_2 hl493_2
            replace p493 := eq_true p493
            replace q493 := eq_true q493
            have p495 : 0 ≤ (x5_1 : Int) := dt_
            have q495 : x5_1 < (l0_0.length : Int) := dt_
            obtain ⟨ad495, A495_2, c495_2, e495, hx495_0, hx495_1, hx495_2, hl495_2, hi495_2⟩ := at_T60 HR0_0.out x5_1 p495 q495
            have hw495_2 := hx495_2
            have hw495_1 := hx495_1
            have hw495_0 := hx495_0
            obtain rfl : ad493 = ad495 := (by injection e495)
            replace hx495_0 := (HB.out.cell (World.block_lt_of_cell? w _ hx495_0)).trans hx495_0
            replace hx495_1 := (HB.out.cell (World.block_lt_of_cell? w _ hx495_1)).trans hx495_1
            replace hx495_2 := (HB.out.cell (World.block_lt_of_cell? w _ hx495_2)).trans hx495_2
            have HR495_2 := Aside0.mk hi495_2
            have HC495_2 := Aside0.mk hl495_2
            clear hi495_2 hl495_2
            replace p495 := eq_true p495
            replace q495 := eq_true q495
            have p496 : 0 ≤ (x6_2 : Int) := dt_
            have q496 : x6_2 < (l1_0.length : Int) := dt_
            obtain ⟨ad496, A496_2, c496_2, e496, hx496_0, hx496_1, hx496_2, hl496_2, hi496_2⟩ := at_T60 HR1_0.out x6_2 p496 q496
            have hw496_2 := hx496_2
            have hw496_1 := hx496_1
            have hw496_0 := hx496_0
            cases e496
            replace hx496_0 := (HB.out.cell (World.block_lt_of_cell? w _ hx496_0)).trans hx496_0
            replace hx496_1 := (HB.out.cell (World.block_lt_of_cell? w _ hx496_1)).trans hx496_1
            replace hx496_2 := (HB.out.cell (World.block_lt_of_cell? w _ hx496_2)).trans hx496_2
            have HR496_2 := Aside0.mk hi496_2
            have HC496_2 := Aside0.mk hl496_2
            clear hi496_2 hl496_2
            replace p496 := eq_true p496
            replace q496 := eq_true q496
            refine start_ (n := 38) (S := fun w' => w'.cell? ⟨gb491, 0, none⟩ = some (.slice (some ad493) l0_0.length c0_0) ∧ w'.cell? ⟨gb492, 0, none⟩ = some (.slice (some ad496) l1_0.length c1_0) ∧ w'.cell? (ad493.add ((x5_1).toNat * 3)) = some (.int .i64 ((rd_T60 l0_0 x5_1).f0)) ∧ w'.cell? ⟨(ad493.add ((x5_1).toNat * 3)).block, (ad493.add ((x5_1).toNat * 3)).off + 1, none⟩ = some (.int .i64 ((rd_T60 l0_0 x5_1).f1)) ∧ w'.cell? ⟨(ad493.add ((x5_1).toNat * 3)).block, (ad493.add ((x5_1).toNat * 3)).off + 2, none⟩ = some (.slice A493_2 ((rd_T60 l0_0 x5_1).f2).length c493_2) ∧ w'.cell? (ad493.add ((x5_1).toNat * 3)) = some (.int .i64 ((rd_T60 l0_0 x5_1).f0)) ∧ w'.cell? ⟨(ad493.add ((x5_1).toNat * 3)).block, (ad493.add ((x5_1).toNat * 3)).off + 1, none⟩ = some (.int .i64 ((rd_T60 l0_0 x5_1).f1)) ∧ w'.cell? ⟨(ad493.add ((x5_1).toNat * 3)).block, (ad493.add ((x5_1).toNat * 3)).off + 2, none⟩ = some (.slice A495_2 ((rd_T60 l0_0 x5_1).f2).length c495_2) ∧ w'.cell? (ad496.add ((x6_2).toNat * 3)) = some (.int .i64 ((rd_T60 l1_0 x6_2).f0)) ∧ w'.cell? ⟨(ad496.add ((x6_2).toNat * 3)).block, (ad496.add ((x6_2).toNat * 3)).off + 1, none⟩ = some (.int .i64 ((rd_T60 l1_0 x6_2).f1)) ∧ w'.cell? ⟨(ad496.add ((x6_2).toNat * 3)).block, (ad496.add ((x6_2).toNat * 3)).off + 2, none⟩ = some (.slice A496_2 ((rd_T60 l1_0 x6_2).f2).length c496_2)) (ds := []) #[false, false, false, false, false, false, false, false, false, false, false, false, false, false, false, false, false, false, false, false, false, false, false, false, false, false, false, false, false, false, false, false, false, false, false, false, false, false] (by kernel_rfl) rfl rfl ⟨(blk_cell BK491.out 0).trans rfl, (blk_cell BK492.out 0).trans rfl, ((HB.out.cell (World.block_lt_of_cell? w _ hw493_0)).trans hw493_0), ((HB.out.cell (World.block_lt_of_cell? w _ hw493_1)).trans hw493_1), ((HB.out.cell (World.block_lt_of_cell? w _ hw493_2)).trans hw493_2), ((HB.out.cell (World.block_lt_of_cell? w _ hw495_0)).trans hw495_0), ((HB.out.cell (World.block_lt_of_cell? w _ hw495_1)).trans hw495_1), ((HB.out.cell (World.block_lt_of_cell? w _ hw495_2)).trans hw495_2), ((HB.out.cell (World.block_lt_of_cell? w _ hw496_0)).trans hw496_0), ((HB.out.cell (World.block_lt_of_cell? w _ hw496_1)).trans hw496_1), ((HB.out.cell (World.block_lt_of_cell? w _ hw496_2)).trans hw496_2)⟩ (fun hHeld => ?_); refine with_tabW exactpplref19_Agree.tab7 exactpplref19_Agree.bits7 (fun HT_ HW_ => ?_)
            generalize wr.drew = w26 at BK491 BK492 HB HR493_2 HR495_2 HR496_2 hx493_0 hx493_1 hx493_2 hx495_0 hx495_1 hx495_2 hx496_0 hx496_1 hx496_2 hHeld ⊢
            refine pu_ HT_ 0 21 (bm 38 1) ?_
            refine pu_ HT_ 2 23 (bm 38 5) ?_
            refine ta_ HT_ HW_ 1 22 (bm 38 7) hHeld ?_
            refine pu_ HT_ 3 24 (bm 38 15) ?_
            refine ta_ HT_ HW_ 4 25 (bm 38 31) hHeld ?_
            refine one_ (i := 5) (N := some 26) #[true, true, true, true, true, true, false, false, false, false, false, false, false, false, false, false, false, false, false, false, false, false, false, false, false, false, false, false, false, false, false, false, false, false, false, false, false, false] rfl rfl (one_of HT_.out (by kernel_rfl)) (by decide) (fun K hK => ?_)
            refine goes_ Tryd.func55 (by kernel_rfl) rfl #[.agg #[.int .i64 ((rd_T60 l0_0 x5_1).f0), .int .i64 ((rd_T60 l0_0 x5_1).f1), .slice A493_2 ((rd_T60 l0_0 x5_1).f2).length c493_2]] (by rfl) rfl rfl (by (try simp only [List.map_toArray, List.map_cons, List.map_nil]); first | done | rfl | (simp only [List.length_drop, List.length_take]; rfl)) ?_
            with_reducible refine (exactpplref19_IsBranch.calls ((rd_T60 l0_0 x5_1).f0) ((rd_T60 l0_0 x5_1).f1) _ _ ((rd_T60 l0_0 x5_1).f2) true _ ?side1 ?side2 A11.out).mono ?_
            (case side1 => repeat (first | exact (Kd.C_below HR493_2.out HB.out) | (with_reducible refine Kd.C_alloc ?_ _) | (with_reducible refine Kd.C_drewN ?_ _) | (with_reducible refine Kd.C_drew ?_)))
            (case side2 => exact HC493_2.out)
            rintro e w27 ⟨rfl, hb⟩
            refine ⟨_, rfl, ?_⟩
            replace BK491 := Aside0.mk (blk_below (g := gb491) (o := .cells #[.slice (some ad493) l0_0.length c0_0] 31 (0, 0)) bk_ hb)
            replace BK492 := Aside0.mk (blk_below (g := gb492) (o := .cells #[.slice (some ad496) l1_0.length c1_0] 31 (0, 0)) bk_ hb)
            replace HB := Aside0.mk (below_step bl_ hb)
            (try clear hb)
            (try clear hb2)
            (try clear hk)
            (try clear hi)
            refine hK.out _ _ ⟨(blk_cell BK491.out 0).trans rfl, (blk_cell BK492.out 0).trans rfl, ((HB.out.cell (World.block_lt_of_cell? w _ hw493_0)).trans hw493_0), ((HB.out.cell (World.block_lt_of_cell? w _ hw493_1)).trans hw493_1), ((HB.out.cell (World.block_lt_of_cell? w _ hw493_2)).trans hw493_2), ((HB.out.cell (World.block_lt_of_cell? w _ hw495_0)).trans hw495_0), ((HB.out.cell (World.block_lt_of_cell? w _ hw495_1)).trans hw495_1), ((HB.out.cell (World.block_lt_of_cell? w _ hw495_2)).trans hw495_2), ((HB.out.cell (World.block_lt_of_cell? w _ hw496_0)).trans hw496_0), ((HB.out.cell (World.block_lt_of_cell? w _ hw496_1)).trans hw496_1), ((HB.out.cell (World.block_lt_of_cell? w _ hw496_2)).trans hw496_2)⟩ (fun hHeld => ?_)
            clear hK K
            refine norm_ (a' := ?_) ?_ ?_
            rotate_left
            ·show Act.put _ (some 26) _ = _
             simp only [Act.put, List.setIfInBounds_toArray, List.set_cons_zero, List.set_cons_succ, i64_w, i32_w]
             rfl
            refine pu_ HT_ 6 27 (bm 38 127) ?_
            refine pu_ HT_ 7 28 (bm 38 255) ?_
            refine pu_ HT_ 9 30 (bm 38 767) ?_
            refine pu_ HT_ 13 34 (bm 38 8959) ?_
            refine pu_ HT_ 15 36 (bm 38 41727) ?_
            refine ta_ HT_ HW_ 8 29 (bm 38 41983) hHeld ?_
            refine pu_ HT_ 10 31 (bm 38 43007) ?_
            refine pu_ HT_ 11 32 (bm 38 45055) ?_
            refine ta_ HT_ HW_ 12 33 (bm 38 49151) hHeld ?_
            refine ta_ HT_ HW_ 14 35 (bm 38 65535) hHeld ?_
            refine pu_ HT_ 16 37 (bm 38 131071) ?_
            refine pu_ HT_ 17 38 (bm 38 262143) ?_
            refine ta_ HT_ HW_ 18 39 (bm 38 524287) hHeld ?_
            refine pu_ HT_ 19 40 (bm 38 1048575) ?_
            refine pu_ HT_ 20 41 (bm 38 2097151) ?_
            refine pu_ HT_ 21 42 (bm 38 4194303) ?_
            refine pf_ HT_ 22 43 (bm 38 8388607) ?_
            refine pf_ HT_ 23 44 (bm 38 16777215) ?_
            refine pf_ HT_ 24 45 (bm 38 33554431) ?_
            refine pf_ HT_ 25 46 (bm 38 67108863) ?_
            refine pf_ HT_ 26 47 (bm 38 134217727) ?_
            refine pf_ HT_ 27 48 (bm 38 268435455) ?_
            refine pf_ HT_ 28 49 (bm 38 536870911) ?_
            refine pf_ HT_ 29 50 (bm 38 1073741823) ?_
            refine pf_ HT_ 30 51 (bm 38 2147483647) ?_
            refine pf_ HT_ 31 52 (bm 38 4294967295) ?_
            refine pf_ HT_ 32 53 (bm 38 8589934591) ?_
            refine pf_ HT_ 33 54 (bm 38 17179869183) ?_
            refine pf_ HT_ 34 55 (bm 38 34359738367) ?_
            refine pf_ HT_ 35 56 (bm 38 68719476735) ?_
            refine pf_ HT_ 36 57 (bm 38 137438953471) ?_
            refine pu_ HT_ 37 58 #[true, true, true, true, true, true, true, true, true, true, true, true, true, true, true, true, true, true, true, true, true, true, true, true, true, true, true, true, true, true, true, true, true, true, true, true, true, true] ?_
            refine done_ (done_of HT_.out (by kernel_rfl)) ?_
            try go_wp2
            go_roundg k2
            case measure => have := HK1.out; have := HK2.out; omega
            case rel => exact ⟨(wrap64 (x6_2 + 1)), rs_, H', ⟨by have := HK1.out; have := HK2.out; omega⟩, ⟨bk_⟩, ⟨bk_⟩, ⟨bl_⟩⟩
          ·rw [if_neg c13] at H
           exact absurd H (by simp)
         ·replace c12 := Bool.eq_false_iff.mpr c12
          subst c12
          have H1 : (exactpplref19_Agree.l1 k2 x5_1 (wrap64 (x6_2 + 1)) l0_0 l1_0) = some r := by rw [if_neg (show ¬ (false = true) by decide)] at H; exact H
          clear H
          have H := H1
          clear H1
          have H' := Aside0.mk H
          clear H
          have hnb28 := NB492_491.out
          have hnc28 := NB491_492.out
          obtain ⟨hcz29_0, hfz29_0⟩ := cf1_ BK492.out
          try go_wp2
          replace BK491 := Aside0.mk (blk_drew BK491.out)
          replace BK492 := Aside0.mk (blk_drew BK492.out)
          replace HB := Aside0.mk (below_drew1 HB.out)
          have p493 : 0 ≤ (x5_1 : Int) := dt_
          have q493 : x5_1 < (l0_0.length : Int) := dt_
          obtain ⟨ad493, A493_2, c493_2, e493, hx493_0, hx493_1, hx493_2, hl493_2, hi493_2⟩ := at_T60 HR0_0.out x5_1 p493 q493
          have hw493_2 := hx493_2
          have hw493_1 := hx493_1
          have hw493_0 := hx493_0
          cases e493
          replace hx493_0 := (HB.out.cell (World.block_lt_of_cell? w _ hx493_0)).trans hx493_0
          replace hx493_1 := (HB.out.cell (World.block_lt_of_cell? w _ hx493_1)).trans hx493_1
          replace hx493_2 := (HB.out.cell (World.block_lt_of_cell? w _ hx493_2)).trans hx493_2
          have HR493_2 := Aside0.mk hi493_2
          have HC493_2 := Aside0.mk hl493_2
          clear hi493_2 hl493_2
          replace p493 := eq_true p493
          replace q493 := eq_true q493
          refine start_ (n := 38) (S := fun w' => w'.cell? ⟨gb491, 0, none⟩ = some (.slice (some ad493) l0_0.length c0_0) ∧ w'.cell? (ad493.add ((x5_1).toNat * 3)) = some (.int .i64 ((rd_T60 l0_0 x5_1).f0)) ∧ w'.cell? ⟨(ad493.add ((x5_1).toNat * 3)).block, (ad493.add ((x5_1).toNat * 3)).off + 1, none⟩ = some (.int .i64 ((rd_T60 l0_0 x5_1).f1)) ∧ w'.cell? ⟨(ad493.add ((x5_1).toNat * 3)).block, (ad493.add ((x5_1).toNat * 3)).off + 2, none⟩ = some (.slice A493_2 ((rd_T60 l0_0 x5_1).f2).length c493_2)) (ds := []) #[false, false, false, false, false, false, false, false, false, false, false, false, false, false, false, false, false, false, false, false, false, false, false, false, false, false, false, false, false, false, false, false, false, false, false, false, false, false] (by kernel_rfl) rfl rfl ⟨(blk_cell BK491.out 0).trans rfl, ((HB.out.cell (World.block_lt_of_cell? w _ hw493_0)).trans hw493_0), ((HB.out.cell (World.block_lt_of_cell? w _ hw493_1)).trans hw493_1), ((HB.out.cell (World.block_lt_of_cell? w _ hw493_2)).trans hw493_2)⟩ (fun hHeld => ?_); refine with_tabW exactpplref19_Agree.tab7 exactpplref19_Agree.bits7 (fun HT_ HW_ => ?_)
          generalize wr.drew = w30 at BK491 BK492 HB HR493_2 hx493_0 hx493_1 hx493_2 hHeld ⊢
          refine pu_ HT_ 0 21 (bm 38 1) ?_
          refine pu_ HT_ 2 23 (bm 38 5) ?_
          refine ta_ HT_ HW_ 1 22 (bm 38 7) hHeld ?_
          refine pu_ HT_ 3 24 (bm 38 15) ?_
          refine ta_ HT_ HW_ 4 25 (bm 38 31) hHeld ?_
          refine one_ (i := 5) (N := some 26) #[true, true, true, true, true, true, false, false, false, false, false, false, false, false, false, false, false, false, false, false, false, false, false, false, false, false, false, false, false, false, false, false, false, false, false, false, false, false] rfl rfl (one_of HT_.out (by kernel_rfl)) (by decide) (fun K hK => ?_)
          refine goes_ Tryd.func55 (by kernel_rfl) rfl #[.agg #[.int .i64 ((rd_T60 l0_0 x5_1).f0), .int .i64 ((rd_T60 l0_0 x5_1).f1), .slice A493_2 ((rd_T60 l0_0 x5_1).f2).length c493_2]] (by rfl) rfl rfl (by (try simp only [List.map_toArray, List.map_cons, List.map_nil]); first | done | rfl | (simp only [List.length_drop, List.length_take]; rfl)) ?_
          with_reducible refine (exactpplref19_IsBranch.calls ((rd_T60 l0_0 x5_1).f0) ((rd_T60 l0_0 x5_1).f1) _ _ ((rd_T60 l0_0 x5_1).f2) false _ ?side1 ?side2 A11.out).mono ?_
          (case side1 => repeat (first | exact (Kd.C_below HR493_2.out HB.out) | (with_reducible refine Kd.C_alloc ?_ _) | (with_reducible refine Kd.C_drewN ?_ _) | (with_reducible refine Kd.C_drew ?_)))
          (case side2 => exact HC493_2.out)
          rintro e w31 ⟨rfl, hb⟩
          refine ⟨_, rfl, ?_⟩
          replace BK491 := Aside0.mk (blk_below (g := gb491) (o := .cells #[.slice (some ad493) l0_0.length c0_0] 31 (0, 0)) bk_ hb)
          replace BK492 := Aside0.mk (blk_below (g := gb492) (o := .cells #[.slice A1_0 l1_0.length c1_0] 31 (0, 0)) bk_ hb)
          replace HB := Aside0.mk (below_step bl_ hb)
          (try clear hb)
          (try clear hb2)
          (try clear hk)
          (try clear hi)
          refine hK.out _ _ ⟨(blk_cell BK491.out 0).trans rfl, ((HB.out.cell (World.block_lt_of_cell? w _ hw493_0)).trans hw493_0), ((HB.out.cell (World.block_lt_of_cell? w _ hw493_1)).trans hw493_1), ((HB.out.cell (World.block_lt_of_cell? w _ hw493_2)).trans hw493_2)⟩ (fun hHeld => ?_)
          clear hK K
          refine norm_ (a' := ?_) ?_ ?_
          rotate_left
          ·show Act.put _ (some 26) _ = _
           simp only [Act.put, List.setIfInBounds_toArray, List.set_cons_zero, List.set_cons_succ, i64_w, i32_w]
           rfl
          refine pu_ HT_ 6 27 (bm 38 127) ?_
          refine pf_ HT_ 7 28 (bm 38 255) ?_
          refine pf_ HT_ 8 29 (bm 38 511) ?_
          refine pf_ HT_ 9 30 (bm 38 1023) ?_
          refine pf_ HT_ 10 31 (bm 38 2047) ?_
          refine pf_ HT_ 11 32 (bm 38 4095) ?_
          refine pf_ HT_ 12 33 (bm 38 8191) ?_
          refine pf_ HT_ 13 34 (bm 38 16383) ?_
          refine pf_ HT_ 14 35 (bm 38 32767) ?_
          refine pf_ HT_ 15 36 (bm 38 65535) ?_
          refine pf_ HT_ 16 37 (bm 38 131071) ?_
          refine pf_ HT_ 17 38 (bm 38 262143) ?_
          refine pf_ HT_ 18 39 (bm 38 524287) ?_
          refine pf_ HT_ 19 40 (bm 38 1048575) ?_
          refine pu_ HT_ 20 41 (bm 38 2097151) ?_
          refine pu_ HT_ 21 42 (bm 38 4194303) ?_
          refine pf_ HT_ 22 43 (bm 38 8388607) ?_
          refine pf_ HT_ 23 44 (bm 38 16777215) ?_
          refine pf_ HT_ 24 45 (bm 38 33554431) ?_
          refine pf_ HT_ 25 46 (bm 38 67108863) ?_
          refine pf_ HT_ 26 47 (bm 38 134217727) ?_
          refine pf_ HT_ 27 48 (bm 38 268435455) ?_
          refine pf_ HT_ 28 49 (bm 38 536870911) ?_
          refine pf_ HT_ 29 50 (bm 38 1073741823) ?_
          refine pf_ HT_ 30 51 (bm 38 2147483647) ?_
          refine pf_ HT_ 31 52 (bm 38 4294967295) ?_
          refine pf_ HT_ 32 53 (bm 38 8589934591) ?_
          refine pf_ HT_ 33 54 (bm 38 17179869183) ?_
          refine pf_ HT_ 34 55 (bm 38 34359738367) ?_
          refine pf_ HT_ 35 56 (bm 38 68719476735) ?_
          refine pf_ HT_ 36 57 (bm 38 137438953471) ?_
          refine pu_ HT_ 37 58 #[true, true, true, true, true, true, true, true, true, true, true, true, true, true, true, true, true, true, true, true, true, true, true, true, true, true, true, true, true, true, true, true, true, true, true, true, true, true] ?_
          refine done_ (done_of HT_.out (by kernel_rfl)) ?_
          try go_wp2
          go_roundg k2
          case measure => have := HK1.out; have := HK2.out; omega
          case rel => exact ⟨(wrap64 (x6_2 + 1)), rs_, H', ⟨by have := HK1.out; have := HK2.out; omega⟩, ⟨bk_⟩, ⟨bk_⟩, ⟨bl_⟩⟩
        ·rw [if_neg c10] at H
         exact absurd H (by simp)
       ·rw [if_neg c9] at H
        exact absurd H (by simp)
      ·rw [if_neg c8] at H
       have c8b0 : decide (x6_2 < (l1_0.length : Int)) = false := decide_eq_false c8
       clear c8
       have H' := Aside0.mk H
       clear H
       have hnb32 := NB492_491.out
       have hnc32 := NB491_492.out
       obtain ⟨hcz33_0, hfz33_0⟩ := cf1_ BK492.out
       go_wp2
       go_roundg k2
       case measure => have := HK1.out; have := HK2.out; omega
       case rel => exact ⟨(wrap64 (x5_1 + 1)), rs_, H', ⟨by have := HK1.out; have := HK2.out; omega⟩, ⟨bk_⟩, ⟨bk_⟩, ⟨bl_⟩⟩
   ·rw [if_neg c5] at H
    have c5b0 : decide (x5_1 < (l0_0.length : Int)) = false := decide_eq_false c5
    clear c5
    obtain rfl := Option.some.inj H
    have hnb34 := NB491_492.out
    have hnc34 := NB492_491.out
    obtain ⟨hcz35_0, hfz35_0⟩ := cf1_ BK491.out
    go_wp2
    go_ret
    exact ⟨re_, bl_⟩

end Go.Proofs.YtopbjginpmdebaaDoor.K
namespace Go.Proofs.YtopbjginpmdebaaDoor.K
open Go.RowKit Go.Proofs.YtopbjginpmdebaaDoorW.PrintWords Go.Proofs.YtopbjginpmdebaaDoorW.PrintLast Go.Proofs.YtopbjginpmdebaaDoorW.PrintMore
attribute [local go_sem] max2_int min2_int max_two min_two max_three min_three max_four min_four   -- for this text's walks alone
set_option linter.unusedVariables false
set_option linter.unusedSimpArgs false

/-! ### exactpplref19_Branch: function 35 -/
mutual
def exactpplref19_Branch.j0 : Nat → Int → List (S31) → Bool → Option ((List (S60)) × Int)
 | 0, _, _, _ => none
 | k + 1, x0, x1, x27 => if x27 = true then (some (([] : List (S60)), 1)) else (exactpplref19_Branch.l0 k x0 x1 0)
def exactpplref19_Branch.l0 : Nat → Int → List (S31) → Int → Option ((List (S60)) × Int)
 | 0, _, _, _ => none
 | k + 1, x0, x1, x6 => if x6 < (x1.length : Int) then (if 0 ≤ x6 then ((exactpplref19_Validate.f k ((rd_T31 x1 x6).f0)).bind fun t501 => (if t501 = 0 then (exactpplref19_Branch.l0 k x0 x1 (wrap64 (x6 + 1))) else (some (([] : List (S60)), t501)))) else (none)) else (exactpplref19_Branch.l1 k x0 x1 0)
def exactpplref19_Branch.l1 : Nat → Int → List (S31) → Int → Option ((List (S60)) × Int)
 | 0, _, _, _ => none
 | k + 1, x0, x1, x8 => if x8 < (x1.length : Int) then (exactpplref19_Branch.l2 k x0 x1 x8 0) else ((exactpplref19_Join.f x0 x1).bind fun t502 => ((exactpplref19_Fit.f t502).bind fun bt505 => (some (bt505.1, bt505.2))))
def exactpplref19_Branch.l2 : Nat → Int → List (S31) → Int → Int → Option ((List (S60)) × Int)
 | 0, _, _, _, _ => none
 | k + 1, x0, x1, x8, x9 => if 0 ≤ x8 then (if x8 < (x1.length : Int) then (if x9 < (((rd_T31 x1 x8).f0).length : Int) then (if 0 ≤ x9 then ((exactpplref19_IsBranch.f ((rd_T60 ((rd_T31 x1 x8).f0) x9).f0) ((rd_T60 ((rd_T31 x1 x8).f0) x9).f1) ((rd_T60 ((rd_T31 x1 x8).f0) x9).f2)).bind fun t513 => (if t513 = true then (if ((rd_T60 ((rd_T31 x1 x8).f0) x9).f0) ≤ x0 then (some (([] : List (S60)), 2)) else (exactpplref19_Branch.l2 k x0 x1 x8 (wrap64 (x9 + 1)))) else (exactpplref19_Branch.l2 k x0 x1 x8 (wrap64 (x9 + 1))))) else (none)) else (exactpplref19_Branch.l3 k x0 x1 x8 0)) else (none)) else (none)
def exactpplref19_Branch.l3 : Nat → Int → List (S31) → Int → Int → Option ((List (S60)) × Int)
 | 0, _, _, _, _ => none
 | k + 1, x0, x1, x8, x11 => if x11 < x8 then (if 0 ≤ x8 then (if x8 < (x1.length : Int) then (if 0 ≤ x11 then (if x11 < (x1.length : Int) then ((exactpplref19_Agree.f k ((rd_T31 x1 x8).f0) ((rd_T31 x1 x11).f0)).bind fun t516 => (if t516 = true then (exactpplref19_Branch.l3 k x0 x1 x8 (wrap64 (x11 + 1))) else (some (([] : List (S60)), 2)))) else (none)) else (none)) else (none)) else (none)) else (exactpplref19_Branch.l1 k x0 x1 (wrap64 (x8 + 1)))
end
def exactpplref19_Branch.f (k : Nat) (a0 : Int) (l1 : List (S31)) : Option ((List (S60)) × Int) := if a0 < 0 then (exactpplref19_Branch.j0 k a0 l1 true) else (if a0 ≥ 64 then (exactpplref19_Branch.j0 k a0 l1 true) else (if (l1.length : Int) < 1 then (exactpplref19_Branch.j0 k a0 l1 true) else (exactpplref19_Branch.j0 k a0 l1 (decide ((l1.length : Int) > 16)))))
theorem exactpplref19_Branch.mono_l : ∀ k, (∀ y0 y1 y2, LeO (exactpplref19_Branch.j0 k y0 y1 y2) (exactpplref19_Branch.j0 (k + 1) y0 y1 y2)) ∧ (∀ y0 y1 y2, LeO (exactpplref19_Branch.l0 k y0 y1 y2) (exactpplref19_Branch.l0 (k + 1) y0 y1 y2)) ∧ (∀ y0 y1 y2, LeO (exactpplref19_Branch.l1 k y0 y1 y2) (exactpplref19_Branch.l1 (k + 1) y0 y1 y2)) ∧ (∀ y0 y1 y2 y3, LeO (exactpplref19_Branch.l2 k y0 y1 y2 y3) (exactpplref19_Branch.l2 (k + 1) y0 y1 y2 y3)) ∧ (∀ y0 y1 y2 y3, LeO (exactpplref19_Branch.l3 k y0 y1 y2 y3) (exactpplref19_Branch.l3 (k + 1) y0 y1 y2 y3))
 | 0 => ⟨fun _ _ _ r h => by simp [exactpplref19_Branch.j0] at h, fun _ _ _ r h => by simp [exactpplref19_Branch.l0] at h, fun _ _ _ r h => by simp [exactpplref19_Branch.l1] at h, fun _ _ _ _ r h => by simp [exactpplref19_Branch.l2] at h, fun _ _ _ _ r h => by simp [exactpplref19_Branch.l3] at h⟩
 | k + 1 => by
  obtain ⟨ih0, ih1, ih2, ih3, ih4⟩ := exactpplref19_Branch.mono_l k
  refine ⟨?_, ?_, ?_, ?_, ?_⟩
  ·intro y0 y1 y2
   unfold exactpplref19_Branch.j0
   repeat' first
   | (with_reducible exact ih0 _ _ _)
   | (with_reducible exact ih1 _ _ _)
   | (with_reducible exact ih2 _ _ _)
   | (with_reducible exact ih3 _ _ _ _)
   | (with_reducible exact ih4 _ _ _ _)
   | (with_reducible exact exactpplref19_Agree.mono _ _ _)
   | (with_reducible exact exactpplref19_Validate.mono _ _)
   | (with_reducible exact LeO.refl _)
   | (with_reducible exact LeO.none _)
   | (with_reducible refine LeO.ite ?_ ?_)
   | (with_reducible refine LeO.bind ?_ (fun _ => ?_))
   | exact ih0 _ _ _
   | exact ih1 _ _ _
   | exact ih2 _ _ _
   | exact ih3 _ _ _ _
   | exact ih4 _ _ _ _
   | exact exactpplref19_Agree.mono _ _ _
   | exact exactpplref19_Validate.mono _ _
   | exact LeO.none _
   | refine LeO.ite ?_ ?_
   | refine LeO.bind ?_ (fun _ => ?_)
  ·intro y0 y1 y2
   unfold exactpplref19_Branch.l0
   repeat' first
   | (with_reducible exact ih0 _ _ _)
   | (with_reducible exact ih1 _ _ _)
   | (with_reducible exact ih2 _ _ _)
   | (with_reducible exact ih3 _ _ _ _)
   | (with_reducible exact ih4 _ _ _ _)
   | (with_reducible exact exactpplref19_Agree.mono _ _ _)
   | (with_reducible exact exactpplref19_Validate.mono _ _)
   | (with_reducible exact LeO.refl _)
   | (with_reducible exact LeO.none _)
   | (with_reducible refine LeO.ite ?_ ?_)
   | (with_reducible refine LeO.bind ?_ (fun _ => ?_))
   | exact ih0 _ _ _
   | exact ih1 _ _ _
   | exact ih2 _ _ _
   | exact ih3 _ _ _ _
   | exact ih4 _ _ _ _
   | exact exactpplref19_Agree.mono _ _ _
   | exact exactpplref19_Validate.mono _ _
   | exact LeO.none _
   | refine LeO.ite ?_ ?_
   | refine LeO.bind ?_ (fun _ => ?_)
  ·intro y0 y1 y2
   unfold exactpplref19_Branch.l1
   repeat' first
   | (with_reducible exact ih0 _ _ _)
   | (with_reducible exact ih1 _ _ _)
   | (with_reducible exact ih2 _ _ _)
   | (with_reducible exact ih3 _ _ _ _)
   | (with_reducible exact ih4 _ _ _ _)
   | (with_reducible exact exactpplref19_Agree.mono _ _ _)
   | (with_reducible exact exactpplref19_Validate.mono _ _)
   | (with_reducible exact LeO.refl _)
   | (with_reducible exact LeO.none _)
   | (with_reducible refine LeO.ite ?_ ?_)
   | (with_reducible refine LeO.bind ?_ (fun _ => ?_))
   | exact ih0 _ _ _
   | exact ih1 _ _ _
   | exact ih2 _ _ _
   | exact ih3 _ _ _ _
   | exact ih4 _ _ _ _
   | exact exactpplref19_Agree.mono _ _ _
   | exact exactpplref19_Validate.mono _ _
   | exact LeO.none _
   | refine LeO.ite ?_ ?_
   | refine LeO.bind ?_ (fun _ => ?_)
  ·intro y0 y1 y2 y3
   unfold exactpplref19_Branch.l2
   repeat' first
   | (with_reducible exact ih0 _ _ _)
   | (with_reducible exact ih1 _ _ _)
   | (with_reducible exact ih2 _ _ _)
   | (with_reducible exact ih3 _ _ _ _)
   | (with_reducible exact ih4 _ _ _ _)
   | (with_reducible exact exactpplref19_Agree.mono _ _ _)
   | (with_reducible exact exactpplref19_Validate.mono _ _)
   | (with_reducible exact LeO.refl _)
   | (with_reducible exact LeO.none _)
   | (with_reducible refine LeO.ite ?_ ?_)
   | (with_reducible refine LeO.bind ?_ (fun _ => ?_))
   | exact ih0 _ _ _
   | exact ih1 _ _ _
   | exact ih2 _ _ _
   | exact ih3 _ _ _ _
   | exact ih4 _ _ _ _
   | exact exactpplref19_Agree.mono _ _ _
   | exact exactpplref19_Validate.mono _ _
   | exact LeO.none _
   | refine LeO.ite ?_ ?_
   | refine LeO.bind ?_ (fun _ => ?_)
  ·intro y0 y1 y2 y3
   unfold exactpplref19_Branch.l3
   repeat' first
   | (with_reducible exact ih0 _ _ _)
   | (with_reducible exact ih1 _ _ _)
   | (with_reducible exact ih2 _ _ _)
   | (with_reducible exact ih3 _ _ _ _)
   | (with_reducible exact ih4 _ _ _ _)
   | (with_reducible exact exactpplref19_Agree.mono _ _ _)
   | (with_reducible exact exactpplref19_Validate.mono _ _)
   | (with_reducible exact LeO.refl _)
   | (with_reducible exact LeO.none _)
   | (with_reducible refine LeO.ite ?_ ?_)
   | (with_reducible refine LeO.bind ?_ (fun _ => ?_))
   | exact ih0 _ _ _
   | exact ih1 _ _ _
   | exact ih2 _ _ _
   | exact ih3 _ _ _ _
   | exact ih4 _ _ _ _
   | exact exactpplref19_Agree.mono _ _ _
   | exact exactpplref19_Validate.mono _ _
   | exact LeO.none _
   | refine LeO.ite ?_ ?_
   | refine LeO.bind ?_ (fun _ => ?_)
theorem exactpplref19_Branch.mono : ∀ a0 a1 k, LeO (exactpplref19_Branch.f k a0 a1) (exactpplref19_Branch.f (k + 1) a0 a1) := by
 intro a0 a1 k
 obtain ⟨ih0, ih1, ih2, ih3, ih4⟩ := exactpplref19_Branch.mono_l k
 unfold exactpplref19_Branch.f
 repeat' first
   | (with_reducible exact ih0 _ _ _)
   | (with_reducible exact ih1 _ _ _)
   | (with_reducible exact ih2 _ _ _)
   | (with_reducible exact ih3 _ _ _ _)
   | (with_reducible exact ih4 _ _ _ _)
   | (with_reducible exact exactpplref19_Agree.mono _ _ _)
   | (with_reducible exact exactpplref19_Validate.mono _ _)
   | (with_reducible exact LeO.refl _)
   | (with_reducible exact LeO.none _)
   | (with_reducible refine LeO.ite ?_ ?_)
   | (with_reducible refine LeO.bind ?_ (fun _ => ?_))
   | exact ih0 _ _ _
   | exact ih1 _ _ _
   | exact ih2 _ _ _
   | exact ih3 _ _ _ _
   | exact ih4 _ _ _ _
   | exact exactpplref19_Agree.mono _ _ _
   | exact exactpplref19_Validate.mono _ _
   | exact LeO.none _
   | refine LeO.ite ?_ ?_
   | refine LeO.bind ?_ (fun _ => ?_)
def exactpplref19_Branch.T21 : Bool × List (List Nat × List Nat) := (true, [([], []), ([], []), ([0, 1], [0, 1]), ([2], [2]), ([], []), ([], []), ([4, 5], [4, 5]), ([6], [6]), ([3, 7], [3, 7]), ([8], [8])])
def exactpplref19_Branch.B21 : List Nat := [0, 0, 3, 7, 0, 0, 48, 112, 255, 511]
theorem exactpplref19_Branch.tab21 : rtab .any (opsOf Tryd.f35 21) = exactpplref19_Branch.T21 := by kernel_rfl
theorem exactpplref19_Branch.bits21 : waitsOk exactpplref19_Branch.T21.2 exactpplref19_Branch.B21 = true := by kernel_rfl
set_option maxHeartbeats 8000000 in
set_option maxRecDepth 100000 in
theorem exactpplref19_Branch.calls (k : Nat) (a0 : Int) (A1 : Option Addr) (c1 : Nat) (l1 : List (S31)) (r1 : List (S60)) (r2 : Int) (w : World) (hr1 : Kd.C k31 w A1 l1.length l1) (hc1 : l1.length ≤ c1) (h : exactpplref19_Branch.f k a0 l1 = some (r1, r2)) :
  Calls Tryd.prog 35 #[.int .i64 a0, .slice A1 l1.length c1] w fun e w' => ∃ v0_ : Value, e = .returned (.tuple #[.agg #[v0_], .int .i64 r2]) ∧ Kd.V k60 60 w' w.heap.size (fun k_ => (w.heap.size ≤ k_)) v0_ r1 ∧ Below w.heap.size w w' := by
 have hu31 := Tryd.underlying31
 have hu60 := Tryd.underlying60
 have HR1 := Aside0.mk hr1
 have HC1 := Aside0.mk hc1
 clear hr1 hc1
 have HB := Aside0.mk (Below.refl w.heap.size w)
 have H : (if a0 < 0 then (exactpplref19_Branch.j0 k a0 l1 true) else (if a0 ≥ 64 then (exactpplref19_Branch.j0 k a0 l1 true) else (if (l1.length : Int) < 1 then (exactpplref19_Branch.j0 k a0 l1 true) else (exactpplref19_Branch.j0 k a0 l1 (decide ((l1.length : Int) > 16)))))) = some (r1, r2) := h
 clear h
 have HC3 := Aside0.mk H
 clear H
 go_enter Tryd.func35, Tryd.ntmps35
 go_upto_region 1 with (first | ((with_reducible refine gate_dst (N := 4) rfl ?_); (try (refine gate_guard (by rfl) ?_; dsimp only)); refine box_event ?hg (N := 4) ?hd (cs := #[.slice none 0 0]) (t := 31) ?hr ?_; (case hd => rfl); (case hg => rfl); (case hr => first | (go_simp; done) | (go_simp; rfl)); intro gb499 hg w4 hbox hb; have BK499 := Aside0.mk (hbox); have GW499 : Aside0 (w.heap.size ≤ gb499) := gw_ hg (below_size bl_); have GE499 := GW499; replace HB := Aside0.mk (below_step bl_ hb); clear hb hbox hg))
 (try simp only [Act.put, List.setIfInBounds_toArray, List.set_cons_zero, List.set_cons_succ])
 go_cut [27] (fun v27 wc => ∃ (kq : Nat) (x27_2 : Bool), v27 = .bool x27_2 ∧ Aside0 (exactpplref19_Branch.j0 kq a0 l1 x27_2 = some (r1, r2)) ∧ Aside0 (kq ≤ k) ∧ Aside0 (wc.heap[gb499]? = some (.cells #[(.slice none 0 0)] 31 (0, 0))) ∧ Aside0 (Below w.heap.size w wc))
 case first =>
  have H := HC3.out
  clear HC3
  by_cases c5 : a0 < 0
  ·rw [if_pos c5] at H
   have c5b0 : decide (a0 < 0) = true := decide_eq_true c5
   clear c5
   (first | rw [c5b0] | (simp only [i64_w, i32_w]; rw [c5b0]) | skip)
   have H' := Aside0.mk H
   clear H
   go_wp2
   go_meet
   case rel => exact ⟨_, (true), rs_, H', ⟨by first | omega | exact Nat.le_refl _⟩, ⟨bk_⟩, ⟨bl_⟩⟩
  ·rw [if_neg c5] at H
   have c5b0 : decide (a0 < 0) = false := decide_eq_false c5
   clear c5
   (first | rw [c5b0] | (simp only [i64_w, i32_w]; rw [c5b0]) | skip)
   by_cases c6 : a0 ≥ 64
   ·rw [if_pos c6] at H
    have c6b0 : decide (64 ≤ a0) = true := decide_eq_true c6
    clear c6
    have H' := Aside0.mk H
    clear H
    go_wp2
    go_meet
    case rel => exact ⟨_, (true), rs_, H', ⟨by first | omega | exact Nat.le_refl _⟩, ⟨bk_⟩, ⟨bl_⟩⟩
   ·rw [if_neg c6] at H
    have c6b0 : decide (64 ≤ a0) = false := decide_eq_false c6
    clear c6
    by_cases c7 : (l1.length : Int) < 1
    ·rw [if_pos c7] at H
     have c7b0 : decide ((l1.length : Int) < 1) = true := decide_eq_true c7
     have c7b1 : decide (l1.length < 1) = true := decide_eq_true (by omega)
     clear c7
     have H' := Aside0.mk H
     clear H
     go_wp2
     go_meet
     case rel => exact ⟨_, (true), rs_, H', ⟨by first | omega | exact Nat.le_refl _⟩, ⟨bk_⟩, ⟨bl_⟩⟩
    ·rw [if_neg c7] at H
     have c7b0 : decide ((l1.length : Int) < 1) = false := decide_eq_false c7
     have c7b1 : decide (l1.length < 1) = false := decide_eq_false (by omega)
     clear c7
     have H' := Aside0.mk H
     clear H
     go_wp2
     go_meet
     case rel => exact ⟨_, (decide ((l1.length : Int) > 16)), rs_, H', ⟨by first | omega | exact Nat.le_refl _⟩, ⟨bk_⟩, ⟨bl_⟩⟩
 case rest =>
  clear HC3
  try clear c1
  try clear p2
  try clear c3
  try clear c5
  try clear c5b0
  try clear c6
  try clear c6b0
  try clear c7
  try clear c7b0
  try clear c7b1
  obtain ⟨kq, x27_2, rfl, HA, HJ2, BK499, HB⟩ := hcut
  cases kq with
  | zero => exact absurd HA.out (by simp [exactpplref19_Branch.j0])
  | succ kj2 =>
   have H := HA.out
   clear HA
   simp only [exactpplref19_Branch.j0] at H
   by_cases c8 : x27_2 = true
   ·subst c8
    have H1 : (some (([] : List (S60)), 1)) = some (r1, r2) := by rw [if_pos rfl] at H; exact H
    clear H
    have H := H1
    clear H1
    simp only [Option.some.injEq, Prod.mk.injEq] at H
    obtain ⟨rfl, rfl⟩ := H
    obtain ⟨hcz9_0, hfz9_0⟩ := cf1_ BK499.out
    go_wp2
    refine bodyPost_ret (results_ct rfl _ _ gb499 31 #[.slice none 0 0] (0, 0) _ rfl (by (with_reducible repeat (first | refine blk_drewN ?_ _ | refine blk_drew ?_ | refine blk_alloc ?_ _)); refine blk_put (cs := #[.slice none 0 0]) ?_ 0 _ rfl; (with_reducible repeat (first | refine blk_drewN ?_ _ | refine blk_drew ?_ | refine blk_alloc ?_ _)); exact BK499.out) Tryd.underlying31 rfl (by kernel_rfl)) rfl ?_
    exact ⟨_, re_, Kd.V_nil _ _ _ _ _, bl_⟩
   ·replace c8 := Bool.eq_false_iff.mpr c8
    subst c8
    have H1 : (exactpplref19_Branch.l0 kj2 a0 l1 0) = some (r1, r2) := by rw [if_neg (show ¬ (false = true) by decide)] at H; exact H
    clear H
    have H := H1
    clear H1
    have H' := Aside0.mk H
    clear H
    go_wp2
    go_loopg [6] kj2 (fun kq v6 w' => ∃ (x6_2 : Int), v6 = .int .i64 x6_2 ∧ Aside0 (exactpplref19_Branch.l0 kq a0 l1 x6_2 = some (r1, r2)) ∧ Aside0 (kq ≤ kj2) ∧ Aside0 (w'.heap[gb499]? = some (.cells #[(.slice none 0 0)] 31 (0, 0))) ∧ Aside0 (Below w.heap.size w w'))
    case atStart => exact ⟨(0), rs_, H', ⟨Nat.le_refl _⟩, ⟨bk_⟩, ⟨bl_⟩⟩
    case round =>
     clear H'
     try clear c1
     try clear p2
     try clear c3
     try clear c5
     try clear c5b0
     try clear c6
     try clear c6b0
     try clear c7
     try clear c7b0
     try clear c7b1
     try clear c8
     try clear hcz9_0 hfz9_0
     try clear p2
     obtain ⟨x6_2, rfl, HA, HK2, BK499, HB⟩ := hrel
     cases gk with
     | zero => exact absurd HA.out (by simp [exactpplref19_Branch.l0])
     | succ k2 =>
      have H := HA.out
      clear HA
      simp only [exactpplref19_Branch.l0] at H
      by_cases c10 : x6_2 < (l1.length : Int)
      ·rw [if_pos c10] at H
       have c10b0 : decide (x6_2 < (l1.length : Int)) = true := decide_eq_true c10
       clear c10
       by_cases c11 : 0 ≤ x6_2
       ·rw [if_pos c11] at H
        have c11b0 : decide (0 ≤ x6_2) = true := decide_eq_true c11
        clear c11
        replace H := Option.bind_eq_some_iff.mp H
        obtain ⟨t501, A120, H⟩ := H
        replace H : (if t501 = 0 then (exactpplref19_Branch.l0 k2 a0 l1 (wrap64 (x6_2 + 1))) else (some (([] : List (S60)), t501))) = some (r1, r2) := H
        have A12 := Aside0.mk A120
        clear A120
        by_cases c13 : t501 = 0
        ·rw [if_pos c13] at H
         have c13b0 : (t501 == 0) = true := beq_iff_eq.mpr c13
         have c13b1 : (t501 != 0) = false := bne_eq_false_iff_eq.mpr c13
         clear c13
         have H' := Aside0.mk H
         clear H
         have p500 : 0 ≤ (x6_2 : Int) := dt_
         have q500 : x6_2 < (l1.length : Int) := dt_
         obtain ⟨ad500, A500_0, c500_0, e500, hx500_0, hl500_0, hi500_0⟩ := at_T31 HR1.out x6_2 p500 q500
         cases e500
         replace hx500_0 := (HB.out.cell (World.block_lt_of_cell? w _ hx500_0)).trans hx500_0
         have HR500_0 := Aside0.mk hi500_0
         have HC500_0 := Aside0.mk hl500_0
         clear hi500_0 hl500_0
         replace p500 := eq_true p500
         replace q500 := eq_true q500
         go_wp2_with (first | ((with_reducible refine gate_callee (f := 44) rfl ?_); refine goesL_ (some 39) rfl rfl Tryd.func44 (by kernel_rfl) rfl #[.agg #[.slice A500_0 ((rd_T31 l1 x6_2).f0).length c500_0]] rfl (by (try simp only [List.map_toArray, List.map_cons, List.map_nil]); first | done | rfl | (simp only [List.length_drop, List.length_take]; rfl)) ?_; (with_reducible refine (exactpplref19_Validate.calls k2 _ _ ((rd_T31 l1 x6_2).f0) t501 _ ?side1 ?side2 A12.out).mono ?_); (case side1 => repeat (first | exact (Kd.C_below HR500_0.out HB.out) | (with_reducible refine Kd.C_alloc ?_ _) | (with_reducible refine Kd.C_drewN ?_ _) | (with_reducible refine Kd.C_drew ?_))); (case side2 => exact HC500_0.out); rintro e w14 ⟨rfl, hb⟩; refine ⟨_, rfl, ?_⟩; replace BK499 := Aside0.mk (blk_below (g := gb499) (o := .cells #[.slice none 0 0] 31 (0, 0)) bk_ hb); replace HB := Aside0.mk (below_step bl_ hb); (try clear hb); (try clear hb2); (try clear hk); (try clear hi)))
         go_roundg k2
         case measure => have := HJ2.out; have := HK2.out; omega
         case rel => exact ⟨(wrap64 (x6_2 + 1)), rs_, H', ⟨by have := HJ2.out; have := HK2.out; omega⟩, ⟨bk_⟩, ⟨bl_⟩⟩
        ·rw [if_neg c13] at H
         have c13b0 : (t501 == 0) = false := beq_eq_false_iff_ne.mpr c13
         have c13b1 : (t501 != 0) = true := bne_iff_ne.mpr c13
         simp only [Option.some.injEq, Prod.mk.injEq] at H
         obtain ⟨rfl, rfl⟩ := H
         have p500 : 0 ≤ (x6_2 : Int) := dt_
         have q500 : x6_2 < (l1.length : Int) := dt_
         obtain ⟨ad500, A500_0, c500_0, e500, hx500_0, hl500_0, hi500_0⟩ := at_T31 HR1.out x6_2 p500 q500
         cases e500
         replace hx500_0 := (HB.out.cell (World.block_lt_of_cell? w _ hx500_0)).trans hx500_0
         have HR500_0 := Aside0.mk hi500_0
         have HC500_0 := Aside0.mk hl500_0
         clear hi500_0 hl500_0
         replace p500 := eq_true p500
         replace q500 := eq_true q500
         go_wp2_with (first | ((with_reducible refine gate_callee (f := 44) rfl ?_); refine goesL_ (some 39) rfl rfl Tryd.func44 (by kernel_rfl) rfl #[.agg #[.slice A500_0 ((rd_T31 l1 x6_2).f0).length c500_0]] rfl (by (try simp only [List.map_toArray, List.map_cons, List.map_nil]); first | done | rfl | (simp only [List.length_drop, List.length_take]; rfl)) ?_; (with_reducible refine (exactpplref19_Validate.calls k2 _ _ ((rd_T31 l1 x6_2).f0) t501 _ ?side1 ?side2 A12.out).mono ?_); (case side1 => repeat (first | exact (Kd.C_below HR500_0.out HB.out) | (with_reducible refine Kd.C_alloc ?_ _) | (with_reducible refine Kd.C_drewN ?_ _) | (with_reducible refine Kd.C_drew ?_))); (case side2 => exact HC500_0.out); rintro e w15 ⟨rfl, hb⟩; refine ⟨_, rfl, ?_⟩; replace BK499 := Aside0.mk (blk_below (g := gb499) (o := .cells #[.slice none 0 0] 31 (0, 0)) bk_ hb); replace HB := Aside0.mk (below_step bl_ hb); (try clear hb); (try clear hb2); (try clear hk); (try clear hi); obtain ⟨hcz16_0, hfz16_0⟩ := cf1_ BK499.out))
         refine bodyPost_ret (results_ct rfl _ _ gb499 31 #[.slice none 0 0] (0, 0) _ rfl (by (with_reducible repeat (first | refine blk_drewN ?_ _ | refine blk_drew ?_ | refine blk_alloc ?_ _)); refine blk_put (cs := #[.slice none 0 0]) ?_ 0 _ rfl; (with_reducible repeat (first | refine blk_drewN ?_ _ | refine blk_drew ?_ | refine blk_alloc ?_ _)); exact BK499.out) Tryd.underlying31 rfl (by kernel_rfl)) rfl ?_
         exact ⟨_, re_, Kd.V_nil _ _ _ _ _, bl_⟩
       ·rw [if_neg c11] at H
        exact absurd H (by simp)
      ·rw [if_neg c10] at H
       have c10b0 : decide (x6_2 < (l1.length : Int)) = false := decide_eq_false c10
       clear c10
       have H' := Aside0.mk H
       clear H
       go_wp2
       go_loopg [8] k2 (fun kq v8 w' => ∃ (x8_3 : Int), v8 = .int .i64 x8_3 ∧ Aside0 (exactpplref19_Branch.l1 kq a0 l1 x8_3 = some (r1, r2)) ∧ Aside0 (kq ≤ k2) ∧ Aside0 (w'.heap[gb499]? = some (.cells #[(.slice none 0 0)] 31 (0, 0))) ∧ Aside0 (Below w.heap.size w w'))
       case atStart => exact ⟨(0), rs_, H', ⟨Nat.le_refl _⟩, ⟨bk_⟩, ⟨bl_⟩⟩
       case round =>
        clear H'
        try clear c1
        try clear p2
        try clear c3
        try clear c4
        try clear c5
        try clear c5b0
        try clear p5
        try clear q5
        try clear hx5
        try clear c6
        try clear c6b0
        try clear p6
        try clear c7
        try clear c7b0
        try clear c7b1
        try clear c8
        try clear c10
        try clear c10b0
        try clear c11
        try clear c11b0
        try clear c13
        try clear c13b0
        try clear c13b1
        try clear hcz16_0 hfz16_0
        try clear hcz9_0 hfz9_0
        try clear hx500_0
        try clear p2
        try clear p500
        try clear q500
        obtain ⟨x8_3, rfl, HA, HK3, BK499, HB⟩ := hrel
        cases gk with
        | zero => exact absurd HA.out (by simp [exactpplref19_Branch.l1])
        | succ k3 =>
         have H := HA.out
         clear HA
         simp only [exactpplref19_Branch.l1] at H
         by_cases c17 : x8_3 < (l1.length : Int)
         ·rw [if_pos c17] at H
          have c17b0 : decide (x8_3 < (l1.length : Int)) = true := decide_eq_true c17
          clear c17
          have H' := Aside0.mk H
          clear H
          go_wp2
          go_loopg [9] k3 (fun kq v9 w' => ∃ (x9_4 : Int), v9 = .int .i64 x9_4 ∧ Aside0 (exactpplref19_Branch.l2 kq a0 l1 x8_3 x9_4 = some (r1, r2)) ∧ Aside0 (kq ≤ k3) ∧ Aside0 (w'.heap[gb499]? = some (.cells #[(.slice none 0 0)] 31 (0, 0))) ∧ Aside0 (Below w.heap.size w w'))
          case atStart => exact ⟨(0), rs_, H', ⟨Nat.le_refl _⟩, ⟨bk_⟩, ⟨bl_⟩⟩
          case round =>
           clear H'
           try clear c1
           try clear p2
           try clear c3
           try clear c4
           try clear c5
           try clear c5b0
           try clear p5
           try clear q5
           try clear hx5
           try clear c6
           try clear c6b0
           try clear p6
           try clear c7
           try clear c7b0
           try clear c7b1
           try clear c8
           try clear c10
           try clear c10b0
           try clear c11
           try clear c11b0
           try clear c13
           try clear c13b0
           try clear c13b1
           try clear c17
           try clear c17b0
           try clear hcz16_0 hfz16_0
           try clear hcz9_0 hfz9_0
           try clear hx500_0
           try clear p2
           try clear p5
           try clear p500
           try clear p6
           try clear q5
           try clear q500
           obtain ⟨x9_4, rfl, HA, HK4, BK499, HB⟩ := hrel
           cases gk with
           | zero => exact absurd HA.out (by simp [exactpplref19_Branch.l2])
           | succ k4 =>
            have H := HA.out
            clear HA
            simp only [exactpplref19_Branch.l2] at H
            by_cases c18 : 0 ≤ x8_3
            ·rw [if_pos c18] at H
             have c18b0 : decide (0 ≤ x8_3) = true := decide_eq_true c18
             clear c18
             by_cases c19 : x8_3 < (l1.length : Int)
             ·rw [if_pos c19] at H
              have c19b0 : decide (x8_3 < (l1.length : Int)) = true := decide_eq_true c19
              clear c19
              by_cases c20 : x9_4 < (((rd_T31 l1 x8_3).f0).length : Int)
              ·rw [if_pos c20] at H
               have c20b0 : decide (x9_4 < (((rd_T31 l1 x8_3).f0).length : Int)) = true := decide_eq_true c20
               clear c20
               by_cases c21 : 0 ≤ x9_4
               ·rw [if_pos c21] at H
                have c21b0 : decide (0 ≤ x9_4) = true := decide_eq_true c21
                clear c21
                replace H := Option.bind_eq_some_iff.mp H
                obtain ⟨t513, A220, H⟩ := H
                replace H : (if t513 = true then (if ((rd_T60 ((rd_T31 l1 x8_3).f0) x9_4).f0) ≤ a0 then (some (([] : List (S60)), 2)) else (exactpplref19_Branch.l2 k4 a0 l1 x8_3 (wrap64 (x9_4 + 1)))) else (exactpplref19_Branch.l2 k4 a0 l1 x8_3 (wrap64 (x9_4 + 1)))) = some (r1, r2) := H
                have A22 := Aside0.mk A220
                clear A220
                by_cases c23 : t513 = true
                ·subst c23
                 have H1 : (if ((rd_T60 ((rd_T31 l1 x8_3).f0) x9_4).f0) ≤ a0 then (some (([] : List (S60)), 2)) else (exactpplref19_Branch.l2 k4 a0 l1 x8_3 (wrap64 (x9_4 + 1)))) = some (r1, r2) := by rw [if_pos rfl] at H; exact H
                 clear H
                 have H := H1
                 clear H1
                 by_cases c24 : ((rd_T60 ((rd_T31 l1 x8_3).f0) x9_4).f0) ≤ a0
                 ·rw [if_pos c24] at H
                  have c24b0 : decide (((rd_T60 ((rd_T31 l1 x8_3).f0) x9_4).f0) ≤ a0) = true := decide_eq_true c24
                  clear c24
                  simp only [Option.some.injEq, Prod.mk.injEq] at H
                  obtain ⟨rfl, rfl⟩ := H
                  have p509 : 0 ≤ (x8_3 : Int) := dt_
                  have q509 : x8_3 < (l1.length : Int) := dt_
                  obtain ⟨ad509, A509_0, c509_0, e509, hx509_0, hl509_0, hi509_0⟩ := at_T31 HR1.out x8_3 p509 q509
                  cases e509
                  replace hx509_0 := (HB.out.cell (World.block_lt_of_cell? w _ hx509_0)).trans hx509_0
                  have HR509_0 := Aside0.mk hi509_0
                  have HC509_0 := Aside0.mk hl509_0
                  clear hi509_0 hl509_0
                  replace p509 := eq_true p509
                  replace q509 := eq_true q509
                  have p510 : 0 ≤ (x8_3 : Int) := dt_
                  have q510 : x8_3 < (l1.length : Int) := dt_
                  obtain ⟨ad510, A510_0, c510_0, e510, hx510_0, hl510_0, hi510_0⟩ := at_T31 HR1.out x8_3 p510 q510
                  obtain rfl : ad509 = ad510 := (by injection e510)
                  replace hx510_0 := (HB.out.cell (World.block_lt_of_cell? w _ hx510_0)).trans hx510_0
                  have HR510_0 := Aside0.mk hi510_0
                  have HC510_0 := Aside0.mk hl510_0
                  clear hi510_0 hl510_0
                  replace p510 := eq_true p510
                  replace q510 := eq_true q510
                  have ea_ := Option.some.inj (hx509_0.symm.trans hx510_0)
                  injection ea_ with ea_ en_ ec_
                  subst ea_
                  subst ec_
                  clear en_
                  have p511 : 0 ≤ (x9_4 : Int) := dt_
                  have q511 : x9_4 < (((rd_T31 l1 x8_3).f0).length : Int) := dt_
                  obtain ⟨ad511, A511_2, c511_2, e511, hx511_0, hx511_1, hx511_2, hl511_2, hi511_2⟩ := at_T60 HR510_0.out x9_4 p511 q511
                  cases e511
                  replace hx511_0 := (HB.out.cell (World.block_lt_of_cell? w _ hx511_0)).trans hx511_0
                  replace hx511_1 := (HB.out.cell (World.block_lt_of_cell? w _ hx511_1)).trans hx511_1
                  replace hx511_2 := (HB.out.cell (World.block_lt_of_cell? w _ hx511_2)).trans hx511_2
                  have HR511_2 := Aside0.mk hi511_2
                  have HC511_2 := Aside0.mk hl511_2
                  clear hi511_2 hl511_2
                  replace p511 := eq_true p511
                  replace q511 := eq_true q511
                  go_wp2_with (first | ((with_reducible refine gate_dst (N := 10) rfl ?_); (try (refine gate_guard (by rfl) ?_; dsimp only)); refine box_event ?hg (N := 10) ?hd (cs := #[.int .i64 0, .int .i64 0, .slice none 0 0]) (t := 60) ?hr ?_; (case hd => rfl); (case hg => rfl); (case hr => first | (go_simp; done) | (go_simp; rfl)); intro gb512 hg w25 hbox hb; have BK512 := Aside0.mk (hbox); have GW512 : Aside0 (w.heap.size ≤ gb512) := gw_ hg (below_size bl_); have GE512 := GW512; have NB499_512 := Aside0.mk ((by rw [hg]; exact Nat.ne_of_lt (blk_lt (g := gb499) (o := .cells #[.slice none 0 0] 31 (0, 0)) bk_) : gb499 ≠ gb512)); have NB512_499 := Aside0.mk ((by rw [hg]; exact Nat.ne_of_gt (blk_lt (g := gb499) (o := .cells #[.slice none 0 0] 31 (0, 0)) bk_) : gb512 ≠ gb499)); replace BK499 := Aside0.mk (blk_below (g := gb499) (o := .cells #[.slice none 0 0] 31 (0, 0)) bk_ hb); replace HB := Aside0.mk (below_step bl_ hb); clear hb hbox hg; have hnb26 := NB512_499.out; have hnc26 := NB499_512.out; obtain ⟨hcz27_0, hcz27_1, hcz27_2, hfz27_0, hfz27_1, hfz27_2⟩ := cf3_ BK512.out) | ((with_reducible refine gate_callee (f := 55) rfl ?_); refine goesL_ (some 69) rfl rfl Tryd.func55 (by kernel_rfl) rfl #[.agg #[.int .i64 ((rd_T60 ((rd_T31 l1 x8_3).f0) x9_4).f0), .int .i64 ((rd_T60 ((rd_T31 l1 x8_3).f0) x9_4).f1), .slice A511_2 ((rd_T60 ((rd_T31 l1 x8_3).f0) x9_4).f2).length c511_2]] rfl (by (try simp only [List.map_toArray, List.map_cons, List.map_nil]); first | done | rfl | (simp only [List.length_drop, List.length_take]; rfl)) ?_; (with_reducible refine (exactpplref19_IsBranch.calls ((rd_T60 ((rd_T31 l1 x8_3).f0) x9_4).f0) ((rd_T60 ((rd_T31 l1 x8_3).f0) x9_4).f1) _ _ ((rd_T60 ((rd_T31 l1 x8_3).f0) x9_4).f2) true _ ?side1 ?side2 A22.out).mono ?_); (case side1 => exact Kd.C_below HR511_2.out bl_); (case side2 => exact HC511_2.out); rintro e w28 ⟨rfl, hb⟩; refine ⟨_, rfl, ?_⟩; replace BK499 := Aside0.mk (blk_below (g := gb499) (o := .cells #[.slice none 0 0] 31 (0, 0)) (by (with_reducible repeat (first | refine blk_drewN ?_ _ | refine blk_drew ?_ | refine blk_alloc ?_ _)); refine blk_far ?_ NB499_512.out _; (with_reducible repeat (first | refine blk_drewN ?_ _ | refine blk_drew ?_ | refine blk_alloc ?_ _)); refine blk_far ?_ NB499_512.out _; (with_reducible repeat (first | refine blk_drewN ?_ _ | refine blk_drew ?_ | refine blk_alloc ?_ _)); refine blk_far ?_ NB499_512.out _; (with_reducible repeat (first | refine blk_drewN ?_ _ | refine blk_drew ?_ | refine blk_alloc ?_ _)); exact BK499.out) hb); replace BK512 := Aside0.mk (blk_below (g := gb512) (o := .cells #[.int .i64 ((rd_T60 ((rd_T31 l1 x8_3).f0) x9_4).f0), .int .i64 ((rd_T60 ((rd_T31 l1 x8_3).f0) x9_4).f1), .slice A511_2 ((rd_T60 ((rd_T31 l1 x8_3).f0) x9_4).f2).length c511_2] 60 (0, 0)) (by (with_reducible repeat (first | refine blk_drewN ?_ _ | refine blk_drew ?_ | refine blk_alloc ?_ _)); refine blk_put (cs := #[.int .i64 ((rd_T60 ((rd_T31 l1 x8_3).f0) x9_4).f0), .int .i64 ((rd_T60 ((rd_T31 l1 x8_3).f0) x9_4).f1), .slice none 0 0]) ?_ 2 _ rfl; (with_reducible repeat (first | refine blk_drewN ?_ _ | refine blk_drew ?_ | refine blk_alloc ?_ _)); refine blk_put (cs := #[.int .i64 ((rd_T60 ((rd_T31 l1 x8_3).f0) x9_4).f0), .int .i64 0, .slice none 0 0]) ?_ 1 _ rfl; (with_reducible repeat (first | refine blk_drewN ?_ _ | refine blk_drew ?_ | refine blk_alloc ?_ _)); refine blk_put (cs := #[.int .i64 0, .int .i64 0, .slice none 0 0]) ?_ 0 _ rfl; (with_reducible repeat (first | refine blk_drewN ?_ _ | refine blk_drew ?_ | refine blk_alloc ?_ _)); exact BK512.out) hb); replace HB := Aside0.mk (below_step bl_ hb); (try clear hb); (try clear hb2); (try clear hk); (try clear hi); obtain ⟨hcz29_0, hcz29_1, hcz29_2, hfz29_0, hfz29_1, hfz29_2⟩ := cf3_ BK512.out; obtain ⟨hcz30_0, hfz30_0⟩ := cf1_ BK499.out))
                  refine bodyPost_ret (results_ct rfl _ _ gb499 31 #[.slice none 0 0] (0, 0) _ rfl (by (with_reducible repeat (first | refine blk_drewN ?_ _ | refine blk_drew ?_ | refine blk_alloc ?_ _)); refine blk_put (cs := #[.slice none 0 0]) ?_ 0 _ rfl; (with_reducible repeat (first | refine blk_drewN ?_ _ | refine blk_drew ?_ | refine blk_alloc ?_ _)); exact BK499.out) Tryd.underlying31 rfl (by kernel_rfl)) rfl ?_
                  exact ⟨_, re_, Kd.V_nil _ _ _ _ _, bl_⟩
                 ·rw [if_neg c24] at H
                  have c24b0 : decide (((rd_T60 ((rd_T31 l1 x8_3).f0) x9_4).f0) ≤ a0) = false := decide_eq_false c24
                  clear c24
                  have H' := Aside0.mk H
                  clear H
                  have p509 : 0 ≤ (x8_3 : Int) := dt_
                  have q509 : x8_3 < (l1.length : Int) := dt_
                  obtain ⟨ad509, A509_0, c509_0, e509, hx509_0, hl509_0, hi509_0⟩ := at_T31 HR1.out x8_3 p509 q509
                  cases e509
                  replace hx509_0 := (HB.out.cell (World.block_lt_of_cell? w _ hx509_0)).trans hx509_0
                  have HR509_0 := Aside0.mk hi509_0
                  have HC509_0 := Aside0.mk hl509_0
                  clear hi509_0 hl509_0
                  replace p509 := eq_true p509
                  replace q509 := eq_true q509
                  have p510 : 0 ≤ (x8_3 : Int) := dt_
                  have q510 : x8_3 < (l1.length : Int) := dt_
                  obtain ⟨ad510, A510_0, c510_0, e510, hx510_0, hl510_0, hi510_0⟩ := at_T31 HR1.out x8_3 p510 q510
                  obtain rfl : ad509 = ad510 := (by injection e510)
                  replace hx510_0 := (HB.out.cell (World.block_lt_of_cell? w _ hx510_0)).trans hx510_0
                  have HR510_0 := Aside0.mk hi510_0
                  have HC510_0 := Aside0.mk hl510_0
                  clear hi510_0 hl510_0
                  replace p510 := eq_true p510
                  replace q510 := eq_true q510
                  have ea_ := Option.some.inj (hx509_0.symm.trans hx510_0)
                  injection ea_ with ea_ en_ ec_
                  subst ea_
                  subst ec_
                  clear en_
                  have p511 : 0 ≤ (x9_4 : Int) := dt_
                  have q511 : x9_4 < (((rd_T31 l1 x8_3).f0).length : Int) := dt_
                  obtain ⟨ad511, A511_2, c511_2, e511, hx511_0, hx511_1, hx511_2, hl511_2, hi511_2⟩ := at_T60 HR510_0.out x9_4 p511 q511
                  cases e511
                  replace hx511_0 := (HB.out.cell (World.block_lt_of_cell? w _ hx511_0)).trans hx511_0
                  replace hx511_1 := (HB.out.cell (World.block_lt_of_cell? w _ hx511_1)).trans hx511_1
                  replace hx511_2 := (HB.out.cell (World.block_lt_of_cell? w _ hx511_2)).trans hx511_2
                  have HR511_2 := Aside0.mk hi511_2
                  have HC511_2 := Aside0.mk hl511_2
                  clear hi511_2 hl511_2
                  replace p511 := eq_true p511
                  replace q511 := eq_true q511
                  go_wp2_with (first | ((with_reducible refine gate_dst (N := 10) rfl ?_); (try (refine gate_guard (by rfl) ?_; dsimp only)); refine box_event ?hg (N := 10) ?hd (cs := #[.int .i64 0, .int .i64 0, .slice none 0 0]) (t := 60) ?hr ?_; (case hd => rfl); (case hg => rfl); (case hr => first | (go_simp; done) | (go_simp; rfl)); intro gb512 hg w31 hbox hb; have BK512 := Aside0.mk (hbox); have GW512 : Aside0 (w.heap.size ≤ gb512) := gw_ hg (below_size bl_); have GE512 := GW512; have NB499_512 := Aside0.mk ((by rw [hg]; exact Nat.ne_of_lt (blk_lt (g := gb499) (o := .cells #[.slice none 0 0] 31 (0, 0)) bk_) : gb499 ≠ gb512)); have NB512_499 := Aside0.mk ((by rw [hg]; exact Nat.ne_of_gt (blk_lt (g := gb499) (o := .cells #[.slice none 0 0] 31 (0, 0)) bk_) : gb512 ≠ gb499)); replace BK499 := Aside0.mk (blk_below (g := gb499) (o := .cells #[.slice none 0 0] 31 (0, 0)) bk_ hb); replace HB := Aside0.mk (below_step bl_ hb); clear hb hbox hg; have hnb32 := NB512_499.out; have hnc32 := NB499_512.out; obtain ⟨hcz33_0, hcz33_1, hcz33_2, hfz33_0, hfz33_1, hfz33_2⟩ := cf3_ BK512.out) | ((with_reducible refine gate_callee (f := 55) rfl ?_); refine goesL_ (some 69) rfl rfl Tryd.func55 (by kernel_rfl) rfl #[.agg #[.int .i64 ((rd_T60 ((rd_T31 l1 x8_3).f0) x9_4).f0), .int .i64 ((rd_T60 ((rd_T31 l1 x8_3).f0) x9_4).f1), .slice A511_2 ((rd_T60 ((rd_T31 l1 x8_3).f0) x9_4).f2).length c511_2]] rfl (by (try simp only [List.map_toArray, List.map_cons, List.map_nil]); first | done | rfl | (simp only [List.length_drop, List.length_take]; rfl)) ?_; (with_reducible refine (exactpplref19_IsBranch.calls ((rd_T60 ((rd_T31 l1 x8_3).f0) x9_4).f0) ((rd_T60 ((rd_T31 l1 x8_3).f0) x9_4).f1) _ _ ((rd_T60 ((rd_T31 l1 x8_3).f0) x9_4).f2) true _ ?side1 ?side2 A22.out).mono ?_); (case side1 => exact Kd.C_below HR511_2.out bl_); (case side2 => exact HC511_2.out); rintro e w34 ⟨rfl, hb⟩; refine ⟨_, rfl, ?_⟩; replace BK499 := Aside0.mk (blk_below (g := gb499) (o := .cells #[.slice none 0 0] 31 (0, 0)) (by (with_reducible repeat (first | refine blk_drewN ?_ _ | refine blk_drew ?_ | refine blk_alloc ?_ _)); refine blk_far ?_ NB499_512.out _; (with_reducible repeat (first | refine blk_drewN ?_ _ | refine blk_drew ?_ | refine blk_alloc ?_ _)); refine blk_far ?_ NB499_512.out _; (with_reducible repeat (first | refine blk_drewN ?_ _ | refine blk_drew ?_ | refine blk_alloc ?_ _)); refine blk_far ?_ NB499_512.out _; (with_reducible repeat (first | refine blk_drewN ?_ _ | refine blk_drew ?_ | refine blk_alloc ?_ _)); exact BK499.out) hb); replace BK512 := Aside0.mk (blk_below (g := gb512) (o := .cells #[.int .i64 ((rd_T60 ((rd_T31 l1 x8_3).f0) x9_4).f0), .int .i64 ((rd_T60 ((rd_T31 l1 x8_3).f0) x9_4).f1), .slice A511_2 ((rd_T60 ((rd_T31 l1 x8_3).f0) x9_4).f2).length c511_2] 60 (0, 0)) (by (with_reducible repeat (first | refine blk_drewN ?_ _ | refine blk_drew ?_ | refine blk_alloc ?_ _)); refine blk_put (cs := #[.int .i64 ((rd_T60 ((rd_T31 l1 x8_3).f0) x9_4).f0), .int .i64 ((rd_T60 ((rd_T31 l1 x8_3).f0) x9_4).f1), .slice none 0 0]) ?_ 2 _ rfl; (with_reducible repeat (first | refine blk_drewN ?_ _ | refine blk_drew ?_ | refine blk_alloc ?_ _)); refine blk_put (cs := #[.int .i64 ((rd_T60 ((rd_T31 l1 x8_3).f0) x9_4).f0), .int .i64 0, .slice none 0 0]) ?_ 1 _ rfl; (with_reducible repeat (first | refine blk_drewN ?_ _ | refine blk_drew ?_ | refine blk_alloc ?_ _)); refine blk_put (cs := #[.int .i64 0, .int .i64 0, .slice none 0 0]) ?_ 0 _ rfl; (with_reducible repeat (first | refine blk_drewN ?_ _ | refine blk_drew ?_ | refine blk_alloc ?_ _)); exact BK512.out) hb); replace HB := Aside0.mk (below_step bl_ hb); (try clear hb); (try clear hb2); (try clear hk); (try clear hi); obtain ⟨hcz35_0, hcz35_1, hcz35_2, hfz35_0, hfz35_1, hfz35_2⟩ := cf3_ BK512.out))
                  go_roundg k4
                  case measure => have := HJ2.out; have := HK2.out; have := HK3.out; have := HK4.out; omega
                  case rel => exact ⟨(wrap64 (x9_4 + 1)), rs_, H', ⟨by have := HJ2.out; have := HK2.out; have := HK3.out; have := HK4.out; omega⟩, ⟨bk_⟩, ⟨bl_⟩⟩
                ·replace c23 := Bool.eq_false_iff.mpr c23
                 subst c23
                 have H1 : (exactpplref19_Branch.l2 k4 a0 l1 x8_3 (wrap64 (x9_4 + 1))) = some (r1, r2) := by rw [if_neg (show ¬ (false = true) by decide)] at H; exact H
                 clear H
                 have H := H1
                 clear H1
                 have H' := Aside0.mk H
                 clear H
                 have p509 : 0 ≤ (x8_3 : Int) := dt_
                 have q509 : x8_3 < (l1.length : Int) := dt_
                 obtain ⟨ad509, A509_0, c509_0, e509, hx509_0, hl509_0, hi509_0⟩ := at_T31 HR1.out x8_3 p509 q509
                 cases e509
                 replace hx509_0 := (HB.out.cell (World.block_lt_of_cell? w _ hx509_0)).trans hx509_0
                 have HR509_0 := Aside0.mk hi509_0
                 have HC509_0 := Aside0.mk hl509_0
                 clear hi509_0 hl509_0
                 replace p509 := eq_true p509
                 replace q509 := eq_true q509
                 have p510 : 0 ≤ (x8_3 : Int) := dt_
                 have q510 : x8_3 < (l1.length : Int) := dt_
                 obtain ⟨ad510, A510_0, c510_0, e510, hx510_0, hl510_0, hi510_0⟩ := at_T31 HR1.out x8_3 p510 q510
                 obtain rfl : ad509 = ad510 := (by injection e510)
                 replace hx510_0 := (HB.out.cell (World.block_lt_of_cell? w _ hx510_0)).trans hx510_0
                 have HR510_0 := Aside0.mk hi510_0
                 have HC510_0 := Aside0.mk hl510_0
                 clear hi510_0 hl510_0
                 replace p510 := eq_true p510
                 replace q510 := eq_true q510
                 have ea_ := Option.some.inj (hx509_0.symm.trans hx510_0)
                 injection ea_ with ea_ en_ ec_
                 subst ea_
                 subst ec_
                 clear en_
                 have p511 : 0 ≤ (x9_4 : Int) := dt_
                 have q511 : x9_4 < (((rd_T31 l1 x8_3).f0).length : Int) := dt_
                 obtain ⟨ad511, A511_2, c511_2, e511, hx511_0, hx511_1, hx511_2, hl511_2, hi511_2⟩ := at_T60 HR510_0.out x9_4 p511 q511
                 cases e511
                 replace hx511_0 := (HB.out.cell (World.block_lt_of_cell? w _ hx511_0)).trans hx511_0
                 replace hx511_1 := (HB.out.cell (World.block_lt_of_cell? w _ hx511_1)).trans hx511_1
                 replace hx511_2 := (HB.out.cell (World.block_lt_of_cell? w _ hx511_2)).trans hx511_2
                 have HR511_2 := Aside0.mk hi511_2
                 have HC511_2 := Aside0.mk hl511_2
                 clear hi511_2 hl511_2
                 replace p511 := eq_true p511
                 replace q511 := eq_true q511
                 go_wp2_with (first | ((with_reducible refine gate_dst (N := 10) rfl ?_); (try (refine gate_guard (by rfl) ?_; dsimp only)); refine box_event ?hg (N := 10) ?hd (cs := #[.int .i64 0, .int .i64 0, .slice none 0 0]) (t := 60) ?hr ?_; (case hd => rfl); (case hg => rfl); (case hr => first | (go_simp; done) | (go_simp; rfl)); intro gb512 hg w36 hbox hb; have BK512 := Aside0.mk (hbox); have GW512 : Aside0 (w.heap.size ≤ gb512) := gw_ hg (below_size bl_); have GE512 := GW512; have NB499_512 := Aside0.mk ((by rw [hg]; exact Nat.ne_of_lt (blk_lt (g := gb499) (o := .cells #[.slice none 0 0] 31 (0, 0)) bk_) : gb499 ≠ gb512)); have NB512_499 := Aside0.mk ((by rw [hg]; exact Nat.ne_of_gt (blk_lt (g := gb499) (o := .cells #[.slice none 0 0] 31 (0, 0)) bk_) : gb512 ≠ gb499)); replace BK499 := Aside0.mk (blk_below (g := gb499) (o := .cells #[.slice none 0 0] 31 (0, 0)) bk_ hb); replace HB := Aside0.mk (below_step bl_ hb); clear hb hbox hg; have hnb37 := NB512_499.out; have hnc37 := NB499_512.out; obtain ⟨hcz38_0, hcz38_1, hcz38_2, hfz38_0, hfz38_1, hfz38_2⟩ := cf3_ BK512.out) | ((with_reducible refine gate_callee (f := 55) rfl ?_); refine goesL_ (some 69) rfl rfl Tryd.func55 (by kernel_rfl) rfl #[.agg #[.int .i64 ((rd_T60 ((rd_T31 l1 x8_3).f0) x9_4).f0), .int .i64 ((rd_T60 ((rd_T31 l1 x8_3).f0) x9_4).f1), .slice A511_2 ((rd_T60 ((rd_T31 l1 x8_3).f0) x9_4).f2).length c511_2]] rfl (by (try simp only [List.map_toArray, List.map_cons, List.map_nil]); first | done | rfl | (simp only [List.length_drop, List.length_take]; rfl)) ?_; (with_reducible refine (exactpplref19_IsBranch.calls ((rd_T60 ((rd_T31 l1 x8_3).f0) x9_4).f0) ((rd_T60 ((rd_T31 l1 x8_3).f0) x9_4).f1) _ _ ((rd_T60 ((rd_T31 l1 x8_3).f0) x9_4).f2) false _ ?side1 ?side2 A22.out).mono ?_); (case side1 => exact Kd.C_below HR511_2.out bl_); (case side2 => exact HC511_2.out); rintro e w39 ⟨rfl, hb⟩; refine ⟨_, rfl, ?_⟩; replace BK499 := Aside0.mk (blk_below (g := gb499) (o := .cells #[.slice none 0 0] 31 (0, 0)) (by (with_reducible repeat (first | refine blk_drewN ?_ _ | refine blk_drew ?_ | refine blk_alloc ?_ _)); refine blk_far ?_ NB499_512.out _; (with_reducible repeat (first | refine blk_drewN ?_ _ | refine blk_drew ?_ | refine blk_alloc ?_ _)); refine blk_far ?_ NB499_512.out _; (with_reducible repeat (first | refine blk_drewN ?_ _ | refine blk_drew ?_ | refine blk_alloc ?_ _)); refine blk_far ?_ NB499_512.out _; (with_reducible repeat (first | refine blk_drewN ?_ _ | refine blk_drew ?_ | refine blk_alloc ?_ _)); exact BK499.out) hb); replace BK512 := Aside0.mk (blk_below (g := gb512) (o := .cells #[.int .i64 ((rd_T60 ((rd_T31 l1 x8_3).f0) x9_4).f0), .int .i64 ((rd_T60 ((rd_T31 l1 x8_3).f0) x9_4).f1), .slice A511_2 ((rd_T60 ((rd_T31 l1 x8_3).f0) x9_4).f2).length c511_2] 60 (0, 0)) (by (with_reducible repeat (first | refine blk_drewN ?_ _ | refine blk_drew ?_ | refine blk_alloc ?_ _)); refine blk_put (cs := #[.int .i64 ((rd_T60 ((rd_T31 l1 x8_3).f0) x9_4).f0), .int .i64 ((rd_T60 ((rd_T31 l1 x8_3).f0) x9_4).f1), .slice none 0 0]) ?_ 2 _ rfl; (with_reducible repeat (first | refine blk_drewN ?_ _ | refine blk_drew ?_ | refine blk_alloc ?_ _)); refine blk_put (cs := #[.int .i64 ((rd_T60 ((rd_T31 l1 x8_3).f0) x9_4).f0), .int .i64 0, .slice none 0 0]) ?_ 1 _ rfl; (with_reducible repeat (first | refine blk_drewN ?_ _ | refine blk_drew ?_ | refine blk_alloc ?_ _)); refine blk_put (cs := #[.int .i64 0, .int .i64 0, .slice none 0 0]) ?_ 0 _ rfl; (with_reducible repeat (first | refine blk_drewN ?_ _ | refine blk_drew ?_ | refine blk_alloc ?_ _)); exact BK512.out) hb); replace HB := Aside0.mk (below_step bl_ hb); (try clear hb); (try clear hb2); (try clear hk); (try clear hi)))
                 go_roundg k4
                 case measure => have := HJ2.out; have := HK2.out; have := HK3.out; have := HK4.out; omega
                 case rel => exact ⟨(wrap64 (x9_4 + 1)), rs_, H', ⟨by have := HJ2.out; have := HK2.out; have := HK3.out; have := HK4.out; omega⟩, ⟨bk_⟩, ⟨bl_⟩⟩
               ·rw [if_neg c21] at H
                exact absurd H (by simp)
              ·rw [if_neg c20] at H
               have c20b0 : decide (x9_4 < (((rd_T31 l1 x8_3).f0).length : Int)) = false := decide_eq_false c20
               clear c20
               have H' := Aside0.mk H
               clear H
               have p509 : 0 ≤ (x8_3 : Int) := dt_
               have q509 : x8_3 < (l1.length : Int) := dt_
               obtain ⟨ad509, A509_0, c509_0, e509, hx509_0, hl509_0, hi509_0⟩ := at_T31 HR1.out x8_3 p509 q509
               cases e509
               replace hx509_0 := (HB.out.cell (World.block_lt_of_cell? w _ hx509_0)).trans hx509_0
               have HR509_0 := Aside0.mk hi509_0
               have HC509_0 := Aside0.mk hl509_0
               clear hi509_0 hl509_0
               replace p509 := eq_true p509
               replace q509 := eq_true q509
               go_wp2
               go_loopg [11] k4 (fun kq v11 w' => ∃ (x11_5 : Int), v11 = .int .i64 x11_5 ∧ Aside0 (exactpplref19_Branch.l3 kq a0 l1 x8_3 x11_5 = some (r1, r2)) ∧ Aside0 (kq ≤ k4) ∧ Aside0 (w'.heap[gb499]? = some (.cells #[(.slice none 0 0)] 31 (0, 0))) ∧ Aside0 (Below w.heap.size w w'))
               case atStart => exact ⟨(0), rs_, H', ⟨Nat.le_refl _⟩, ⟨bk_⟩, ⟨bl_⟩⟩
               case round =>
                clear H'
                try clear c1
                try clear c2
                try clear p2
                try clear c3
                try clear c4
                try clear c5
                try clear c5b0
                try clear p5
                try clear q5
                try clear hx5
                try clear c6
                try clear c6b0
                try clear p6
                try clear c7
                try clear c7b0
                try clear c7b1
                try clear c8
                try clear c10
                try clear c10b0
                try clear c11
                try clear c11b0
                try clear c13
                try clear c13b0
                try clear c13b1
                try clear c17
                try clear c17b0
                try clear c18
                try clear c18b0
                try clear c19
                try clear c19b0
                try clear c20
                try clear c20b0
                try clear c21
                try clear c21b0
                try clear c23
                try clear c24
                try clear c24b0
                try clear c26
                try clear c32
                try clear c35
                try clear c37
                try clear hcz16_0 hfz16_0
                try clear hcz27_0 hcz27_1 hcz27_2 hfz27_0 hfz27_1 hfz27_2
                try clear hcz29_0 hcz29_1 hcz29_2 hfz29_0 hfz29_1 hfz29_2
                try clear hcz30_0 hfz30_0
                try clear hcz33_0 hcz33_1 hcz33_2 hfz33_0 hfz33_1 hfz33_2
                try clear hcz35_0 hcz35_1 hcz35_2 hfz35_0 hfz35_1 hfz35_2
                try clear hcz38_0 hcz38_1 hcz38_2 hfz38_0 hfz38_1 hfz38_2
                try clear hcz9_0 hfz9_0
                try clear hx500_0
                try clear hx509_0
                try clear hx510_0
                try clear hx511_0
                try clear hx511_1
                try clear hx511_2
                try clear p2
                try clear p5
                try clear p500
                try clear p509
                try clear p510
                try clear p511
                try clear p6
                try clear q5
                try clear q500
                try clear q509
                try clear q510
                try clear q511
                obtain ⟨x11_5, rfl, HA, HK5, BK499, HB⟩ := hrel
                cases gk with
                | zero => exact absurd HA.out (by simp [exactpplref19_Branch.l3])
                | succ k5 =>
                 have H := HA.out
                 clear HA
                 simp only [exactpplref19_Branch.l3] at H
                 by_cases c40 : x11_5 < x8_3
                 ·rw [if_pos c40] at H
                  have c40b0 : decide (x11_5 < x8_3) = true := decide_eq_true c40
                  clear c40
                  by_cases c41 : 0 ≤ x8_3
                  ·rw [if_pos c41] at H
                   have c41b0 : decide (0 ≤ x8_3) = true := decide_eq_true c41
                   clear c41
                   by_cases c42 : x8_3 < (l1.length : Int)
                   ·rw [if_pos c42] at H
                    have c42b0 : decide (x8_3 < (l1.length : Int)) = true := decide_eq_true c42
                    clear c42
                    by_cases c43 : 0 ≤ x11_5
                    ·rw [if_pos c43] at H
                     have c43b0 : decide (0 ≤ x11_5) = true := decide_eq_true c43
                     clear c43
                     by_cases c44 : x11_5 < (l1.length : Int)
                     ·rw [if_pos c44] at H
                      have c44b0 : decide (x11_5 < (l1.length : Int)) = true := decide_eq_true c44
                      clear c44
                      replace H := Option.bind_eq_some_iff.mp H
                      obtain ⟨t516, A450, H⟩ := H
                      replace H : (if t516 = true then (exactpplref19_Branch.l3 k5 a0 l1 x8_3 (wrap64 (x11_5 + 1))) else (some (([] : List (S60)), 2))) = some (r1, r2) := H
                      have A45 := Aside0.mk A450
                      clear A450
                      by_cases c46 : t516 = true
                      ·subst c46
                       have H1 : (exactpplref19_Branch.l3 k5 a0 l1 x8_3 (wrap64 (x11_5 + 1))) = some (r1, r2) := by rw [if_pos rfl] at H; exact H
                       clear H
                       have H := H1
                       clear H1
                       have H' := Aside0.mk H
                       clear H
                       try go_wp2
                       replace BK499 := Aside0.mk (blk_drew BK499.out)
                       replace HB := Aside0.mk (below_drew1 HB.out)
                       have p514 : 0 ≤ (x8_3 : Int) := dt_
                       have q514 : x8_3 < (l1.length : Int) := dt_
                       obtain ⟨ad514, A514_0, c514_0, e514, hx514_0, hl514_0, hi514_0⟩ := at_T31 HR1.out x8_3 p514 q514
                       have hw514_0 := hx514_0
                       obtain rfl : ad509 = ad514 := (by injection e514)
                       replace hx514_0 := (HB.out.cell (World.block_lt_of_cell? w _ hx514_0)).trans hx514_0
                       have HR514_0 := Aside0.mk hi514_0
                       have HC514_0 := Aside0.mk hl514_0
                       clear hi514_0 hl514_0
                       replace p514 := eq_true p514
                       replace q514 := eq_true q514
                       have p515 : 0 ≤ (x11_5 : Int) := dt_
                       have q515 : x11_5 < (l1.length : Int) := dt_
                       obtain ⟨ad515, A515_0, c515_0, e515, hx515_0, hl515_0, hi515_0⟩ := at_T31 HR1.out x11_5 p515 q515
                       have hw515_0 := hx515_0
                       obtain rfl : ad509 = ad515 := (by injection e515)
                       replace hx515_0 := (HB.out.cell (World.block_lt_of_cell? w _ hx515_0)).trans hx515_0
                       have HR515_0 := Aside0.mk hi515_0
                       have HC515_0 := Aside0.mk hl515_0
                       clear hi515_0 hl515_0
                       replace p515 := eq_true p515
                       replace q515 := eq_true q515
                       refine start_ (n := 10) (S := fun w' => w'.cell? (ad509.add (x8_3).toNat) = some (.slice A514_0 ((rd_T31 l1 x8_3).f0).length c514_0) ∧ w'.cell? (ad509.add (x11_5).toNat) = some (.slice A515_0 ((rd_T31 l1 x11_5).f0).length c515_0)) (ds := []) #[false, false, false, false, false, false, false, false, false, false] (by kernel_rfl) rfl rfl ⟨((HB.out.cell (World.block_lt_of_cell? w _ hw514_0)).trans hw514_0), ((HB.out.cell (World.block_lt_of_cell? w _ hw515_0)).trans hw515_0)⟩ (fun hHeld => ?_); refine with_tabW exactpplref19_Branch.tab21 exactpplref19_Branch.bits21 (fun HT_ HW_ => ?_)
                       generalize wr.drew = w47 at BK499 HB HR514_0 HR515_0 hx514_0 hx515_0 hHeld ⊢
                       refine pu_ HT_ 0 82 (bm 10 1) ?_
                       refine pu_ HT_ 1 83 (bm 10 3) ?_
                       refine pu_ HT_ 2 84 (bm 10 7) ?_
                       refine pu_ HT_ 4 86 (bm 10 23) ?_
                       refine pu_ HT_ 5 87 (bm 10 55) ?_
                       refine pu_ HT_ 6 88 (bm 10 119) ?_
                       refine ta_ HT_ HW_ 3 85 (bm 10 127) hHeld ?_
                       refine ta_ HT_ HW_ 7 89 (bm 10 255) hHeld ?_
                       refine one_ (i := 8) (N := some 90) #[true, true, true, true, true, true, true, true, true, false] rfl rfl (one_of HT_.out (by kernel_rfl)) (by decide) (fun K hK => ?_)
                       refine goes_ Tryd.func61 (by kernel_rfl) rfl #[.agg #[.slice A514_0 ((rd_T31 l1 x8_3).f0).length c514_0], .agg #[.slice A515_0 ((rd_T31 l1 x11_5).f0).length c515_0]] (by rfl) rfl rfl (by (try simp only [List.map_toArray, List.map_cons, List.map_nil]); first | done | rfl | (simp only [List.length_drop, List.length_take]; rfl)) ?_
                       with_reducible refine (exactpplref19_Agree.calls k5 _ _ ((rd_T31 l1 x8_3).f0) _ _ ((rd_T31 l1 x11_5).f0) true _ ?side1 ?side2 ?side3 ?side4 A45.out).mono ?_
                       (case side1 => repeat (first | exact (Kd.C_below HR514_0.out HB.out) | (with_reducible refine Kd.C_alloc ?_ _) | (with_reducible refine Kd.C_drewN ?_ _) | (with_reducible refine Kd.C_drew ?_)))
                       (case side2 => exact HC514_0.out)
                       (case side3 => repeat (first | exact (Kd.C_below HR515_0.out HB.out) | (with_reducible refine Kd.C_alloc ?_ _) | (with_reducible refine Kd.C_drewN ?_ _) | (with_reducible refine Kd.C_drew ?_)))
                       (case side4 => exact HC515_0.out)
                       rintro e w48 ⟨rfl, hb⟩
                       refine ⟨_, rfl, ?_⟩
                       replace BK499 := Aside0.mk (blk_below (g := gb499) (o := .cells #[.slice none 0 0] 31 (0, 0)) bk_ hb)
                       replace HB := Aside0.mk (below_step bl_ hb)
                       (try clear hb)
                       (try clear hb2)
                       (try clear hk)
                       (try clear hi)
                       refine hK.out _ _ ⟨((HB.out.cell (World.block_lt_of_cell? w _ hw514_0)).trans hw514_0), ((HB.out.cell (World.block_lt_of_cell? w _ hw515_0)).trans hw515_0)⟩ (fun hHeld => ?_)
                       clear hK K
                       refine norm_ (a' := ?_) ?_ ?_
                       rotate_left
                       ·show Act.put _ (some 90) _ = _
                        simp only [Act.put, List.setIfInBounds_toArray, List.set_cons_zero, List.set_cons_succ, i64_w, i32_w]
                        rfl
                       refine pu_ HT_ 9 91 #[true, true, true, true, true, true, true, true, true, true] ?_
                       refine done_ (done_of HT_.out (by kernel_rfl)) ?_
                       try go_wp2
                       go_roundg k5
                       case measure => have := HJ2.out; have := HK2.out; have := HK3.out; have := HK4.out; have := HK5.out; omega
                       case rel => exact ⟨(wrap64 (x11_5 + 1)), rs_, H', ⟨by have := HJ2.out; have := HK2.out; have := HK3.out; have := HK4.out; have := HK5.out; omega⟩, ⟨bk_⟩, ⟨bl_⟩⟩
                      ·replace c46 := Bool.eq_false_iff.mpr c46
                       subst c46
                       have H1 : (some (([] : List (S60)), 2)) = some (r1, r2) := by rw [if_neg (show ¬ (false = true) by decide)] at H; exact H
                       clear H
                       have H := H1
                       clear H1
                       simp only [Option.some.injEq, Prod.mk.injEq] at H
                       obtain ⟨rfl, rfl⟩ := H
                       try go_wp2
                       replace BK499 := Aside0.mk (blk_drew BK499.out)
                       replace HB := Aside0.mk (below_drew1 HB.out)
                       have p514 : 0 ≤ (x8_3 : Int) := dt_
                       have q514 : x8_3 < (l1.length : Int) := dt_
                       obtain ⟨ad514, A514_0, c514_0, e514, hx514_0, hl514_0, hi514_0⟩ := at_T31 HR1.out x8_3 p514 q514
                       have hw514_0 := hx514_0
                       obtain rfl : ad509 = ad514 := (by injection e514)
                       replace hx514_0 := (HB.out.cell (World.block_lt_of_cell? w _ hx514_0)).trans hx514_0
                       have HR514_0 := Aside0.mk hi514_0
                       have HC514_0 := Aside0.mk hl514_0
                       clear hi514_0 hl514_0
                       replace p514 := eq_true p514
                       replace q514 := eq_true q514
                       have p515 : 0 ≤ (x11_5 : Int) := dt_
                       have q515 : x11_5 < (l1.length : Int) := dt_
                       obtain ⟨ad515, A515_0, c515_0, e515, hx515_0, hl515_0, hi515_0⟩ := at_T31 HR1.out x11_5 p515 q515
                       have hw515_0 := hx515_0
                       obtain rfl : ad509 = ad515 := (by injection e515)
                       replace hx515_0 := (HB.out.cell (World.block_lt_of_cell? w _ hx515_0)).trans hx515_0
                       have HR515_0 := Aside0.mk hi515_0
                       have HC515_0 := Aside0.mk hl515_0
                       clear hi515_0 hl515_0
                       replace p515 := eq_true p515
                       replace q515 := eq_true q515
                       refine start_ (n := 10) (S := fun w' => w'.cell? (ad509.add (x8_3).toNat) = some (.slice A514_0 ((rd_T31 l1 x8_3).f0).length c514_0) ∧ w'.cell? (ad509.add (x11_5).toNat) = some (.slice A515_0 ((rd_T31 l1 x11_5).f0).length c515_0)) (ds := []) #[false, false, false, false, false, false, false, false, false, false] (by kernel_rfl) rfl rfl ⟨((HB.out.cell (World.block_lt_of_cell? w _ hw514_0)).trans hw514_0), ((HB.out.cell (World.block_lt_of_cell? w _ hw515_0)).trans hw515_0)⟩ (fun hHeld => ?_); refine with_tabW exactpplref19_Branch.tab21 exactpplref19_Branch.bits21 (fun HT_ HW_ => ?_)
                       generalize wr.drew = w49 at BK499 HB HR514_0 HR515_0 hx514_0 hx515_0 hHeld ⊢
                       refine pu_ HT_ 0 82 (bm 10 1) ?_
                       refine pu_ HT_ 1 83 (bm 10 3) ?_
                       refine pu_ HT_ 2 84 (bm 10 7) ?_
                       refine pu_ HT_ 4 86 (bm 10 23) ?_
                       refine pu_ HT_ 5 87 (bm 10 55) ?_
                       refine pu_ HT_ 6 88 (bm 10 119) ?_
                       refine ta_ HT_ HW_ 3 85 (bm 10 127) hHeld ?_
                       refine ta_ HT_ HW_ 7 89 (bm 10 255) hHeld ?_
                       refine one_ (i := 8) (N := some 90) #[true, true, true, true, true, true, true, true, true, false] rfl rfl (one_of HT_.out (by kernel_rfl)) (by decide) (fun K hK => ?_)
                       refine goes_ Tryd.func61 (by kernel_rfl) rfl #[.agg #[.slice A514_0 ((rd_T31 l1 x8_3).f0).length c514_0], .agg #[.slice A515_0 ((rd_T31 l1 x11_5).f0).length c515_0]] (by rfl) rfl rfl (by (try simp only [List.map_toArray, List.map_cons, List.map_nil]); first | done | rfl | (simp only [List.length_drop, List.length_take]; rfl)) ?_
                       with_reducible refine (exactpplref19_Agree.calls k5 _ _ ((rd_T31 l1 x8_3).f0) _ _ ((rd_T31 l1 x11_5).f0) false _ ?side1 ?side2 ?side3 ?side4 A45.out).mono ?_
                       (case side1 => repeat (first | exact (Kd.C_below HR514_0.out HB.out) | (with_reducible refine Kd.C_alloc ?_ _) | (with_reducible refine Kd.C_drewN ?_ _) | (with_reducible refine Kd.C_drew ?_)))
                       (case side2 => exact HC514_0.out)
                       (case side3 => repeat (first | exact (Kd.C_below HR515_0.out HB.out) | (with_reducible refine Kd.C_alloc ?_ _) | (with_reducible refine Kd.C_drewN ?_ _) | (with_reducible refine Kd.C_drew ?_)))
                       (case side4 => exact HC515_0.out)
                       rintro e w50 ⟨rfl, hb⟩
                       refine ⟨_, rfl, ?_⟩
                       replace BK499 := Aside0.mk (blk_below (g := gb499) (o := .cells #[.slice none 0 0] 31 (0, 0)) bk_ hb)
                       replace HB := Aside0.mk (below_step bl_ hb)
                       (try clear hb)
                       (try clear hb2)
                       (try clear hk)
                       (try clear hi)
                       refine hK.out _ _ ⟨((HB.out.cell (World.block_lt_of_cell? w _ hw514_0)).trans hw514_0), ((HB.out.cell (World.block_lt_of_cell? w _ hw515_0)).trans hw515_0)⟩ (fun hHeld => ?_)
                       clear hK K
                       refine norm_ (a' := ?_) ?_ ?_
                       rotate_left
                       ·show Act.put _ (some 90) _ = _
                        simp only [Act.put, List.setIfInBounds_toArray, List.set_cons_zero, List.set_cons_succ, i64_w, i32_w]
                        rfl
                       refine pu_ HT_ 9 91 #[true, true, true, true, true, true, true, true, true, true] ?_
                       refine done_ (done_of HT_.out (by kernel_rfl)) ?_
                       obtain ⟨hcz51_0, hfz51_0⟩ := cf1_ BK499.out
                       try go_wp2
                       refine bodyPost_ret (results_ct rfl _ _ gb499 31 #[.slice none 0 0] (0, 0) _ rfl (by (with_reducible repeat (first | refine blk_drewN ?_ _ | refine blk_drew ?_ | refine blk_alloc ?_ _)); refine blk_put (cs := #[.slice none 0 0]) ?_ 0 _ rfl; (with_reducible repeat (first | refine blk_drewN ?_ _ | refine blk_drew ?_ | refine blk_alloc ?_ _)); exact BK499.out) Tryd.underlying31 rfl (by kernel_rfl)) rfl ?_
                       exact ⟨_, re_, Kd.V_nil _ _ _ _ _, bl_⟩
                     ·rw [if_neg c44] at H
                      exact absurd H (by simp)
                    ·rw [if_neg c43] at H
                     exact absurd H (by simp)
                   ·rw [if_neg c42] at H
                    exact absurd H (by simp)
                  ·rw [if_neg c41] at H
                   exact absurd H (by simp)
                 ·rw [if_neg c40] at H
                  have c40b0 : decide (x11_5 < x8_3) = false := decide_eq_false c40
                  clear c40
                  have H' := Aside0.mk H
                  clear H
                  go_wp2
                  go_roundg k5
                  case measure => have := HJ2.out; have := HK2.out; have := HK3.out; have := HK4.out; have := HK5.out; omega
                  case rel => exact ⟨(wrap64 (x8_3 + 1)), rs_, H', ⟨by have := HJ2.out; have := HK2.out; have := HK3.out; have := HK4.out; have := HK5.out; omega⟩, ⟨bk_⟩, ⟨bl_⟩⟩
             ·rw [if_neg c19] at H
              exact absurd H (by simp)
            ·rw [if_neg c18] at H
             exact absurd H (by simp)
         ·rw [if_neg c17] at H
          have c17b0 : decide (x8_3 < (l1.length : Int)) = false := decide_eq_false c17
          clear c17
          replace H := Option.bind_eq_some_iff.mp H
          obtain ⟨t502, A520, H⟩ := H
          replace H : ((exactpplref19_Fit.f t502).bind fun bt505 => (some (bt505.1, bt505.2))) = some (r1, r2) := H
          have A52 := Aside0.mk A520
          clear A520
          replace H := Option.bind_eq_some_iff.mp H
          obtain ⟨⟨t505, t508⟩, A530, H⟩ := H
          replace H : (some (t505, t508)) = some (r1, r2) := H
          have A53 := Aside0.mk A530
          clear A530
          simp only [Option.some.injEq, Prod.mk.injEq] at H
          obtain ⟨rfl, rfl⟩ := H
          go_wp2_with (first | ((with_reducible refine gate_callee (f := 53) rfl ?_); refine goesL_ (some 95) rfl rfl Tryd.func53 (by kernel_rfl) rfl #[.int .i64 a0, .slice A1 l1.length c1] rfl (by (try simp only [List.map_toArray, List.map_cons, List.map_nil]); first | done | rfl | (simp only [List.length_drop, List.length_take]; rfl)) ?_; (with_reducible refine (exactpplref19_Join.calls a0 _ _ l1 t502 _ ?side1 ?side2 A52.out).mono ?_); (case side1 => repeat (first | exact (Kd.C_below HR1.out HB.out) | (with_reducible refine Kd.C_alloc ?_ _) | (with_reducible refine Kd.C_drewN ?_ _) | (with_reducible refine Kd.C_drew ?_))); (case side2 => exact HC1.out); rintro e w54 ⟨v503, rfl, ho0, hb⟩; refine ⟨_, rfl, ?_⟩; have HO504 := Aside0.mk (Kd.V_lower (Kd.V_mono (ok' := fun k_ => (w.heap.size ≤ k_) ∧ k_ ≠ gb499) ho0 (fun k_ hk_ => ⟨(Nat.le_trans (below_size bl_) hk_), (Kd.freshB (g := gb499) (o := .cells #[.slice none 0 0] 31 (0, 0)) bk_ k_ hk_)⟩)) (below_size bl_)); replace BK499 := Aside0.mk (blk_below (g := gb499) (o := .cells #[.slice none 0 0] 31 (0, 0)) bk_ hb); replace HB := Aside0.mk (below_step bl_ hb); (try clear hb); (try clear hb2); (try clear hk); (try clear hi); (try clear ho0); obtain ⟨Ao55, co55, eo55⟩ := Kd.V_slice HO504.out; subst eo55) | ((with_reducible refine gate_callee (f := 62) rfl ?_); refine goesL_ (some 96) rfl rfl Tryd.func62 (by kernel_rfl) rfl #[.agg #[.slice Ao55 t502.length co55]] rfl (by (try simp only [List.map_toArray, List.map_cons, List.map_nil]); first | done | rfl | (simp only [List.length_drop, List.length_take]; rfl)) ?_; (with_reducible refine (exactpplref19_Fit.calls (fun k_ => ((w.heap.size ≤ k_) ∧ k_ ≠ gb499)) _ _ t502 t505 t508 _ ?side1 A53.out).mono ?_); (case side1 => exact HO504.out); rintro e w56 ⟨v506, rfl, ho0, hb⟩; refine ⟨_, rfl, ?_⟩; have HO507 := Aside0.mk (Kd.V_lower (Kd.V_mono (ok' := fun k_ => (w.heap.size ≤ k_) ∧ k_ ≠ gb499) ho0 (fun k_ hk_ => ⟨Or.elim hk_ (fun hs_ => hs_.1) (fun hn_ => (Nat.le_trans (below_size bl_) hn_)), Or.elim hk_ (fun hs_ => hs_.2) (fun hn_ => (Kd.freshB (g := gb499) (o := .cells #[.slice none 0 0] 31 (0, 0)) bk_ k_ hn_))⟩)) (below_size bl_)); replace HO504 := Aside0.mk (Kd.V_below (pV_ HO504.out) hb); replace BK499 := Aside0.mk (blk_below (g := gb499) (o := .cells #[.slice none 0 0] 31 (0, 0)) bk_ hb); replace HB := Aside0.mk (below_step bl_ hb); (try clear hb); (try clear hb2); (try clear hk); (try clear hi); (try clear ho0); obtain ⟨Ao57, co57, eo57⟩ := Kd.V_slice HO507.out; subst eo57; obtain ⟨hcz58_0, hfz58_0⟩ := cf1_ BK499.out))
          refine bodyPost_ret (results_ct rfl _ _ gb499 31 #[.slice Ao57 t505.length co57] (0, 0) _ rfl (by (with_reducible repeat (first | refine blk_drewN ?_ _ | refine blk_drew ?_ | refine blk_alloc ?_ _)); refine blk_put (cs := #[.slice none 0 0]) ?_ 0 _ rfl; (with_reducible repeat (first | refine blk_drewN ?_ _ | refine blk_drew ?_ | refine blk_alloc ?_ _)); exact BK499.out) Tryd.underlying31 rfl (by kernel_rfl)) rfl ?_
          exact ⟨_, re_, by (with_reducible repeat (first | apply Kd.V_alloc | apply Kd.V_drewN | apply Kd.V_drew)); exact Kd.V_mono (Kd.V_far (p := ⟨gb499, 0, none⟩) (Kd.V_mono HO507.out (fun k_ hk => (⟨hk, by first | exact hk.2 | exact hk.1 | exact hk.2 | exact hk.1.1 | exact hk.1.2⟩ : _ ∧ k_ ≠ gb499))) (fun _ hk => hk.2) (.slice Ao57 t505.length co57)) (fun _ hk => hk.1.1), bl_⟩

end Go.Proofs.YtopbjginpmdebaaDoor.K
-- diagram.Branch: what it answers
namespace Go.Proofs.YtopbjginpmdebaaDoor.K
open Go.RowKit Go.Maps Go.Proofs.YtopbjginpmdebaaDoorW.PrintWords Go.Proofs.YtopbjginpmdebaaDoorW.PrintLast Go.Proofs.YtopbjginpmdebaaDoorW.PrintMore
set_option linter.unusedVariables false
set_option linter.unusedSimpArgs false
/-- the first error of a child -/
def vdE : List S31 → Int
  | [] => 0
  | d :: ds => if valE d.f0 = 0 then vdE ds else valE d.f0
/-- all nodes -/
def flatD (ds : List S31) : List Nd := (ds.map (·.f0)).flatten
def shK (ds : List S31) : Option PM := shp (fun _ => none) (flatD ds)
def lowB (site : Int) (l : List Nd) : Bool := l.all fun n => decide (n.f0 < 0 ∨ site < n.f0)
def rngB (site : Int) (n : Nat) : Bool := decide (0 ≤ site ∧ site < 64 ∧ 1 ≤ n ∧ n ≤ 16)
/-- Branch's error and nodes -/
def brE (site : Int) (ds : List S31) : Int := if rngB site ds.length = true then (if vdE ds = 0 then (if (shK ds).isSome = true then (if lowB site (flatD ds) = true then (if (jn site ds).length ≤ 20000 then 0 else 9) else 2) else 2) else vdE ds) else 1
def brL (site : Int) (ds : List S31) : List Nd := if brE site ds = 0 then jn site ds else []
theorem flatD_snoc (ds : List S31) (d : S31) : flatD (ds ++ [d]) = flatD ds ++ d.f0 := by simp [flatD]
theorem flatD_len (ds : List S31) : (flatD ds).length = sumL ds := by simp [flatD, sumL, List.length_flatten, Function.comp_def]
theorem shp_append : ∀ (a b : List Nd) (g : PM), shp g (a ++ b) = (shp g a).bind fun g' => shp g' b
  | [], b, g => rfl
  | n :: a, b, g => by
    simp only [List.cons_append, shp]
    split
    · exact shp_append a b g
    · split
      · rfl
      · exact shp_append a b _
theorem shK_snoc (ds : List S31) (d : S31) : shK (ds ++ [d]) = (shK ds).bind fun g => shp g d.f0 := by
  unfold shK
  rw [flatD_snoc, shp_append]
theorem shK_take {ds : List S31} {k : Nat} (h : shK (ds.take k) = none) : shK ds = none := by
  have e : flatD ds = flatD (ds.take k) ++ flatD (ds.drop k) := by
    unfold flatD
    rw [List.map_take, List.map_drop, ← List.flatten_append, List.take_append_drop]
  unfold shK at h ⊢
  rw [e]
  exact shp_none _ _ _ h
/-- which sites are noted -/
theorem shp_keys : ∀ (l : List Nd) (g g' : PM), shp g l = some g' → ∀ x, (g' x).isSome = true ↔ ((g x).isSome = true ∨ ∃ n ∈ l, 0 ≤ n.f0 ∧ n.f0 = x)
  | [], g, g', h, x => by
    obtain rfl := Option.some.inj h
    simp
  | n :: l, g, g', h, x => by
    simp only [shp] at h
    by_cases h0 : n.f0 < 0
    · rw [if_pos h0] at h
      rw [shp_keys l g g' h x]
      constructor
      · rintro (h1 | ⟨m, hm, h1⟩)
        · exact .inl h1
        · exact .inr ⟨m, List.mem_cons_of_mem _ hm, h1⟩
      · rintro (h1 | ⟨m, hm, h1⟩)
        · exact .inl h1
        · rcases List.mem_cons.1 hm with rfl | hm
          · omega
          · exact .inr ⟨m, hm, h1⟩
    · rw [if_neg h0] at h
      split at h
      · cases h
      · rw [shp_keys l _ g' h x]
        unfold upd
        by_cases e : x = n.f0
        · rw [if_pos e]
          constructor
          · intro _; exact .inr ⟨n, List.mem_cons_self, by omega, e.symm⟩
          · intro _; exact .inl rfl
        · rw [if_neg e]
          constructor
          · rintro (h1 | ⟨m, hm, h1⟩)
            · exact .inl h1
            · exact .inr ⟨m, List.mem_cons_of_mem _ hm, h1⟩
          · rintro (h1 | ⟨m, hm, h1⟩)
            · exact .inl h1
            · rcases List.mem_cons.1 hm with rfl | hm
              · exact absurd h1.2.symm e
              · exact .inr ⟨m, hm, h1⟩
theorem shK_keys {ds : List S31} {g : PM} (h : shK ds = some g) (x : Int) : (g x).isSome = true ↔ ∃ n ∈ flatD ds, 0 ≤ n.f0 ∧ n.f0 = x := by
  rw [shp_keys _ _ _ h x]; simp
theorem lowB_of {ds : List S31} {g : PM} {site : Int} (h : shK ds = some g) (hk : ∀ x, (g x).isSome = true → site < x) : lowB site (flatD ds) = true := by
  refine List.all_eq_true.2 fun n hn => decide_eq_true ?_
  by_cases h0 : n.f0 < 0
  · exact .inl h0
  · exact .inr (hk _ ((shK_keys h _).2 ⟨n, hn, by omega, rfl⟩))
theorem lowB_bad {ds : List S31} {g : PM} {site x : Int} (h : shK ds = some g) (hk : (g x).isSome = true) (hx : x ≤ site) : lowB site (flatD ds) = false := by
  obtain ⟨n, hn, h0, rfl⟩ := (shK_keys h x).1 hk
  refine List.all_eq_false.2 ⟨n, hn, ?_⟩
  rw [decide_eq_true_eq]; omega
theorem vdE_take : ∀ (ds : List S31) (k : Nat) (hk : k < ds.length), vdE (ds.take k) = 0 → valE (ds[k]).f0 ≠ 0 → vdE ds = valE (ds[k]).f0
  | [], k, hk, _, _ => by simp at hk
  | d :: ds, 0, hk, _, h => by simp only [vdE]; rw [if_neg (by simpa using h)]; rfl
  | d :: ds, k + 1, hk, h1, h2 => by
    simp only [List.take_succ_cons, vdE, List.getElem_cons_succ] at h1 h2 ⊢
    by_cases h0 : valE d.f0 = 0
    · rw [if_pos h0] at h1 ⊢
      exact vdE_take ds k (by simpa using hk) h1 h2
    · rw [if_neg h0] at h1; exact absurd h1 h0
theorem vdE_snoc : ∀ (ds : List S31) (d : S31), vdE ds = 0 → valE d.f0 = 0 → vdE (ds ++ [d]) = 0
  | [], d, _, h => by simp only [List.nil_append, vdE]; rw [if_pos h]
  | e :: ds, d, h1, h2 => by
    simp only [List.cons_append, vdE] at h1 ⊢
    by_cases h0 : valE e.f0 = 0
    · rw [if_pos h0] at h1 ⊢; exact vdE_snoc ds d h1 h2
    · rw [if_neg h0] at h1; exact absurd h1 h0
theorem vdE_all : ∀ {ds : List S31}, vdE ds = 0 → ∀ d ∈ ds, valE d.f0 = 0
  | [], _, d, hd => by cases hd
  | e :: ds, h, d, hd => by
    simp only [vdE] at h
    by_cases h0 : valE e.f0 = 0
    · rw [if_pos h0] at h
      rcases List.mem_cons.1 hd with rfl | hd
      · exact h0
      · exact vdE_all h d hd
    · rw [if_neg h0] at h; exact absurd h h0
theorem vdE_of : ∀ {ds : List S31}, (∀ d ∈ ds, valE d.f0 = 0) → vdE ds = 0
  | [], _ => rfl
  | e :: ds, h => by
    simp only [vdE]
    rw [if_pos (h e List.mem_cons_self)]
    exact vdE_of fun d hd => h d (List.mem_cons_of_mem _ hd)
/-- graphs of one shape -/
theorem shK_sh {ds : List S31} (h : (shK ds).isSome = true) (hg : ∀ d ∈ ds, grB d.f0 = true) : ∃ sh : Int → Nat, ∀ d ∈ ds, GrS sh d.f0 := by
  have hp := ((shp_iff _ _).1 h).2
  have hp' : ∀ a ∈ flatD ds, ∀ b ∈ flatD ds, 0 ≤ a.f0 → a.f0 = b.f0 → a.f2.length = b.f2.length := by
    intro a ha b hb h0 he
    obtain ⟨i, hi, rfl⟩ := List.getElem_of_mem ha
    obtain ⟨j, hj, rfl⟩ := List.getElem_of_mem hb
    rw [List.pairwise_iff_getElem] at hp
    rcases Nat.lt_trichotomy i j with h1 | h1 | h1
    · exact hp i j hi hj h1 h0 he
    · subst h1; rfl
    · exact (hp j i hj hi h1 (by omega) he.symm).symm
  refine ⟨fun s => if hx : ∃ n ∈ flatD ds, n.f0 = s then (Classical.choose hx).f2.length else 0, fun d hd => ⟨fun i hi => ?_⟩⟩
  rcases gr_nd (hg d hd) hi with h1 | h1
  · exact .inl h1
  · refine .inr ⟨h1, ?_⟩
    have hm : nth d.f0 (i : Int) ∈ flatD ds := by
      unfold flatD
      exact List.mem_flatten.2 ⟨d.f0, List.mem_map_of_mem hd, by rw [nth_lt hi]; exact List.getElem_mem hi⟩
    have hx : ∃ n ∈ flatD ds, n.f0 = (nth d.f0 (i : Int)).f0 := ⟨_, hm, rfl⟩
    have hs := Classical.choose_spec hx
    rw [dif_pos hx]
    exact hp' _ hm _ hs.1 (br_iff.1 h1).1.1 hs.2.symm
theorem mem_flatD {ds : List S31} {d : S31} {n : Nd} (hd : d ∈ ds) (hn : n ∈ d.f0) : n ∈ flatD ds := List.mem_flatten.2 ⟨d.f0, List.mem_map_of_mem hd, hn⟩
end Go.Proofs.YtopbjginpmdebaaDoor.K
-- exactpplref19.Fix
namespace Go.Proofs.YtopbjginpmdebaaDoor.K
open Go.RowKit Go.Maps Go.Proofs.YtopbjginpmdebaaDoorW.PrintWords Go.Proofs.YtopbjginpmdebaaDoorW.PrintLast Go.Proofs.YtopbjginpmdebaaDoorW.PrintMore
set_option linter.unusedVariables false
set_option linter.unusedSimpArgs false
/-- a node, its site's outcome fixed -/
def fx1 (site oc : Int) (u : List Nd) (at_ : List Int) (n : Nd) : List Nd × Int := if 0 ≤ n.f0 ∧ n.f0 = site then (u, lk at_ (rd n.f2 oc)) else place1 u at_ n
def fx (site oc : Int) : List Nd → List Int → List Nd → List Nd × List Int
  | u, at_, [] => (u, at_)
  | u, at_, n :: ns => fx site oc (fx1 site oc u at_ n).1 (at_ ++ [(fx1 site oc u at_ n).2]) ns
theorem fx_snoc (site oc : Int) (ns : List Nd) (n : Nd) : ∀ (u : List Nd) (at_ : List Int), fx site oc u at_ (ns ++ [n]) = ((fx1 site oc (fx site oc u at_ ns).1 (fx site oc u at_ ns).2 n).1, (fx site oc u at_ ns).2 ++ [(fx1 site oc (fx site oc u at_ ns).1 (fx site oc u at_ ns).2 n).2]) := by
  induction ns with
  | nil => intro u at_; simp [fx]
  | cons m ns ih => intro u at_; simp only [List.cons_append, fx]; exact ih _ _
theorem fx_len (site oc : Int) (ns : List Nd) : ∀ (u : List Nd) (at_ : List Int), (fx site oc u at_ ns).2.length = at_.length + ns.length := by
  induction ns with
  | nil => intro u at_; simp [fx]
  | cons m ns ih => intro u at_; simp only [fx]; rw [ih]; simp; omega
theorem fx_kids {m : Nat} (site oc : Int) : ∀ (ns : List Nd) (u : List Nd) (at_ : List Int), (∀ x ∈ u, x.f2.length ≤ m) → (∀ n ∈ ns, n.f2.length ≤ m) → ∀ x ∈ (fx site oc u at_ ns).1, x.f2.length ≤ m
  | [], u, at_, h, _ => h
  | n :: ns, u, at_, h, hn => by
    simp only [fx]
    refine fx_kids site oc ns _ _ ?_ (fun x hx => hn x (List.mem_cons_of_mem _ hx))
    unfold fx1
    split
    · exact h
    · exact place1_kids h (hn n List.mem_cons_self)
/-- the outcome is one of the site's -/
def OcOk (site oc : Int) (nodes : List Nd) : Prop := ∀ n ∈ nodes, 0 ≤ n.f0 → n.f0 = site → 0 ≤ oc ∧ oc < (n.f2.length : Int)
theorem rd_mem {l : List Int} {i : Int} (h0 : 0 ≤ i) (h1 : i < (l.length : Int)) : rd l i ∈ l := by
  have hx : i.toNat < l.length := by omega
  unfold rd
  rw [List.getD_eq_getElem?_getD, List.getElem?_eq_getElem hx]; exact List.getElem_mem hx
theorem fx_tbl {ns : List Nd} {site oc : Int} (hf : Fit ns) (ho : OcOk site oc ns) {u : List Nd} (hu : Tbl u []) : ∀ k, k ≤ ns.length → Tbl (fx site oc u [] (ns.take k)).1 (fx site oc u [] (ns.take k)).2 ∧ (fx site oc u [] (ns.take k)).1.length ≤ u.length + k ∧ u <+: (fx site oc u [] (ns.take k)).1 := by
  intro k
  induction k with
  | zero => intro _; simpa [fx] using hu
  | succ k ih =>
    intro hk
    obtain ⟨h1, h2, h3⟩ := ih (by omega)
    have hm : nth ns (k : Int) ∈ ns := by rw [nth_lt (by omega)]; exact List.getElem_mem _
    rw [take_snoc' (by omega), fx_snoc]
    have hl := fx_len site oc (ns.take k) u []
    have hkid : ∀ c ∈ (nth ns (k : Int)).f2, 0 ≤ c ∧ c < (((fx site oc u [] (ns.take k)).2).length : Int) := fun c hc => by
      have := hf.1 k (by omega) c hc
      rw [hl]; simp; omega
    unfold fx1
    by_cases hs : 0 ≤ (nth ns (k : Int)).f0 ∧ (nth ns (k : Int)).f0 = site
    · rw [if_pos hs]
      have hoc := ho _ hm hs.1 hs.2
      refine ⟨⟨h1.down, h1.nodup, fun a ha => ?_⟩, by simp only; omega, h3⟩
      rcases List.mem_append.1 ha with ha | ha
      · exact h1.at_lt a ha
      · rw [List.mem_singleton.1 ha]
        have := hkid _ (rd_mem hoc.1 hoc.2)
        exact h1.at_lt _ (lk_mem this.1 this.2)
    · rw [if_neg hs]
      obtain ⟨h4, h5, h6⟩ := h1.place1 (n := nth ns (k : Int)) hkid (hf.2 _ hm)
      exact ⟨h4, by simp only; omega, h3.trans h5⟩
/-- between two rounds of Fix: the places at block b, the result's cell at c0, the diagram's box at c1 -/
structure FxSt (b c0 c1 : Nat) (w W : World) (A : Option Addr) (N c : Nat) (U : List Nd) (at_ : List Int) (v : Value) : Prop where
  below : Below w.heap.size w W
  row : k60.R 60 W w.heap.size (fun j => j ≠ b ∧ j ≠ c0 ∧ j ≠ c1) v U
  arr : Arr W b (padd at_ N)
  res : W.heap[c0]? = some (.cells #[.slice none 0 0] 31 (0, 0))
  dbox : W.heap[c1]? = some (.cells #[.slice A N c] 31 (0, 0))
theorem FxSt.put {b c0 c1 : Nat} {w W W2 : World} {A : Option Addr} {N c k : Nat} {U U2 : List Nd} {at_ : List Int} {v v2 : Value} {z : Int} (h : FxSt b c0 c1 w W A N c U at_ v) (hb : w.heap.size ≤ b) (hc0 : c0 ≠ b) (hc1 : c1 ≠ b)
    (hR : k60.R 60 W2 w.heap.size (fun j => j ≠ b ∧ j ≠ c0 ∧ j ≠ c1) v2 U2) (hg : W.grownBy W2 v.ownBlock) (hat : at_.length = k) (hk : k < N) : FxSt b c0 c1 w (W2.setCell ⟨b, k, none⟩ (.int .i64 z)) A N c U2 (at_ ++ [z]) v2 := by
  have hvB := Kd.R_base h.row
  have hnb : some b ≠ v.ownBlock := fun e => (h.row.1 _ e.symm).1 rfl
  have ha : Arr W2 b (padd at_ N) := h.arr.move (hg.block _ h.arr.lt hnb)
  refine ⟨?_, Kd.R_far (p := ⟨b, k, none⟩) hR (fun j hj => hj.1) _, ?_, ?_, ?_⟩
  · exact (h.below.trans ⟨hg.os, hg.tape, hg.output, hg.size, fun j hj => hg.block j (Nat.lt_of_lt_of_le hj h.below.size) (fun e => by have := hvB j e.symm; omega)⟩).setCell (p := ⟨b, k, none⟩) hb _
  · have := ha.put k z
    have e := padd_set (l := at_) (n := N) z (by rw [hat]; exact hk)
    rw [hat] at e
    rw [e] at this
    exact this
  · exact (Below.heap_setCell W2 ⟨b, k, none⟩ _ c0 (by show c0 ≠ b; exact hc0)).trans ((hg.block _ (blk_lt h.res) (fun e => (h.row.1 _ e.symm).2.1 rfl)).trans h.res)
  · exact (Below.heap_setCell W2 ⟨b, k, none⟩ _ c1 (by show c1 ≠ b; exact hc1)).trans ((hg.block _ (blk_lt h.dbox) (fun e => (h.row.1 _ e.symm).2.2 rfl)).trans h.dbox)
theorem FxSt.on {b c0 c1 : Nat} {w W W2 : World} {A : Option Addr} {N c : Nat} {U : List Nd} {at_ : List Int} {v : Value} (h : FxSt b c0 c1 w W A N c U at_ v) (hb : Below W.heap.size W W2) : FxSt b c0 c1 w W2 A N c U at_ v :=
  ⟨h.below.trans (hb.mono h.below.size), Kd.R_below h.row hb, h.arr.move (hb.block _ h.arr.lt), (hb.block _ (blk_lt h.res)).trans h.res, (hb.block _ (blk_lt h.dbox)).trans h.dbox⟩
set_option maxHeartbeats 32000000 in
set_option maxRecDepth 100000 in
theorem fix_calls (nodes : List Nd) (site oc : Int) (A : Option Addr) (c : Nat) (w : World) (hC : k60.C w A nodes.length nodes) (hc : nodes.length ≤ c) (hg : grB nodes = true) (ho : OcOk site oc nodes) (hroom : (nodes.length + 2) * 40 ≤ 140737488355328) :
    Calls Tryd.prog 59 #[.agg #[.slice A nodes.length c], .int .i64 site, .int .i64 oc] w (DPost w (expo (fx site oc [] [] nodes).1 (lk (fx site oc [] [] nodes).2 ((nodes.length - 1 : Nat) : Int)))) := by
  have hp := gr_pos hg
  have h0 : FxSt (w.heap.size + 2) (w.heap.size + 1) w.heap.size w (((w.alloc (.cells #[.slice A nodes.length c] 31)).alloc (.cells #[.slice none 0 0] 31)).alloc (.cells (madeCells #[.int .i64 0] nodes.length) 3)) A nodes.length c [] [] (.slice none 0 0) := by
    have e1 : (w.alloc (.cells #[.slice A nodes.length c] 31)).heap.size = w.heap.size + 1 := by simp
    have e2 : ((w.alloc (.cells #[.slice A nodes.length c] 31)).alloc (.cells #[.slice none 0 0] 31)).heap.size = w.heap.size + 2 := by simp
    refine ⟨(((Below.refl _ w).alloc (Nat.le_refl _) _).alloc (by rw [e1]; omega) _).alloc (by rw [e2]; omega) _, Kd.R_nil _ _ _ _ _, ?_, ?_, ?_⟩
    · have := Arr.made ((w.alloc (.cells #[.slice A nodes.length c] 31)).alloc (.cells #[.slice none 0 0] 31)) nodes.length (by omega)
      rw [e2] at this
      simpa [padd] using this
    · refine (Below.heap_alloc _ _ _ (by rw [e2]; omega)).trans ?_
      have := heap_alloc_new (w.alloc (.cells #[.slice A nodes.length c] 31)) (.cells #[.slice none 0 0] 31)
      rwa [e1] at this
    · exact (Below.heap_alloc _ _ _ (by rw [e2]; omega)).trans ((Below.heap_alloc _ _ _ (by rw [e1]; omega)).trans (heap_alloc_new w _))
  have H0 := Lib.hid h0
  have HC := Lib.hid hC
  have HG := Lib.hid hg
  have HO := Lib.hid ho
  obtain ⟨N, hN⟩ : ∃ N, N = nodes.length := ⟨_, rfl⟩
  have HN := Lib.hid hN
  have hmk := print_make (P := Tryd.prog) 22 3 .i64 8 Tryd.underlying22 info3 (by decide) N (by omega)
  rw [← hN] at hroom hc hp H0 ⊢
  have b0 := blk_cell H0.out.dbox 0
  clear hC hg ho hN h0
  have b00 : (w.alloc (Obj.cells #[.slice A N c] 31)).cell? ⟨w.heap.size, 0, none⟩ = some (.slice A N c) := (blk_cell (heap_alloc_new w (.cells #[.slice A N c] 31)) 0).trans rfl
  go_enter Tryd.func59, Tryd.ntmps59
  go_wp2
  go_loopw [7, 9] (fun v i W => ∃ (k : Nat) (vv : Value), vv = v ∧ i = .int .i64 k ∧ k ≤ N ∧ FxSt (w.heap.size + 2) (w.heap.size + 1) w.heap.size w W A N c (fx site oc [] [] (nodes.take k)).1 (fx site oc [] [] (nodes.take k)).2 vv) (fun _ i _ => N - (intOf i).toNat)
  case atStart => exact ⟨0, _, rfl, rfl, Nat.zero_le _, by simpa [fx] using H0.out⟩
  case round =>
    obtain ⟨k, vv, rfl, rfl, hk, hst⟩ := hrel
    obtain ⟨U, hUe⟩ : ∃ U, U = (fx site oc [] [] (nodes.take k)).1 := ⟨_, rfl⟩
    obtain ⟨at_, hae⟩ : ∃ at_, at_ = (fx site oc [] [] (nodes.take k)).2 := ⟨_, rfl⟩
    rw [← hUe, ← hae] at hst
    obtain ⟨Av0, cv0, rfl⟩ := Kd.R_slice hst.row
    have hat : at_.length = k := by rw [hae, fx_len]; simp; have := HN.out; omega
    obtain ⟨tT, tL, -⟩ := fx_tbl (site := site) (oc := oc) (gr_fit HG.out) HO.out tbl_nil k (by have := HN.out; omega)
    rw [← hUe, ← hae] at tT
    rw [← hUe] at tL
    have huk : ∀ x ∈ U, x.f2.length ≤ 1073741824 := by rw [hUe]; exact fx_kids site oc (nodes.take k) [] [] (by simp) (fun x hx => Nat.le_trans (gr_kids HG.out x (List.mem_of_mem_take hx)) (by decide))
    have y0 : wr.cell? ⟨w.heap.size, 0, none⟩ = some (.slice A N c) := (blk_cell hst.dbox 0).trans rfl
    have HST := Lib.hid hst
    have HUE := Lib.hid hUe
    have HAE := Lib.hid hae
    have HAT := Lib.hid hat
    have HT := Lib.hid tT
    have HTL := Lib.hid tL
    have HUK := Lib.hid huk
    have hsz := hst.below.size
    have hab := hst.arr.lt
    clear hst hUe hae hat tT tL huk
    by_cases hlt : k < N
    · have hkn : k < nodes.length := by have := HN.out; omega
      have hnm : nth nodes k ∈ nodes := by rw [nth_lt hkn]; exact List.getElem_mem hkn
      obtain ⟨ad, A2, c2, rfl, d0, d1, d2, l2, g2⟩ := at_T60 (Kd.C_below HC.out HST.out.below) (k : Int) (by omega) (by omega)
      rw [Int.toNat_natCast] at d0 d1 d2
      rw [rd_nth] at d0 d1 d2 l2 g2
      obtain ⟨n, hn⟩ : ∃ n, n = nth nodes (k : Int) := ⟨_, rfl⟩
      rw [← hn] at d0 d1 d2 l2 g2 hnm
      have hI2 : n.f2.length ≤ 16 := gr_kids HG.out n hnm
      have hfrm := gr_frm HG.out n hnm
      have hkids : ∀ c ∈ n.f2, 0 ≤ c ∧ c < (k : Int) := by rw [hn]; exact (gr_fit HG.out).1 k hkn
      have hsucc : fx site oc [] [] (nodes.take (k + 1)) = ((fx1 site oc U at_ n).1, at_ ++ [(fx1 site oc U at_ n).2]) := by rw [take_snoc' hkn, fx_snoc, ← hn, ← HUE.out, ← HAE.out]
      have hkb : k < 4000000000000 := by omega
      have hki : (k : Int) < (N : Int) := by omega
      have hb0 : Below wr.heap.size wr (wr.alloc (.cells #[.int .i64 n.f0, .int .i64 n.f1, .slice A2 n.f2.length c2] 60)) := (Below.refl _ wr).alloc (Nat.le_refl _) _
      have hbx0 := heap_alloc_new wr (.cells #[.int .i64 n.f0, .int .i64 n.f1, .slice A2 n.f2.length c2] 60)
      have hI := exactpplref19_IsBranch.calls n.f0 n.f1 A2 c2 n.f2 _ _ (Kd.C_below g2 hb0) l2 rfl
      obtain ⟨M, hM⟩ : ∃ M, M = n.f2.length := ⟨_, rfl⟩
      have HM := Lib.hid hM
      rw [← hM] at d2 l2 hI2 hI hb0 hbx0
      have hdl := World.block_lt_of_cell? _ _ d0
      have HKIDS := Lib.hid hkids
      have HFRM := Lib.hid hfrm
      have HSUCC := Lib.hid hsucc
      have HNN := Lib.hid hn
      have HNM := Lib.hid hnm
      have HG2 := Lib.hid g2
      have HB0 := Lib.hid hb0
      have HBX0 := Lib.hid hbx0
      clear hkids hfrm hsucc hn hnm hM g2 hb0 hbx0
      by_cases hlf : n.f0 = -1
      · have hnb : (n.f0 != -1) = false := by simp [hlf]
        rw [hnb] at hI
        have HFX := Lib.hid (show fx1 site oc U at_ n = place1 U at_ n from by unfold fx1; rw [if_neg (by omega)])
        clear hnb hlf
        go_wp2_with (go_at_call 55; refine hI.mono ?_; clear hI; rintro e w1 ⟨rfl, hb1⟩; have HB1 := Lib.hid (HB0.out.trans (hb1.mono (by simp))); have hbx1 := (hb1.block wr.heap.size (by simp)).trans HBX0.out; have hlt1 := blk_lt hbx1; have x0 : w1.cell? ⟨wr.heap.size, 0, none⟩ = some (.int .i64 n.f0) := (blk_cell hbx1 0).trans rfl; have x1 : w1.cell? ⟨wr.heap.size, 1, none⟩ = some (.int .i64 n.f1) := (blk_cell hbx1 1).trans rfl; have x2 : w1.cell? ⟨wr.heap.size, 2, none⟩ = some (.slice A2 M c2) := (blk_cell hbx1 2).trans rfl; have HBX1 := Lib.hid hbx1; clear hb1 hbx1)
        obtain ⟨wo, rfl⟩ : ∃ wo : World, wo = wr := ⟨_, rfl⟩
        go_loopw [12] (fun i W => ∃ (j : Nat) (v : Value), i = .int .i64 j ∧ j ≤ M ∧ NdSt w1 W n.f0 n.f1 ((n.f2.take j).map (lk at_)) v) (fun i _ => M - (intOf i).toNat)
        case atStart => exact ⟨0, _, rfl, Nat.zero_le _, NdSt.first w1 n.f0 n.f1⟩
        case round =>
          obtain ⟨j, v, rfl, hj, hnd⟩ := hrel
          obtain ⟨l, hl⟩ : ∃ l, l = (n.f2.take j).map (lk at_) := ⟨_, rfl⟩
          rw [← hl] at hnd
          have hll : l.length = j := by rw [hl]; simp; have := HM.out; omega
          obtain ⟨Av, cv, rfl⟩ := Kd.R_slice hnd.row
          have hbW := hnd.below
          have hsW := hbW.size
          have hmW := blk_lt hnd.box
          have bm2 : wr.cell? ⟨w1.heap.size, 2, none⟩ = some (.slice Av l.length cv) := (blk_cell hnd.box 2).trans rfl
          have fm2 := blk_frozen hnd.box 2
          replace x2 := pw_cell_below hbW x2
          have HND := Lib.hid hnd
          have HBW := Lib.hid (HB1.out.trans (hbW.mono HB1.out.size))
          have HLL := Lib.hid hl
          have HLK := Lib.hid hll
          have hlb : l.length ≤ 1073741824 := by omega
          have hjb : j ≤ 1073741824 := by omega
          clear hl hll hnd hbW
          by_cases hjl : j < M
          · have hjn : j < n.f2.length := by have := HM.out; omega
            obtain ⟨ad2, rfl, hkc⟩ := reads_at (Kd.C_below HG2.out HBW.out) (by intro e; rw [e] at hjn; simp at hjn)
            have e0 := hkc j hjn
            have hcm : n.f2.getD j 0 ∈ n.f2 := by rw [List.getD_eq_getElem?_getD, List.getElem?_eq_getElem hjn]; exact List.getElem_mem hjn
            obtain ⟨hc0, hc1⟩ := HKIDS.out _ hcm
            obtain ⟨cn, hcn⟩ : ∃ cn : Nat, n.f2.getD j 0 = cn := ⟨(n.f2.getD j 0).toNat, by omega⟩
            rw [hcn] at e0 hc1
            have hcN : cn < N := by omega
            have hcNi : (cn : Int) < (N : Int) := by omega
            have hcb : cn < 4000000000000 := by omega
            have hji : (j : Int) < (M : Int) := by omega
            have e1 := (HST.out.arr.move (HBW.out.block _ hab)).at cn (by rw [padd_len (by rw [HAT.out]; omega)]; omega)
            rw [padd_get (by rw [HAT.out]; omega)] at e1
            have e2 := e1.1
            obtain ⟨y, hy⟩ : ∃ y, y = at_.getD cn 0 := ⟨_, rfl⟩
            rw [← hy] at e2
            have HY := Lib.hid hy
            have HCN := Lib.hid hcn
            have HR2 := Lib.hid HND.out.row
            clear e1 hcm hcn hkc hy
            go_wp2
            go_region_law (((refine Kd.R_append_step (Kd.int .i64) (w0 := wr) (W := wr.drew) (w1.heap.size + 1) (by rfl) (.tmp 61) (.tmp 70) 22 3 (.int .i64 0) 8 rfl Tryd.underlying22 info3 rfl (by decide) (by decide) (.slice Av l.length cv) l y [.int .i64 y] (fun k => w1.heap.size < k) (fun _ => False) (by rfl) (by rfl) rfl (fun _ h => h.elim) (fun k hk => Nat.lt_of_lt_of_le hmW hk) HR2.out (Below.refl _ _).drew hmW (by omega) ?_; intro v5 w5 hR5 hB5 hg5 hat5; obtain ⟨A5, c5, rfl⟩ := Kd.R_slice hR5; have hbx5 := (hB5.block w1.heap.size (Nat.lt_succ_self _)).trans HND.out.box; have q1 := blk_cell hbx5 2; have q2 := blk_frozen hbx5 2)))
            all_goals
              rw [List.length_append, List.length_singleton] at hR5
              have HR5 := Lib.hid hR5
              have HB5 := Lib.hid hB5
              clear hR5 hB5 hg5 hat5 hbx5
              go_wp2
              go_roundw
              case rel =>
                refine ⟨j + 1, .slice A5 (l.length + 1) c5, by go_num, hjl, ?_⟩
                have h3 : (n.f2.take (j + 1)).map (lk at_) = l ++ [y] := by
                  rw [List.take_succ_eq_append_getElem hjn, List.map_append, ← HLL.out]
                  congr 1
                  have : n.f2[j] = (cn : Int) := by
                    have := HCN.out
                    rw [List.getD_eq_getElem?_getD, List.getElem?_eq_getElem hjn] at this
                    exact this
                  simp [lk, this, HY.out]
                rw [h3]
                exact HND.out.next HR5.out HB5.out
              case measure => simp [intOf]; omega
          · have ej : j = M := by omega
            have hKL : l = n.f2.map (lk at_) := by rw [HLL.out, ej, List.take_of_length_le (l := n.f2) (i := M) (by have := HM.out; omega)]
            have hpl : plR U ⟨n.f0, n.f1, l⟩ = fx1 site oc U at_ n := by rw [hKL, HFX.out]; exact plR_place1 HFRM.out
            have hne : n.f0 ≠ -1 → l ≠ [] := by
              intro h0 e
              rcases HFRM.out with ⟨h1, _⟩ | ⟨_, _, h1⟩
              · exact h0 h1
              · rw [hKL] at e; exact h1 (by simpa using e)
            have hsW' := HBW.out.size
            have hst2 := HST.out.on HBW.out
            have hA := (place_calls w.heap.size (fun j => j ≠ w.heap.size + 2 ∧ j ≠ w.heap.size + 1 ∧ j ≠ w.heap.size) (fun j => w1.heap.size < j) U ⟨n.f0, n.f1, l⟩ Av0 Av cv0 cv wr hst2.below.size hst2.row (Kd.R_lower HND.out.row (by omega)) (fun j hj => ⟨⟨by omega, by omega, by omega⟩, fun e => by have := Kd.R_lt HST.out.row _ e.symm; omega⟩) hne (by show l.length ≤ _; omega) (by have := HTL.out; simp at this; omega) HUK.out (fun j hj => ⟨by omega, by omega, by omega⟩)).mono (R' := fun e w2 => ∃ v', e = .returned (.tuple #[v', .int .i64 (fx1 site oc U at_ n).2]) ∧
                k60.R 60 w2 w.heap.size (fun j => j ≠ w.heap.size + 2 ∧ j ≠ w.heap.size + 1 ∧ j ≠ w.heap.size) v' (fx1 site oc U at_ n).1 ∧ wo.grownBy w2 (Value.slice Av0 U.length cv0).ownBlock ∧ (∃ v, w2.cell? ⟨w.heap.size + 2, k, none⟩ = some (.int .i64 v)) ∧ w2.frozen? ⟨w.heap.size + 2, k, none⟩ = false) (by
              rintro e w2 ⟨v', rfl, h2, h3, h4⟩
              rw [hpl] at h2 ⊢
              have h5 := World.grownBy.trans (grown_below' HBW.out) h3
              have h6 := (HST.out.arr.move (h5.block _ hab (fun e => (HST.out.row.1 _ e.symm).1 rfl))).at k (by rw [padd_len (by rw [HAT.out]; omega)]; exact hlt)
              exact ⟨v', rfl, h2, h5, ⟨_, h6.1⟩, h6.2⟩)
            dsimp only at hA
            obtain ⟨r, hr⟩ : ∃ r, r = fx1 site oc U at_ n := ⟨_, rfl⟩
            rw [← hr] at hA
            have HR := Lib.hid hr
            have bm0 : wr.cell? ⟨w1.heap.size, 0, none⟩ = some (.int .i64 n.f0) := (blk_cell HND.out.box 0).trans rfl
            have bm1 : wr.cell? ⟨w1.heap.size, 1, none⟩ = some (.int .i64 n.f1) := (blk_cell HND.out.box 1).trans rfl
            clear hr hpl hne hKL ej hst2
            go_wp2_with (go_at_call 72; refine hA.mono ?_; clear hA; rintro e w2 ⟨v2, rfl, hR2, hg2, ⟨vc, hvc⟩, hfc⟩; have HR2 := Lib.hid hR2; have HGG := Lib.hid hg2; clear hR2 hg2)
            go_roundw
            case rel =>
              refine ⟨k + 1, v2, rfl, by go_num, hlt, ?_⟩
              rw [HSUCC.out, ← HR.out]
              exact HST.out.put (by omega) (by omega) (by omega) HR2.out HGG.out HAT.out hlt
            case measure => simp [intOf]; omega
      · have hnb : (n.f0 != -1) = true := by simp [hlf]
        rw [hnb] at hI
        have hpos : 0 ≤ n.f0 := by rcases HFRM.out with h | h; exact absurd h.1 hlf; exact h.1
        by_cases hsite : n.f0 = site
        · have hoc := HO.out n HNM.out hpos hsite
          have HFX := Lib.hid (show fx1 site oc U at_ n = (U, lk at_ (rd n.f2 oc)) from by unfold fx1; rw [if_pos ⟨hpos, hsite⟩])
          obtain ⟨oN, rfl⟩ : ∃ oN : Nat, oc = oN := ⟨oc.toNat, by omega⟩
          have hoN : oN < n.f2.length := by omega
          obtain ⟨ad2, rfl, hkc⟩ := reads_at HG2.out (by intro e; rw [e] at hoN; simp at hoN)
          have e0 := hkc oN hoN
          obtain ⟨hc0, hc1⟩ := HKIDS.out _ (rd_mem hoc.1 hoc.2)
          have hrd : rd n.f2 (oN : Int) = n.f2.getD oN 0 := by unfold rd; rw [Int.toNat_natCast]
          rw [hrd] at hc0 hc1
          obtain ⟨cn, hcn⟩ : ∃ cn : Nat, n.f2.getD oN 0 = cn := ⟨(n.f2.getD oN 0).toNat, by omega⟩
          rw [hcn] at e0 hc1
          have hcN : cn < N := by omega
          have hcNi : (cn : Int) < (N : Int) := by omega
          have hcb : cn < 4000000000000 := by omega
          have hoM : oN < M := by have := HM.out; omega
          have hoMi : (oN : Int) < (M : Int) := by omega
          have hob : oN < 4000000000000 := by omega
          have p0 := HST.out.arr.at cn (by rw [padd_len (by rw [HAT.out]; omega)]; omega)
          rw [padd_get (by rw [HAT.out]; omega)] at p0
          have p1 := p0.1
          have p2 := HST.out.arr.at k (by rw [padd_len (by rw [HAT.out]; omega)]; omega)
          obtain ⟨y, hy⟩ : ∃ y, y = at_.getD cn 0 := ⟨_, rfl⟩
          rw [← hy] at p1
          have hyl : lk at_ (rd n.f2 (oN : Int)) = y := by rw [hrd, hcn, hy]; unfold lk; rw [Int.toNat_natCast]
          have HYL := Lib.hid hyl
          have hsb : (n.f0 == site) = true := by simp [hsite]
          have hke := HKIDS
          clear hoc hkc hrd hcn hy hyl p0 hnb hc0
          obtain ⟨z, hz⟩ : ∃ z, wr.cell? ⟨w.heap.size + 2, k, none⟩ = some (.int .i64 z) := ⟨_, p2.1⟩
          have hf := p2.2
          have HSITE := Lib.hid hsite
          clear p2 hsite hlf
          go_wp2_with (go_at_call 55; refine hI.mono ?_; clear hI; rintro e w1 ⟨rfl, hb1⟩; have HB1 := Lib.hid (HB0.out.trans (hb1.mono (by simp))); have hbx1 := (hb1.block wr.heap.size (by simp)).trans HBX0.out; have hlt1 := blk_lt hbx1; have x0 : w1.cell? ⟨wr.heap.size, 0, none⟩ = some (.int .i64 n.f0) := (blk_cell hbx1 0).trans rfl; have x1 : w1.cell? ⟨wr.heap.size, 1, none⟩ = some (.int .i64 n.f1) := (blk_cell hbx1 1).trans rfl; have x2 : w1.cell? ⟨wr.heap.size, 2, none⟩ = some (.slice (some ad2) M c2) := (blk_cell hbx1 2).trans rfl; have e0 := pw_cell_below HB1.out e0; have p1 := pw_cell_below HB1.out p1; have hz := pw_cell_below HB1.out hz; have hst1 := HST.out.on HB1.out; have hf := (hst1.arr.at k (by rw [padd_len (by rw [HAT.out]; omega)]; omega)).2; have HST1 := Lib.hid hst1; clear hb1 hbx1 hst1)
          go_roundw
          case rel =>
            refine ⟨k + 1, .slice Av0 U.length cv0, rfl, by go_num, hlt, ?_⟩
            rw [HSUCC.out, HFX.out, HYL.out]
            exact HST1.out.put (by omega) (by omega) (by omega) HST1.out.row (World.grownBy.refl _ _) HAT.out hlt
          case measure => simp [intOf]; omega
        · have hsb : (n.f0 == site) = false := by simp [hsite]
          have HFX := Lib.hid (show fx1 site oc U at_ n = place1 U at_ n from by unfold fx1; rw [if_neg (fun h => hsite h.2)])
          clear hnb hlf hsite
          go_wp2_with (go_at_call 55; refine hI.mono ?_; clear hI; rintro e w1 ⟨rfl, hb1⟩; have HB1 := Lib.hid (HB0.out.trans (hb1.mono (by simp))); have hbx1 := (hb1.block wr.heap.size (by simp)).trans HBX0.out; have hlt1 := blk_lt hbx1; have x0 : w1.cell? ⟨wr.heap.size, 0, none⟩ = some (.int .i64 n.f0) := (blk_cell hbx1 0).trans rfl; have x1 : w1.cell? ⟨wr.heap.size, 1, none⟩ = some (.int .i64 n.f1) := (blk_cell hbx1 1).trans rfl; have x2 : w1.cell? ⟨wr.heap.size, 2, none⟩ = some (.slice A2 M c2) := (blk_cell hbx1 2).trans rfl; have HBX1 := Lib.hid hbx1; clear hb1 hbx1)
          obtain ⟨wo, rfl⟩ : ∃ wo : World, wo = wr := ⟨_, rfl⟩
          go_loopw [12] (fun i W => ∃ (j : Nat) (v : Value), i = .int .i64 j ∧ j ≤ M ∧ NdSt w1 W n.f0 n.f1 ((n.f2.take j).map (lk at_)) v) (fun i _ => M - (intOf i).toNat)
          case atStart => exact ⟨0, _, rfl, Nat.zero_le _, NdSt.first w1 n.f0 n.f1⟩
          case round =>
            obtain ⟨j, v, rfl, hj, hnd⟩ := hrel
            obtain ⟨l, hl⟩ : ∃ l, l = (n.f2.take j).map (lk at_) := ⟨_, rfl⟩
            rw [← hl] at hnd
            have hll : l.length = j := by rw [hl]; simp; have := HM.out; omega
            obtain ⟨Av, cv, rfl⟩ := Kd.R_slice hnd.row
            have hbW := hnd.below
            have hsW := hbW.size
            have hmW := blk_lt hnd.box
            have bm2 : wr.cell? ⟨w1.heap.size, 2, none⟩ = some (.slice Av l.length cv) := (blk_cell hnd.box 2).trans rfl
            have fm2 := blk_frozen hnd.box 2
            replace x2 := pw_cell_below hbW x2
            have HND := Lib.hid hnd
            have HBW := Lib.hid (HB1.out.trans (hbW.mono HB1.out.size))
            have HLL := Lib.hid hl
            have HLK := Lib.hid hll
            have hlb : l.length ≤ 1073741824 := by omega
            have hjb : j ≤ 1073741824 := by omega
            clear hl hll hnd hbW
            by_cases hjl : j < M
            · have hjn : j < n.f2.length := by have := HM.out; omega
              obtain ⟨ad2, rfl, hkc⟩ := reads_at (Kd.C_below HG2.out HBW.out) (by intro e; rw [e] at hjn; simp at hjn)
              have e0 := hkc j hjn
              have hcm : n.f2.getD j 0 ∈ n.f2 := by rw [List.getD_eq_getElem?_getD, List.getElem?_eq_getElem hjn]; exact List.getElem_mem hjn
              obtain ⟨hc0, hc1⟩ := HKIDS.out _ hcm
              obtain ⟨cn, hcn⟩ : ∃ cn : Nat, n.f2.getD j 0 = cn := ⟨(n.f2.getD j 0).toNat, by omega⟩
              rw [hcn] at e0 hc1
              have hcN : cn < N := by omega
              have hcNi : (cn : Int) < (N : Int) := by omega
              have hcb : cn < 4000000000000 := by omega
              have hji : (j : Int) < (M : Int) := by omega
              have e1 := (HST.out.arr.move (HBW.out.block _ hab)).at cn (by rw [padd_len (by rw [HAT.out]; omega)]; omega)
              rw [padd_get (by rw [HAT.out]; omega)] at e1
              have e2 := e1.1
              obtain ⟨y, hy⟩ : ∃ y, y = at_.getD cn 0 := ⟨_, rfl⟩
              rw [← hy] at e2
              have HY := Lib.hid hy
              have HCN := Lib.hid hcn
              have HR2 := Lib.hid HND.out.row
              clear e1 hcm hcn hkc hy
              go_wp2
              go_region_law (((refine Kd.R_append_step (Kd.int .i64) (w0 := wr) (W := wr.drew) (w1.heap.size + 1) (by rfl) (.tmp 61) (.tmp 70) 22 3 (.int .i64 0) 8 rfl Tryd.underlying22 info3 rfl (by decide) (by decide) (.slice Av l.length cv) l y [.int .i64 y] (fun k => w1.heap.size < k) (fun _ => False) (by rfl) (by rfl) rfl (fun _ h => h.elim) (fun k hk => Nat.lt_of_lt_of_le hmW hk) HR2.out (Below.refl _ _).drew hmW (by omega) ?_; intro v5 w5 hR5 hB5 hg5 hat5; obtain ⟨A5, c5, rfl⟩ := Kd.R_slice hR5; have hbx5 := (hB5.block w1.heap.size (Nat.lt_succ_self _)).trans HND.out.box; have q1 := blk_cell hbx5 2; have q2 := blk_frozen hbx5 2)))
              all_goals
                rw [List.length_append, List.length_singleton] at hR5
                have HR5 := Lib.hid hR5
                have HB5 := Lib.hid hB5
                clear hR5 hB5 hg5 hat5 hbx5
                go_wp2
                go_roundw
                case rel =>
                  refine ⟨j + 1, .slice A5 (l.length + 1) c5, by go_num, hjl, ?_⟩
                  have h3 : (n.f2.take (j + 1)).map (lk at_) = l ++ [y] := by
                    rw [List.take_succ_eq_append_getElem hjn, List.map_append, ← HLL.out]
                    congr 1
                    have : n.f2[j] = (cn : Int) := by
                      have := HCN.out
                      rw [List.getD_eq_getElem?_getD, List.getElem?_eq_getElem hjn] at this
                      exact this
                    simp [lk, this, HY.out]
                  rw [h3]
                  exact HND.out.next HR5.out HB5.out
                case measure => simp [intOf]; omega
            · have ej : j = M := by omega
              have hKL : l = n.f2.map (lk at_) := by rw [HLL.out, ej, List.take_of_length_le (l := n.f2) (i := M) (by have := HM.out; omega)]
              have hpl : plR U ⟨n.f0, n.f1, l⟩ = fx1 site oc U at_ n := by rw [hKL, HFX.out]; exact plR_place1 HFRM.out
              have hne : n.f0 ≠ -1 → l ≠ [] := by
                intro h0 e
                rcases HFRM.out with ⟨h1, _⟩ | ⟨_, _, h1⟩
                · exact h0 h1
                · rw [hKL] at e; exact h1 (by simpa using e)
              have hsW' := HBW.out.size
              have hst2 := HST.out.on HBW.out
              have hA := (place_calls w.heap.size (fun j => j ≠ w.heap.size + 2 ∧ j ≠ w.heap.size + 1 ∧ j ≠ w.heap.size) (fun j => w1.heap.size < j) U ⟨n.f0, n.f1, l⟩ Av0 Av cv0 cv wr hst2.below.size hst2.row (Kd.R_lower HND.out.row (by omega)) (fun j hj => ⟨⟨by omega, by omega, by omega⟩, fun e => by have := Kd.R_lt HST.out.row _ e.symm; omega⟩) hne (by show l.length ≤ _; omega) (by have := HTL.out; simp at this; omega) HUK.out (fun j hj => ⟨by omega, by omega, by omega⟩)).mono (R' := fun e w2 => ∃ v', e = .returned (.tuple #[v', .int .i64 (fx1 site oc U at_ n).2]) ∧
                  k60.R 60 w2 w.heap.size (fun j => j ≠ w.heap.size + 2 ∧ j ≠ w.heap.size + 1 ∧ j ≠ w.heap.size) v' (fx1 site oc U at_ n).1 ∧ wo.grownBy w2 (Value.slice Av0 U.length cv0).ownBlock ∧ (∃ v, w2.cell? ⟨w.heap.size + 2, k, none⟩ = some (.int .i64 v)) ∧ w2.frozen? ⟨w.heap.size + 2, k, none⟩ = false) (by
                rintro e w2 ⟨v', rfl, h2, h3, h4⟩
                rw [hpl] at h2 ⊢
                have h5 := World.grownBy.trans (grown_below' HBW.out) h3
                have h6 := (HST.out.arr.move (h5.block _ hab (fun e => (HST.out.row.1 _ e.symm).1 rfl))).at k (by rw [padd_len (by rw [HAT.out]; omega)]; exact hlt)
                exact ⟨v', rfl, h2, h5, ⟨_, h6.1⟩, h6.2⟩)
              dsimp only at hA
              obtain ⟨r, hr⟩ : ∃ r, r = fx1 site oc U at_ n := ⟨_, rfl⟩
              rw [← hr] at hA
              have HR := Lib.hid hr
              have bm0 : wr.cell? ⟨w1.heap.size, 0, none⟩ = some (.int .i64 n.f0) := (blk_cell HND.out.box 0).trans rfl
              have bm1 : wr.cell? ⟨w1.heap.size, 1, none⟩ = some (.int .i64 n.f1) := (blk_cell HND.out.box 1).trans rfl
              clear hr hpl hne hKL ej hst2
              go_wp2_with (go_at_call 72; refine hA.mono ?_; clear hA; rintro e w2 ⟨v2, rfl, hR2, hg2, ⟨vc, hvc⟩, hfc⟩; have HR2 := Lib.hid hR2; have HGG := Lib.hid hg2; clear hR2 hg2)
              go_roundw
              case rel =>
                refine ⟨k + 1, v2, rfl, by go_num, hlt, ?_⟩
                rw [HSUCC.out, ← HR.out]
                exact HST.out.put (by omega) (by omega) (by omega) HR2.out HGG.out HAT.out hlt
              case measure => simp [intOf]; omega
    · have hke : k = N := by omega
      have htk : nodes.take k = nodes := List.take_of_length_le (by have := HN.out; omega)
      have hU1 := HUE.out
      have ha1 := HAE.out
      rw [htk] at hU1 ha1
      obtain ⟨R, hR⟩ : ∃ R : Nat, lk (fx site oc [] [] nodes).2 ((nodes.length - 1 : Nat) : Int) = (R : Int) ∧ R < U.length := by
        have h1 := HT.out.at_lt _ (lk_mem (at_ := at_) (c := ((nodes.length - 1 : Nat) : Int)) (by omega) (by rw [HAT.out]; have := HN.out; omega))
        rw [ha1] at h1
        exact ⟨(lk (fx site oc [] [] nodes).2 ((nodes.length - 1 : Nat) : Int)).toNat, by omega, by omega⟩
      have p0 := (HST.out.arr.at (N - 1) (by rw [padd_len (by rw [HAT.out]; omega)]; omega)).1
      rw [padd_get (by rw [HAT.out]; omega)] at p0
      have hlR : at_.getD (N - 1) 0 = (R : Int) := by
        have := hR.1
        unfold lk at this
        rw [Int.toNat_natCast, ← ha1, ← HN.out] at this
        exact this
      rw [hlR] at p0
      have hNb : N < 4000000000000 := by omega
      have e1 : (N : Int) - 1 = ((N - 1 : Nat) : Int) := by omega
      have hN1 : N - 1 < N := by omega
      clear b0 b00
      have hcu := (Kd.R_reads' HST.out.row).2.1
      have HCU := Lib.hid (Kd.R_reads' HST.out.row).2.2
      have HF1 := Lib.hid hU1
      have HF2 := Lib.hid hR
      clear hR hU1 ha1 htk hlR hke
      go_wp2_with (go_at_call 73; refine (order_calls U R Av0 cv0 wr HCU.out hcu HT.out.down HF2.out.2 HUK.out (by have := HTL.out; simp at this; omega)).mono ?_; rintro e w3 ⟨hb3, vo, rfl, hR3⟩; obtain ⟨A3, c3, rfl⟩ := Kd.R_slice hR3; have hbx3 := (hb3.block _ (blk_lt HST.out.res)).trans HST.out.res; have b0 := blk_cell hbx3 0; have f0 := blk_frozen hbx3 0; have HBX3 := Lib.hid hbx3; have HB3 := Lib.hid hb3; have HR3 := Lib.hid hR3; clear hbx3 hb3 hR3)
      have hb4 := blk_set HBX3.out 0 (.slice A3 (expo U (R : Nat)).length c3)
      have q0 := (blk_cell hb4 0).trans rfl
      have hl2 := blk_lt HST.out.res
      refine bodyPost_ret (v := .agg #[.slice A3 (expo U (R : Nat)).length c3]) (by simp [results, Tryd.f59, go_sem, q0]) rfl ⟨(HST.out.below.trans (HB3.out.mono hsz)).setCell (p := ⟨w.heap.size + 1, 0, none⟩) (by show w.heap.size ≤ w.heap.size + 1; omega) _, _, rfl, ?_⟩
      have hRe := HF2.out.1
      rw [← HN.out] at hRe
      rw [hRe, ← HF1.out]
      exact Kd.R_lower (Kd.R_mono (Kd.R_far (p := ⟨w.heap.size + 1, 0, none⟩) (Kd.R_bound HR3.out) (fun q hq => by show q ≠ w.heap.size + 1; have := hq.2.1; omega) _) (fun _ _ => trivial)) hsz
end Go.Proofs.YtopbjginpmdebaaDoor.K
-- diagram.Restrict
namespace Go.Proofs.YtopbjginpmdebaaDoor.K
open Go.RowKit Go.Maps Go.Proofs.YtopbjginpmdebaaDoorW.PrintWords Go.Proofs.YtopbjginpmdebaaDoorW.PrintLast Go.Proofs.YtopbjginpmdebaaDoorW.PrintMore
set_option linter.unusedVariables false
set_option linter.unusedSimpArgs false
/-- a node's outcome is one of the site's -/
def oc1 (site oc : Int) (n : Nd) : Bool := !(decide (0 ≤ n.f0 ∧ n.f0 = site)) || decide (0 ≤ oc ∧ oc < (n.f2.length : Int))
def ocB (site oc : Int) (nodes : List Nd) : Bool := nodes.all (oc1 site oc)
theorem ocB_iff {site oc : Int} {nodes : List Nd} : ocB site oc nodes = true ↔ OcOk site oc nodes := by
  unfold ocB OcOk oc1
  rw [List.all_eq_true]
  constructor
  · intro h n hn h0 h1
    have := h n hn
    simp only [Bool.or_eq_true, Bool.not_eq_true', decide_eq_false_iff_not, decide_eq_true_eq] at this
    rcases this with h2 | h2
    · exact absurd ⟨h0, h1⟩ h2
    · exact h2
  · intro h n hn
    simp only [Bool.or_eq_true, Bool.not_eq_true', decide_eq_false_iff_not, decide_eq_true_eq]
    by_cases h2 : 0 ≤ n.f0 ∧ n.f0 = site
    · exact .inr (h n hn h2.1 h2.2)
    · exact .inl h2
/-- what Restrict returns -/
def fxR (site oc : Int) (nodes : List Nd) : List Nd := expo (fx site oc [] [] nodes).1 (lk (fx site oc [] [] nodes).2 ((nodes.length - 1 : Nat) : Int))
def rsE (site oc : Int) (nodes : List Nd) : Int := if valE nodes = 0 then (if ocB site oc nodes = true then 0 else 1) else valE nodes
def rsL (site oc : Int) (nodes : List Nd) : List Nd := if valE nodes = 0 then (if ocB site oc nodes = true then fxR site oc nodes else []) else []
/-- between two nodes: a table, the places at block b = w's size -/
structure TbSt (w W : World) (base t mb : Nat) (ok : Nat → Prop) (U : List Nd) (at_ : List Int) (N : Nat) : Prop where
  tab : TabS W base t mb (fun j => ok j ∧ j ≠ w.heap.size) U
  touch : Touch w W ok t mb
  arr : Arr W w.heap.size (padd at_ N)
theorem TbSt.arr2 {w W W2 : World} {base t mb N : Nat} {ok : Nat → Prop} {U : List Nd} {at_ : List Int} (h : TbSt w W base t mb ok U at_ N) (ht : t < w.heap.size) (hmb : mb < w.heap.size) (hTc : Touch W W2 (fun j => ok j ∧ j ≠ w.heap.size) t mb) : Arr W2 w.heap.size (padd at_ N) :=
  h.arr.move (hTc.same _ h.arr.lt (fun e => e.2 rfl) (by omega) (by omega))
theorem TbSt.next {w W W2 : World} {base t mb N k : Nat} {ok : Nat → Prop} {U U2 : List Nd} {at_ : List Int} {z : Int} (h : TbSt w W base t mb ok U at_ N) (ht : t < w.heap.size) (hmb : mb < w.heap.size) (hTc : Touch W W2 (fun j => ok j ∧ j ≠ w.heap.size) t mb)
    (hT : TabS W2 base t mb (fun j => ok j ∧ j ≠ w.heap.size) U2) (hat : at_.length = k) (hk : k < N) : TbSt w (W2.setCell ⟨w.heap.size, k, none⟩ (.int .i64 z)) base t mb ok U2 (at_ ++ [z]) N := by
  have ha := h.arr2 ht hmb hTc
  have hto := h.touch.trans (hTc.mono (fun _ e => e.1))
  refine ⟨?_, ⟨hto.os, hto.tape, hto.output, Nat.le_trans hto.size (by simp [World.setCell]), fun j hj ho hjt hm => ?_⟩, ?_⟩
  · refine hT.move fun j hj hjk => Below.heap_setCell W2 _ _ j ?_
    rcases hjk with hjk | hjk | hjk
    · exact hjk.2
    · show j ≠ w.heap.size; omega
    · show j ≠ w.heap.size; omega
  · exact (Below.heap_setCell W2 ⟨w.heap.size, k, none⟩ _ j (by show j ≠ w.heap.size; omega)).trans (hto.same j hj ho hjt hm)
  · have := ha.put k z
    have e := padd_set (l := at_) (n := N) z (by rw [hat]; exact hk)
    rw [hat] at e
    rw [e] at this
    exact this
theorem TbSt.first {w : World} {base t mb : Nat} {ok : Nat → Prop} {U : List Nd} (hT : TabS w base t mb ok U) (N : Nat) (hN : N ≤ 9223372036854775807) : TbSt w (w.alloc (.cells (madeCells #[.int .i64 0] N) 3)) base t mb ok U [] N := by
  have hb := (Below.refl w.heap.size w).alloc (Nat.le_refl _) (.cells (madeCells #[.int .i64 0] N) 3)
  refine ⟨?_, Touch.of_below hb _ _ _, ?_⟩
  · obtain ⟨v, h1, h2, h3⟩ := hT
    refine ⟨v, (hb.block _ (blk_lt h1)).trans h1, ?_, h3.move (hb.block _ h3.lt)⟩
    exact Kd.R_step (Kd.R_mono (Kd.R_bound h2) (fun k hk => ⟨hk.1, by have := hk.2.2.1; omega⟩)) (fun k _ hk => hb.block k hk)
  · have := Arr.made w N hN
    simpa [padd] using this
theorem take_mem_oc {site oc : Int} {nodes : List Nd} {k : Nat} (hk : k < nodes.length) (h : OcOk site oc (nodes.take k)) (h1 : 0 ≤ (nth nodes (k : Int)).f0 → (nth nodes (k : Int)).f0 = site → 0 ≤ oc ∧ oc < ((nth nodes (k : Int)).f2.length : Int)) : OcOk site oc (nodes.take (k + 1)) := by
  intro n hn
  rw [take_snoc' hk] at hn
  rcases List.mem_append.1 hn with hn | hn
  · exact h n hn
  · rw [List.mem_singleton.1 hn]; exact h1
theorem fit_take {nodes : List Nd} (h : Fit nodes) (k : Nat) : Fit (nodes.take k) := ⟨down_take h.1 k, fun n hn => h.2 n (List.mem_of_mem_take hn)⟩
theorem fx_tbl' {nodes : List Nd} {site oc : Int} (hf : Fit nodes) {k : Nat} (hk : k ≤ nodes.length) (ho : OcOk site oc (nodes.take k)) : Tbl (fx site oc [] [] (nodes.take k)).1 (fx site oc [] [] (nodes.take k)).2 ∧ (fx site oc [] [] (nodes.take k)).1.length ≤ k := by
  have hl : (nodes.take k).length = k := by simp; omega
  have := fx_tbl (site := site) (oc := oc) (fit_take hf k) ho tbl_nil k (by omega)
  rw [List.take_take, Nat.min_self] at this
  exact ⟨this.1, by simpa using this.2.1⟩
end Go.Proofs.YtopbjginpmdebaaDoor.K
-- diagram.Branch: what its loops keep
namespace Go.Proofs.YtopbjginpmdebaaDoor.K
open Go.RowKit Go.Maps Go.Proofs.YtopbjginpmdebaaDoorW.PrintWords Go.Proofs.YtopbjginpmdebaaDoorW.PrintLast Go.Proofs.YtopbjginpmdebaaDoorW.PrintMore
set_option linter.unusedVariables false
set_option linter.unusedSimpArgs false
/-- a table at block t, its index at block mb, a map at block mp beside it, a row of numbers at v -/
structure BrTb (w W : World) (t mb mp : Nat) (s : List Nd × List Int) (v : Value) : Prop where
  tab : TabS W mb t mb (fun j => okNew mb t mb j ∧ j ≠ mp ∧ some j ≠ v.ownBlock) s.1
  row : (Kd.int .i64).R 3 W (mp + 1) (fun j => mp < j) v s.2
  below : Below w.heap.size w W
  res : W.heap[w.heap.size]? = some (.cells #[.slice none 0 0] 31 (0, 0))
theorem BrTb.on {w W W2 : World} {t mb mp : Nat} {s : List Nd × List Int} {v : Value} (h : BrTb w W t mb mp s v) (hb : Below W.heap.size W W2) : BrTb w W2 t mb mp s v :=
  ⟨h.tab.below hb, ints_move h.row (fun k hk => hb.block k (Kd.R_lt h.row k hk)), h.below.trans (hb.mono h.below.size), (hb.block _ (blk_lt h.res)).trans h.res⟩
/-- the map alone has grown -/
theorem BrTb.grown {w W W2 : World} {t mb mp : Nat} {s : List Nd × List Int} {v : Value} (h : BrTb w W t mb mp s v) (hw : w.heap.size < mb) (ht : mb < t) (hm : t < mp) (hg : W.grownBy W2 (some mp)) : BrTb w W2 t mb mp s v := by
  have hmv : ∀ k, k < W.heap.size → k ≠ mp → W2.heap[k]? = W.heap[k]? := fun k hk hne => hg.block k hk (fun e => hne (by injection e))
  refine ⟨h.tab.move fun k hk hq => hmv k hk ?_, ints_move h.row (fun k hk => hmv k (Kd.R_lt h.row k hk) (fun e => ?_)), ?_, (hmv _ (blk_lt h.res) (by omega)).trans h.res⟩
  · rcases hq with hq | hq | hq
    · exact hq.2.1
    · omega
    · omega
  · have := h.row.1 k hk
    omega
  · exact h.below.trans ⟨hg.os, hg.tape, hg.output, hg.size, fun j hj => hmv j (Nat.lt_of_lt_of_le hj h.below.size) (by omega)⟩
theorem BrTb.okT {w W : World} {t mb mp : Nat} {s : List Nd × List Int} {v : Value} (h : BrTb w W t mb mp s v) (ht : mb < t) (hm : t < mp) (hmp : mp < W.heap.size) : OkT mb t mb (fun j => okNew mb t mb j ∧ j ≠ mp ∧ some j ≠ v.ownBlock) W :=
  ⟨fun j hj => hj.1, fun j hj => ⟨⟨by omega, by omega, by omega⟩, by omega, fun e => by have := Kd.R_lt h.row j e.symm; omega⟩, by omega, Nat.le_refl _⟩
/-- a step on the table -/
theorem BrTb.step {w W W2 : World} {t mb mp : Nat} {s : List Nd × List Int} {U : List Nd} {v : Value} (h : BrTb w W t mb mp s v) (hw : w.heap.size < mb) (ht : mb < t) (hm : t < mp) (hT : TabS W2 mb t mb (fun j => okNew mb t mb j ∧ j ≠ mp ∧ some j ≠ v.ownBlock) U) (hTc : Touch W W2 (fun j => okNew mb t mb j ∧ j ≠ mp ∧ some j ≠ v.ownBlock) t mb) : BrTb w W2 t mb mp (U, s.2) v := by
  refine ⟨hT, ints_move h.row (fun k hk => hTc.same k (Kd.R_lt h.row k hk) (fun e => e.2.2 hk.symm) ?_ ?_), ?_, (hTc.same _ (blk_lt h.res) (fun e => by have := e.1.1; omega) (by omega) (by omega)).trans h.res⟩
  · have := h.row.1 k hk; omega
  · have := h.row.1 k hk; omega
  · exact h.below.trans ⟨hTc.os, hTc.tape, hTc.output, hTc.size, fun j hj => hTc.same j (Nat.lt_of_lt_of_le hj h.below.size) (fun e => by have := e.1.1; omega) (by omega) (by omega)⟩
/-- the map is left alone by it -/
theorem BrTb.map_step {W W2 : World} {t mb mp m : Nat} {g : PM} {v : Value} (hg : IMap W mp m g) (ht : mb < t) (hm : t < mp) (hTc : Touch W W2 (fun j => okNew mb t mb j ∧ j ≠ mp ∧ some j ≠ v.ownBlock) t mb) : IMap W2 mp m g :=
  hg.move (hTc.same mp hg.lt (fun e => e.2.1 rfl) (by omega) (by omega))
/-- a number more in the row -/
theorem BrTb.kid {w W W5 : World} {t mb mp : Nat} {s : List Nd × List Int} {z : Int} {v v5 : Value} (h : BrTb w W t mb mp s v) (hw : w.heap.size < mb) (ht : mb < t) (hm : t < mp)
    (hR : (Kd.int .i64).R 3 W5 (mp + 1) (fun k => mp < k) v5 (s.2 ++ [z])) (hg : W.grownBy W5 v.ownBlock) (hat : v5.ownBlock = v.ownBlock ∨ ∃ c, v5.ownBlock = some c ∧ W.heap.size ≤ c) : BrTb w W5 t mb mp (s.1, s.2 ++ [z]) v5 := by
  have hv : ∀ q, v.ownBlock = some q → mp < q := h.row.1
  have hmv : ∀ k, k < W.heap.size → k ≤ mp → W5.heap[k]? = W.heap[k]? := fun k hk hne => hg.block k hk (fun e => by have := hv k e.symm; omega)
  refine ⟨?_, hR, ?_, (hmv _ (blk_lt h.res) (by omega)).trans h.res⟩
  · obtain ⟨x, h1, h2, h3⟩ := h.tab
    refine ⟨x, (hmv t (blk_lt h1) (by omega)).trans h1, ?_, h3.move (hmv mb h3.lt (by omega))⟩
    refine Kd.R_mono (Kd.R_grown (Kd.R_bound h2) hg (fun j hj => hj.1.2.2)) (fun j hj => ⟨hj.1.1, hj.1.2.1, fun e => ?_⟩)
    rcases hat with h4 | ⟨c, h4, h5⟩
    · exact hj.1.2.2 (e.trans h4)
    · rw [h4] at e; injection e with e; have := hj.2.2.1; omega
  · exact h.below.trans ⟨hg.os, hg.tape, hg.output, hg.size, fun j hj => hg.block j (Nat.lt_of_lt_of_le hj h.below.size) (fun e => by have := hv j e.symm; have := h.below.size; omega)⟩
theorem map_kid {W W5 : World} {mp m : Nat} {g : PM} {v : Value} (hg : IMap W mp m g) (hv : ∀ q, v.ownBlock = some q → mp < q) (h : W.grownBy W5 v.ownBlock) : IMap W5 mp m g :=
  hg.move (h.block mp hg.lt (fun e => by have := hv mp e.symm; omega))
/-- the start -/
theorem BrTb.first {w W : World} {mb : Nat} (hT : TabS W mb (mb + 1) mb (okNew mb (mb + 1) mb) []) (hs : W.heap.size = mb + 2) (hb : Below w.heap.size w W) (hr : W.heap[w.heap.size]? = some (.cells #[.slice none 0 0] 31 (0, 0))) : BrTb w (W.alloc (.map #[] 0)) (mb + 1) mb (mb + 2) ([], []) (.slice none 0 0) := by
  have h1 : Below W.heap.size W (W.alloc (.map #[] 0)) := (Below.refl _ W).alloc (Nat.le_refl _) _
  have h2 := hT.below h1
  obtain ⟨x, g1, g2, g3⟩ := h2
  obtain ⟨y, k1, k2, k3⟩ := hT
  refine ⟨⟨y, (h1.block _ (blk_lt k1)).trans k1, ?_, k3.move (h1.block _ k3.lt)⟩, Kd.R_nil _ _ _ _ _, hb.trans (h1.mono hb.size), (h1.block _ (blk_lt hr)).trans hr⟩
  exact Kd.R_step (Kd.R_mono (Kd.R_bound k2) (fun k hk => ⟨hk.1, by have := hk.2.2.1; omega, fun e => by cases e⟩)) (fun k _ hk => h1.block k hk)
end Go.Proofs.YtopbjginpmdebaaDoor.K
-- Branch's result is canonical and small
namespace Go.Proofs.YtopbjginpmdebaaDoor.K
open Go.RowKit Go.Maps Go.Proofs.YtopbjginpmdebaaDoorW.PrintWords Go.Proofs.YtopbjginpmdebaaDoorW.PrintLast Go.Proofs.YtopbjginpmdebaaDoorW.PrintMore
set_option linter.unusedVariables false
set_option linter.unusedSimpArgs false
/-- the shape of children that Branch accepts -/
theorem br_shape {site : Int} {ds : List S31} (hg : ∀ d ∈ ds, grB d.f0 = true) (h1 : (shK ds).isSome = true) (h2 : lowB site (flatD ds) = true) (hs : 0 ≤ site) : ∃ sh : Int → Nat, sh site = ds.length ∧ ∀ d ∈ ds, GrS sh d.f0 ∧ d.f0 ≠ [] ∧ AllF (fun x => site < x) d.f0 := by
  obtain ⟨sh, hsh⟩ := shK_sh h1 hg
  have hlow : ∀ d ∈ ds, ∀ n ∈ d.f0, 0 ≤ n.f0 → site < n.f0 := by
    intro d hd n hn h0
    have := of_decide_eq_true (List.all_eq_true.1 h2 n (mem_flatD hd hn))
    omega
  refine ⟨fun s => if s = site then ds.length else sh s, by simp, fun d hd => ⟨⟨fun i hi => ?_⟩, gr_ne (hg d hd), fun n hn h0 => hlow d hd n hn h0⟩⟩
  rcases (hsh d hd).nd i hi with h3 | h3
  · exact .inl h3
  · refine .inr ⟨h3.1, ?_⟩
    have hm : nth d.f0 (i : Int) ∈ d.f0 := by rw [nth_lt hi]; exact List.getElem_mem hi
    have := hlow d hd _ hm (br_iff.1 h3.1).1.1
    show (nth d.f0 (i : Int)).f2.length = if (nth d.f0 (i : Int)).f0 = site then ds.length else sh (nth d.f0 (i : Int)).f0
    rw [if_neg (by omega)]; exact h3.2
theorem brL_ok {site : Int} {ds : List S31} (h : brE site ds = 0) : ∃ sh : Int → Nat, sh site = ds.length ∧ (0 ≤ site ∧ site < 64) ∧ 1 ≤ ds.length ∧ ds.length ≤ 16 ∧ (∀ d ∈ ds, valE d.f0 = 0) ∧ (∀ d ∈ ds, GrS sh d.f0 ∧ d.f0 ≠ [] ∧ AllF (fun x => site < x) d.f0) ∧ brL site ds = jn site ds ∧ (jn site ds).length ≤ 20000 := by
  have hL : brL site ds = jn site ds := by unfold brL; rw [if_pos h]
  unfold brE at h
  by_cases hr : rngB site ds.length = true
  · obtain ⟨q0, q1, q2, q3⟩ : 0 ≤ site ∧ site < 64 ∧ 1 ≤ ds.length ∧ ds.length ≤ 16 := of_decide_eq_true hr
    rw [if_pos hr] at h
    by_cases h0 : vdE ds = 0
    · rw [if_pos h0] at h
      by_cases h1 : (shK ds).isSome = true
      · rw [if_pos h1] at h
        by_cases h2 : lowB site (flatD ds) = true
        · rw [if_pos h2] at h
          by_cases h3 : (jn site ds).length ≤ 20000
          · obtain ⟨sh, e1, e2⟩ := br_shape (fun d hd => (val_ok (vdE_all h0 d hd)).1) h1 h2 q0
            exact ⟨sh, e1, ⟨q0, q1⟩, q2, q3, vdE_all h0, e2, hL, h3⟩
          · rw [if_neg h3] at h; cases h
        · rw [if_neg h2] at h; cases h
      · rw [if_neg h1] at h; cases h
    · rw [if_neg h0] at h; exact absurd h h0
  · rw [if_neg hr] at h; cases h
theorem brL_small (site : Int) (ds : List S31) : (brL site ds).length ≤ 20000 ∧ ∀ x ∈ brL site ds, x.f2.length ≤ 16 := by
  by_cases h : brE site ds = 0
  · obtain ⟨sh, e1, e2, e3, e4, e5, e6, e7, e8⟩ := brL_ok h
    have hj := jn_ok e6 e2 (by intro e; rw [e] at e3; simp at e3) e1.symm e4
    rw [e7]
    exact ⟨e8, gr_kids hj.2.1⟩
  · have hL : brL site ds = [] := by unfold brL; rw [if_neg h]
    rw [hL]; simp
/-- Branch accepts children of one shape -/
theorem brE_of {sh : Int → Nat} {site : Int} {ds : List S31} (hs : 0 ≤ site ∧ site < 64) (hl : ds.length = sh site) (h1 : 1 ≤ ds.length) (h16 : ds.length ≤ 16) (hd : ∀ d ∈ ds, valE d.f0 = 0 ∧ GrS sh d.f0 ∧ AllF (fun x => site < x) d.f0) (hj : sumL ds + 1 ≤ 20000) : brE site ds = 0 ∧ brL site ds = jn site ds := by
  have hg : ∀ d ∈ ds, grB d.f0 = true := fun d hd' => (val_ok (hd d hd').1).1
  have hr : rngB site ds.length = true := decide_eq_true ⟨hs.1, hs.2, h1, h16⟩
  have h0 : vdE ds = 0 := vdE_of fun d hd' => (hd d hd').1
  have hfl : ∀ n ∈ flatD ds, 0 ≤ n.f0 → n.f2.length = sh n.f0 ∧ site < n.f0 := by
    intro n hn h0
    obtain ⟨l, hl, hn⟩ := List.mem_flatten.1 hn
    obtain ⟨d, hd', rfl⟩ := List.mem_map.1 hl
    obtain ⟨i, hi, rfl⟩ := mem_nth hn
    refine ⟨?_, (hd d hd').2.2 _ hn h0⟩
    rcases (hd d hd').2.1.nd i hi with h1 | h1
    · have := (lf_iff.1 h1).1; omega
    · exact h1.2
  have hsh : (shK ds).isSome = true := by
    unfold shK
    rw [shp_iff]
    refine ⟨(fun n _ _ v hv => by cases hv), List.pairwise_iff_getElem.2 fun i j hi hj hij h3 h4 => ?_⟩
    rw [(hfl _ (List.getElem_mem hi) h3).1, (hfl _ (List.getElem_mem hj) (by omega)).1, h4]
  have hlow : lowB site (flatD ds) = true := by
    refine List.all_eq_true.2 fun n hn => decide_eq_true ?_
    by_cases h0 : n.f0 < 0
    · exact .inl h0
    · exact .inr (hfl n hn (by omega)).2
  have hjn := jn_ok (fun d hd' => ⟨(hd d hd').2.1, gr_ne (hg d hd'), (hd d hd').2.2⟩) hs (by intro e; rw [e] at h1; simp at h1) hl h16
  have he : brE site ds = 0 := by
    unfold brE
    rw [if_pos hr, if_pos h0, if_pos hsh, if_pos hlow, if_pos (by omega)]
  exact ⟨he, by unfold brL; rw [if_pos he]⟩
theorem brE_cases (site : Int) (ds : List S31) (hr : rngB site ds.length = true) (h0 : vdE ds = 0) (h1 : (shK ds).isSome = true) (h2 : lowB site (flatD ds) = true) : ((jn site ds).length ≤ 20000 → brE site ds = 0 ∧ brL site ds = jn site ds) ∧ (¬ (jn site ds).length ≤ 20000 → brE site ds = 9 ∧ brL site ds = []) := by
  have he : brE site ds = if (jn site ds).length ≤ 20000 then 0 else 9 := by
    unfold brE
    rw [if_pos hr, if_pos h0, if_pos h1, if_pos h2]
  refine ⟨fun h => ?_, fun h => ?_⟩
  · rw [if_pos h] at he
    exact ⟨he, by unfold brL; rw [if_pos he]⟩
  · rw [if_neg h] at he
    exact ⟨he, by unfold brL; rw [he, if_neg (by decide)]⟩
end Go.Proofs.YtopbjginpmdebaaDoor.K
