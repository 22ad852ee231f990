-- By a program of this session
import Derived.Test.YtggelekooacmnaaDoorC0
import Derived.Test.YtggelekooacmnaaDoorC8
import Derived.Test.YtggelekooacmnaaDoorC12
namespace Go.Proofs.YtggelekooacmnaaDoor.R
open Go.RowKit Go.Proofs.YtggelekooacmnaaDoorW.PrintWords Go.Proofs.YtggelekooacmnaaDoorW.PrintLast Go.Proofs.YtggelekooacmnaaDoorW.PrintMore
attribute [local go_sem] max2_int min2_int max_two min_two max_three min_three max_four min_four   -- for this text's walks alone
set_option linter.unusedVariables false
set_option linter.unusedSimpArgs false

/-! ### exactpplmake_Src_Type: function 15 -/
mutual
def exactpplmake_Src_Type.j0 : Nat → Int → Int → List Int → Int → Int → Option (Int × Int × Int × Int × (List (S24)) × Int × Int)
 | 0, _, _, _, _, _ => none
 | k + 1, x1, x5, x1000, x1001, x1002 => if x5 = 0 then (some (1, 0, 0, 0, ([] : List (S24)), x1001, x1002)) else (if x5 = 1 then (exactpplmake_Src_Type.j1 k x1 x5 (x5 == 1) x1000 x1001 x1002) else (exactpplmake_Src_Type.j1 k x1 x5 (x5 == 2) x1000 x1001 x1002))
def exactpplmake_Src_Type.j1 : Nat → Int → Int → Bool → List Int → Int → Int → Option (Int × Int × Int × Int × (List (S24)) × Int × Int)
 | 0, _, _, _, _, _, _ => none
 | k + 1, x1, x15, x19, x1000, x1001, x1002 => if x19 = true then ((exactpplmake_Src_Range.f x1000 x1001 x1002 (-2) 3).bind fun bt249 => ((exactpplmake_Src_N.f x1000 bt249.2.1 bt249.2.2 4).bind fun bt252 => (some (2, bt249.1, wrap64 (bt249.1 + bt252.1), 0, ([] : List (S24)), bt252.2.1, bt252.2.2)))) else (if x15 = 3 then (exactpplmake_Src_Type.j2 k x1 (x15 == 3) x1000 x1001 x1002) else (exactpplmake_Src_Type.j2 k x1 (x15 == 4) x1000 x1001 x1002))
def exactpplmake_Src_Type.j2 : Nat → Int → Bool → List Int → Int → Int → Option (Int × Int × Int × Int × (List (S24)) × Int × Int)
 | 0, _, _, _, _, _ => none
 | k + 1, x1, x30, x1000, x1001, x1002 => if x30 = true then ((exactpplmake_Src_Range.f x1000 x1001 x1002 2 3).bind fun bt256 => (exactpplmake_Src_Type.l0 k x1 bt256.1 x1000 bt256.2.1 bt256.2.2 5 0 0 0 ([] : List (S24)))) else ((exactpplmake_Src_Range.f x1000 x1001 x1002 1 2).bind fun bt271 => ((exactpplmake_Src_Type.f k x1000 bt271.2.1 bt271.2.2 1).bind fun bt274 => (some (6, 0, 0, bt271.1, (([(⟨bt274.1, bt274.2.1, bt274.2.2.1, bt274.2.2.2.1, bt274.2.2.2.2.1⟩ : S24)] : List (S24))), bt274.2.2.2.2.2.1, bt274.2.2.2.2.2.2))))
def exactpplmake_Src_Type.l0 : Nat → Int → Int → List Int → Int → Int → Int → Int → Int → Int → List (S24) → Option (Int × Int × Int × Int × (List (S24)) × Int × Int)
 | 0, _, _, _, _, _, _, _, _, _, _ => none
 | k + 1, x1, x8, x1000, x1001, x1002, x256000, x256001, x256002, x256003, x256004 => if x8 > 0 then ((exactpplmake_Src_Type.f k x1000 x1001 x1002 (wrap64 (x1 - 1))).bind fun bt259 => (if x256004.length < 2513169434916 then (exactpplmake_Src_Type.l0 k x1 (wrap64 (x8 - 1)) x1000 bt259.2.2.2.2.2.1 bt259.2.2.2.2.2.2 x256000 x256001 x256002 x256003 (x256004 ++ [(⟨bt259.1, bt259.2.1, bt259.2.2.1, bt259.2.2.2.1, bt259.2.2.2.2.1⟩ : S24)])) else (none))) else (some (x256000, x256001, x256002, x256003, x256004, x1001, x1002))
def exactpplmake_Src_Type.f : Nat → List Int → Int → Int → Int → Option (Int × Int × Int × Int × (List (S24)) × Int × Int)
 | 0, _, _, _, _ => none
 | k + 1, s0_0, s0_1, s0_2, a1 => (exactpplmake_Src_N.f s0_0 s0_1 s0_2 6).bind fun bt243 => (if a1 ≤ 1 then ((exactpplmake_Src_N.f s0_0 bt243.2.1 bt243.2.2 3).bind fun bt246 => (exactpplmake_Src_Type.j0 k a1 bt246.1 s0_0 bt246.2.1 bt246.2.2)) else (exactpplmake_Src_Type.j0 k a1 bt243.1 s0_0 bt243.2.1 bt243.2.2))
end
theorem exactpplmake_Src_Type.mono_l : ∀ k, (∀ y0 y1 y2 y3, LeO (exactpplmake_Src_Type.f k y0 y1 y2 y3) (exactpplmake_Src_Type.f (k + 1) y0 y1 y2 y3)) ∧ (∀ y0 y1 y2 y3 y4, LeO (exactpplmake_Src_Type.j0 k y0 y1 y2 y3 y4) (exactpplmake_Src_Type.j0 (k + 1) y0 y1 y2 y3 y4)) ∧ (∀ y0 y1 y2 y3 y4 y5, LeO (exactpplmake_Src_Type.j1 k y0 y1 y2 y3 y4 y5) (exactpplmake_Src_Type.j1 (k + 1) y0 y1 y2 y3 y4 y5)) ∧ (∀ y0 y1 y2 y3 y4, LeO (exactpplmake_Src_Type.j2 k y0 y1 y2 y3 y4) (exactpplmake_Src_Type.j2 (k + 1) y0 y1 y2 y3 y4)) ∧ (∀ y0 y1 y2 y3 y4 y5 y6 y7 y8 y9, LeO (exactpplmake_Src_Type.l0 k y0 y1 y2 y3 y4 y5 y6 y7 y8 y9) (exactpplmake_Src_Type.l0 (k + 1) y0 y1 y2 y3 y4 y5 y6 y7 y8 y9))
 | 0 => ⟨fun _ _ _ _ r h => by simp [exactpplmake_Src_Type.f] at h, fun _ _ _ _ _ r h => by simp [exactpplmake_Src_Type.j0] at h, fun _ _ _ _ _ _ r h => by simp [exactpplmake_Src_Type.j1] at h, fun _ _ _ _ _ r h => by simp [exactpplmake_Src_Type.j2] at h, fun _ _ _ _ _ _ _ _ _ _ r h => by simp [exactpplmake_Src_Type.l0] at h⟩
 | k + 1 => by
  obtain ⟨ih0, ih1, ih2, ih3, ih4⟩ := exactpplmake_Src_Type.mono_l k
  refine ⟨?_, ?_, ?_, ?_, ?_⟩
  ·intro y0 y1 y2 y3
   unfold exactpplmake_Src_Type.f
   repeat' first
   | (with_reducible exact ih0 _ _ _ _)
   | (with_reducible exact ih1 _ _ _ _ _)
   | (with_reducible exact ih2 _ _ _ _ _ _)
   | (with_reducible exact ih3 _ _ _ _ _)
   | (with_reducible exact ih4 _ _ _ _ _ _ _ _ _ _)
   | (with_reducible exact LeO.refl _)
   | (with_reducible exact LeO.none _)
   | (with_reducible refine LeO.ite ?_ ?_)
   | (with_reducible refine LeO.bind ?_ (fun _ => ?_))
   | exact ih0 _ _ _ _
   | exact ih1 _ _ _ _ _
   | exact ih2 _ _ _ _ _ _
   | exact ih3 _ _ _ _ _
   | exact ih4 _ _ _ _ _ _ _ _ _ _
   | exact LeO.none _
   | refine LeO.ite ?_ ?_
   | refine LeO.bind ?_ (fun _ => ?_)
  ·intro y0 y1 y2 y3 y4
   unfold exactpplmake_Src_Type.j0
   repeat' first
   | (with_reducible exact ih0 _ _ _ _)
   | (with_reducible exact ih1 _ _ _ _ _)
   | (with_reducible exact ih2 _ _ _ _ _ _)
   | (with_reducible exact ih3 _ _ _ _ _)
   | (with_reducible exact ih4 _ _ _ _ _ _ _ _ _ _)
   | (with_reducible exact LeO.refl _)
   | (with_reducible exact LeO.none _)
   | (with_reducible refine LeO.ite ?_ ?_)
   | (with_reducible refine LeO.bind ?_ (fun _ => ?_))
   | exact ih0 _ _ _ _
   | exact ih1 _ _ _ _ _
   | exact ih2 _ _ _ _ _ _
   | exact ih3 _ _ _ _ _
   | exact ih4 _ _ _ _ _ _ _ _ _ _
   | exact LeO.none _
   | refine LeO.ite ?_ ?_
   | refine LeO.bind ?_ (fun _ => ?_)
  ·intro y0 y1 y2 y3 y4 y5
   unfold exactpplmake_Src_Type.j1
   repeat' first
   | (with_reducible exact ih0 _ _ _ _)
   | (with_reducible exact ih1 _ _ _ _ _)
   | (with_reducible exact ih2 _ _ _ _ _ _)
   | (with_reducible exact ih3 _ _ _ _ _)
   | (with_reducible exact ih4 _ _ _ _ _ _ _ _ _ _)
   | (with_reducible exact LeO.refl _)
   | (with_reducible exact LeO.none _)
   | (with_reducible refine LeO.ite ?_ ?_)
   | (with_reducible refine LeO.bind ?_ (fun _ => ?_))
   | exact ih0 _ _ _ _
   | exact ih1 _ _ _ _ _
   | exact ih2 _ _ _ _ _ _
   | exact ih3 _ _ _ _ _
   | exact ih4 _ _ _ _ _ _ _ _ _ _
   | exact LeO.none _
   | refine LeO.ite ?_ ?_
   | refine LeO.bind ?_ (fun _ => ?_)
  ·intro y0 y1 y2 y3 y4
   unfold exactpplmake_Src_Type.j2
   repeat' first
   | (with_reducible exact ih0 _ _ _ _)
   | (with_reducible exact ih1 _ _ _ _ _)
   | (with_reducible exact ih2 _ _ _ _ _ _)
   | (with_reducible exact ih3 _ _ _ _ _)
   | (with_reducible exact ih4 _ _ _ _ _ _ _ _ _ _)
   | (with_reducible exact LeO.refl _)
   | (with_reducible exact LeO.none _)
   | (with_reducible refine LeO.ite ?_ ?_)
   | (with_reducible refine LeO.bind ?_ (fun _ => ?_))
   | exact ih0 _ _ _ _
   | exact ih1 _ _ _ _ _
   | exact ih2 _ _ _ _ _ _
   | exact ih3 _ _ _ _ _
   | exact ih4 _ _ _ _ _ _ _ _ _ _
   | exact LeO.none _
   | refine LeO.ite ?_ ?_
   | refine LeO.bind ?_ (fun _ => ?_)
  ·intro y0 y1 y2 y3 y4 y5 y6 y7 y8 y9
   unfold exactpplmake_Src_Type.l0
   repeat' first
   | (with_reducible exact ih0 _ _ _ _)
   | (with_reducible exact ih1 _ _ _ _ _)
   | (with_reducible exact ih2 _ _ _ _ _ _)
   | (with_reducible exact ih3 _ _ _ _ _)
   | (with_reducible exact ih4 _ _ _ _ _ _ _ _ _ _)
   | (with_reducible exact LeO.refl _)
   | (with_reducible exact LeO.none _)
   | (with_reducible refine LeO.ite ?_ ?_)
   | (with_reducible refine LeO.bind ?_ (fun _ => ?_))
   | exact ih0 _ _ _ _
   | exact ih1 _ _ _ _ _
   | exact ih2 _ _ _ _ _ _
   | exact ih3 _ _ _ _ _
   | exact ih4 _ _ _ _ _ _ _ _ _ _
   | exact LeO.none _
   | refine LeO.ite ?_ ?_
   | refine LeO.bind ?_ (fun _ => ?_)
theorem exactpplmake_Src_Type.mono : ∀ a0 a1 a2 a3 k, LeO (exactpplmake_Src_Type.f k a0 a1 a2 a3) (exactpplmake_Src_Type.f (k + 1) a0 a1 a2 a3) := by
 intro a0 a1 a2 a3 k
 obtain ⟨ih0, ih1, ih2, ih3, ih4⟩ := exactpplmake_Src_Type.mono_l k
 exact ih0 a0 a1 a2 a3
def exactpplmake_Src_Type.T17 : Bool × List (List Nat × List Nat) := (true, [([], []), ([0], [0]), ([], []), ([], []), ([3], [3]), ([2, 4], [2, 4]), ([5], [5]), ([1, 6, 5], [1, 6]), ([0, 1, 2, 3, 4, 5, 6, 7], []), ([8, 7, 7, 0, 1, 2, 3, 4, 5, 6, 7], [7, 8])])
def exactpplmake_Src_Type.B17 : List Nat := [0, 1, 0, 0, 8, 28, 60, 127, 255, 511]
theorem exactpplmake_Src_Type.tab17 : rtab .any (opsOf Tryd.f15 17) = exactpplmake_Src_Type.T17 := by kernel_rfl
theorem exactpplmake_Src_Type.bits17 : waitsOk exactpplmake_Src_Type.T17.2 exactpplmake_Src_Type.B17 = true := by kernel_rfl
set_option maxHeartbeats 8000000 in
set_option maxRecDepth 100000 in
theorem exactpplmake_Src_Type.calls (k : Nat) : ∀ (g : Nat) (s0_0 : List Int) (s0_1 : Int) (s0_2 : Int) (a1 : Int) (r1 : Int) (r2 : Int) (r3 : Int) (r4 : Int) (r5 : List (S24)) (r6 : Int) (r7 : Int) (w0 w : World) (hI : IsS63 w0 w g s0_0 s0_1 s0_2) (hB : Below w0.heap.size w0 w) (h : exactpplmake_Src_Type.f k s0_0 s0_1 s0_2 a1 = some (r1, r2, r3, r4, r5, r6, r7)),
  Calls Tryd.prog 15 #[.pointer (some ⟨g, 0, none⟩), .int .i64 a1] w fun e w' => ∃ v4_ : Value, e = .returned (.agg #[.int .i64 r1, .int .i64 r2, .int .i64 r3, .int .i64 r4, v4_]) ∧ Kd.N k24 24 w' w.heap.size (fun k_ => (w.heap.size ≤ k_)) v4_ r5 ∧ IsS63 w0 w' g s0_0 r6 r7 ∧ Below w0.heap.size w0 w' ∧ KeepBut w w' g none := by
 induction k using Nat.strongRecOn with
 | _ k ih =>
 intro g s0_0 s0_1 s0_2 a1 r1 r2 r3 r4 r5 r6 r7 w0 w hI hB h
 cases k with
 | zero => exact absurd h (by simp [exactpplmake_Src_Type.f])
 | succ k =>
 simp only [exactpplmake_Src_Type.f] at h
 have hu24 := Tryd.underlying24
 have HI0 := Aside0.mk hI
 have HK := Aside0.mk (KeepBut.refl w g none)
 have HL := Aside0.mk hB.size
 clear hI
 have HW0 := Aside0.mk hB.size
 have HB := Aside0.mk hB
 clear hB
 have H : ((exactpplmake_Src_N.f s0_0 s0_1 s0_2 6).bind fun bt243 => (if a1 ≤ 1 then ((exactpplmake_Src_N.f s0_0 bt243.2.1 bt243.2.2 3).bind fun bt246 => (exactpplmake_Src_Type.j0 k a1 bt246.1 s0_0 bt246.2.1 bt246.2.2)) else (exactpplmake_Src_Type.j0 k a1 bt243.1 s0_0 bt243.2.1 bt243.2.2))) = some (r1, r2, r3, r4, r5, r6, r7) := h
 clear h
 replace H := Option.bind_eq_some_iff.mp H
 obtain ⟨⟨t243, t244, t245⟩, A30, H⟩ := H
 replace H : (if a1 ≤ 1 then ((exactpplmake_Src_N.f s0_0 t244 t245 3).bind fun bt246 => (exactpplmake_Src_Type.j0 k a1 bt246.1 s0_0 bt246.2.1 bt246.2.2)) else (exactpplmake_Src_Type.j0 k a1 t243 s0_0 t244 t245)) = some (r1, r2, r3, r4, r5, r6, r7) := H
 have A3 := Aside0.mk A30
 clear A30
 have HC4 := Aside0.mk H
 clear H
 go_enter Tryd.func15, Tryd.ntmps15
 go_upto_if 12 with (first | ((with_reducible refine gate_dst (N := 4) rfl ?_); refine box_event ?hg (N := 4) ?hd (cs := #[.int .i64 0, .int .i64 0, .int .i64 0, .int .i64 0, .slice none 0 0]) (t := 24) ?hr ?_; (case hd => rfl); (case hg => rfl); (case hr => first | (go_simp; done) | (go_simp; rfl)); intro gb242 hg w5 hbox hb; have BK242 := Aside0.mk (hbox); have GW242 := Aside0.mk ((by rw [hg]; exact (keep_size (w := w) (g := g) (row := none) (by repeat (first | (with_reducible first | exact HK.out | apply KeepBut.set_ | apply keep_drewN | apply keep_drew | apply keep_alloc) | exact HK.out))) : w.heap.size ≤ gb242)); have GE242 := Aside0.mk ((Nat.le_trans HW0.out (by rw [hg]; exact (keep_size (w := w) (g := g) (row := none) (by repeat (first | (with_reducible first | exact HK.out | apply KeepBut.set_ | apply keep_drewN | apply keep_drew | apply keep_alloc) | exact HK.out))) : w.heap.size ≤ gb242) : w0.heap.size ≤ gb242)); have NB0_242 := Aside0.mk ((by rw [hg]; exact Nat.ne_of_lt (IsS63.lt (show IsS63 w0 _ g s0_0 s0_1 s0_2 from si63_)) : g ≠ gb242)); have NB242_0 := Aside0.mk ((by rw [hg]; exact Nat.ne_of_gt (IsS63.lt (show IsS63 w0 _ g s0_0 s0_1 s0_2 from si63_)) : gb242 ≠ g)); replace HI0 := Aside0.mk (IsS63.below si63_ hb); replace HK := Aside0.mk (KeepBut.trans (by repeat (first | (with_reducible first | exact HK.out | apply KeepBut.set_ | apply keep_drewN | apply keep_drew | apply keep_alloc) | exact HK.out)) (KeepBut.of_below hb g none) (.inl rfl)); replace HB := Aside0.mk (below_step bl63_ hb); clear hb hbox hg) | ((with_reducible refine gate_callee (f := 20) rfl ?_); refine goesL_ (some 10) rfl rfl Tryd.func20 (by kernel_rfl) rfl #[.pointer (some ⟨g, 0, none⟩), .int .i64 6] rfl (by (try simp only [List.map_toArray, List.map_cons, List.map_nil]); first | done | rfl | (simp only [List.length_drop, List.length_take]; rfl)) ?_; (with_reducible refine (exactpplmake_Src_N.calls g s0_0 s0_1 s0_2 6 t243 t244 t245 w0 _ ?side1 ?side2 A3.out).mono ?_); (case side1 => repeat (first | (with_reducible first | exact HI0.out | apply IsS63.alloc | apply IsS63.drewN | apply IsS63.drew | apply IsS63.set_1 | apply IsS63.set_2 | refine IsS63.far ?_ NB0_242.out _) | exact HI0.out)); (case side2 => repeat (first | (with_reducible first | exact HB.out | apply below_alloc | apply pw_below_drewN | apply below_drew1 | refine below_set ?_ (IsS63.ge HI0.out) | refine below_set ?_ GE242.out) | exact HB.out)); rintro e w6 ⟨rfl, hi, hb, hk⟩; refine ⟨_, rfl, ?_⟩; replace BK242 := Aside0.mk (KeepBut.blk hk (g' := gb242) (o := .cells #[.int .i64 0, .int .i64 0, .int .i64 0, .int .i64 0, .slice none 0 0] 24 (0, 0)) bk_ NB242_0.out (by simp)); replace HK := Aside0.mk (KeepBut.trans (by repeat (first | (with_reducible first | exact HK.out | apply KeepBut.set_ | apply keep_drewN | apply keep_drew | apply keep_alloc | refine keep_far ?_ GW242.out _) | exact HK.out)) hk (.inl rfl)); replace HB := Aside0.mk (hb); replace HI0 := Aside0.mk (hi); (try clear hb); (try clear hb2); (try clear hk); (try clear hi)))
 (try simp only [Act.put, List.setIfInBounds_toArray, List.set_cons_zero, List.set_cons_succ])
 go_cut [5] (fun v5 wc => ∃ (kq : Nat) (x5_3 : Int) (x1001_3 : Int) (x1002_3 : Int), v5 = .int .i64 x5_3 ∧ Aside0 (exactpplmake_Src_Type.j0 kq a1 x5_3 s0_0 x1001_3 x1002_3 = some (r1, r2, r3, r4, r5, r6, r7)) ∧ Aside0 (kq ≤ k) ∧ Aside0 (wc.heap[gb242]? = some (.cells #[.int .i64 0, .int .i64 0, .int .i64 0, .int .i64 0, (.slice none 0 0)] 24 (0, 0))) ∧ Aside0 (IsS63 w0 wc g s0_0 x1001_3 x1002_3) ∧ Aside0 (KeepBut w wc g none) ∧ Aside0 (Below w0.heap.size w0 wc))
 case first =>
  have H := HC4.out
  clear HC4
  by_cases c7 : a1 ≤ 1
  ·rw [if_pos c7] at H
   have c7b0 : decide (a1 ≤ 1) = true := decide_eq_true c7
   clear c7
   (first | rw [c7b0] | (simp only [i64_w, i32_w]; rw [c7b0]) | skip)
   replace H := Option.bind_eq_some_iff.mp H
   obtain ⟨⟨t246, t247, t248⟩, A80, H⟩ := H
   replace H : (exactpplmake_Src_Type.j0 k a1 t246 s0_0 t247 t248) = some (r1, r2, r3, r4, r5, r6, r7) := H
   have A8 := Aside0.mk A80
   clear A80
   have H' := Aside0.mk H
   clear H
   go_wp2_with (first | ((with_reducible refine gate_callee (f := 20) rfl ?_); refine goesL_ (some 14) rfl rfl Tryd.func20 (by kernel_rfl) rfl #[.pointer (some ⟨g, 0, none⟩), .int .i64 3] rfl (by (try simp only [List.map_toArray, List.map_cons, List.map_nil]); first | done | rfl | (simp only [List.length_drop, List.length_take]; rfl)) ?_; (with_reducible refine (exactpplmake_Src_N.calls g s0_0 t244 t245 3 t246 t247 t248 w0 _ ?side1 ?side2 A8.out).mono ?_); (case side1 => repeat (first | (with_reducible first | exact HI0.out | apply IsS63.alloc | apply IsS63.drewN | apply IsS63.drew | apply IsS63.set_1 | apply IsS63.set_2 | refine IsS63.far ?_ NB0_242.out _) | exact HI0.out)); (case side2 => repeat (first | (with_reducible first | exact HB.out | apply below_alloc | apply pw_below_drewN | apply below_drew1 | refine below_set ?_ (IsS63.ge HI0.out) | refine below_set ?_ GE242.out) | exact HB.out)); rintro e w9 ⟨rfl, hi, hb, hk⟩; refine ⟨_, rfl, ?_⟩; replace BK242 := Aside0.mk (KeepBut.blk hk (g' := gb242) (o := .cells #[.int .i64 0, .int .i64 0, .int .i64 0, .int .i64 0, .slice none 0 0] 24 (0, 0)) bk_ NB242_0.out (by simp)); replace HK := Aside0.mk (KeepBut.trans (by repeat (first | (with_reducible first | exact HK.out | apply KeepBut.set_ | apply keep_drewN | apply keep_drew | apply keep_alloc | refine keep_far ?_ GW242.out _) | exact HK.out)) hk (.inl rfl)); replace HB := Aside0.mk (hb); replace HI0 := Aside0.mk (hi); (try clear hb); (try clear hb2); (try clear hk); (try clear hi)))
   go_meet
   case rel => exact ⟨_, (t246), (t247), (t248), rs_, H', ⟨by first | omega | exact Nat.le_refl _⟩, ⟨bk_⟩, ⟨si63_⟩, ⟨by repeat (first | (with_reducible first | exact HK.out | apply KeepBut.set_ | apply keep_drewN | apply keep_drew | apply keep_alloc | refine keep_far ?_ GW242.out _) | exact HK.out)⟩, ⟨bl63_⟩⟩
  ·rw [if_neg c7] at H
   have c7b0 : decide (a1 ≤ 1) = false := decide_eq_false c7
   clear c7
   (first | rw [c7b0] | (simp only [i64_w, i32_w]; rw [c7b0]) | skip)
   have H' := Aside0.mk H
   clear H
   go_wp2
   go_meet
   case rel => exact ⟨_, (t243), (t244), (t245), rs_, H', ⟨by first | omega | exact Nat.le_refl _⟩, ⟨bk_⟩, ⟨si63_⟩, ⟨by repeat (first | (with_reducible first | exact HK.out | apply KeepBut.set_ | apply keep_drewN | apply keep_drew | apply keep_alloc | refine keep_far ?_ GW242.out _) | exact HK.out)⟩, ⟨bl63_⟩⟩
 case rest =>
  clear HC4
  try clear c1
  try clear c2
  try clear p2
  try clear c7
  try clear c7b0
  obtain ⟨kq, x5_3, x1001_3, x1002_3, rfl, HA, HJ3, BK242, HI0, HK, HB⟩ := hcut
  cases kq with
  | zero => exact absurd HA.out (by simp [exactpplmake_Src_Type.j0])
  | succ kj3 =>
   have H := HA.out
   clear HA
   simp only [exactpplmake_Src_Type.j0] at H
   by_cases c10 : x5_3 = 0
   ·rw [if_pos c10] at H
    have c10b0 : (x5_3 == 0) = true := beq_iff_eq.mpr c10
    have c10b1 : (x5_3 != 0) = false := bne_eq_false_iff_eq.mpr c10
    clear c10
    simp only [Option.some.injEq, Prod.mk.injEq] at H
    obtain ⟨rfl, rfl, rfl, rfl, rfl, rfl, rfl⟩ := H
    have hnb11 := NB242_0.out
    have hnc11 := NB0_242.out
    obtain ⟨hcz12_0, hcz12_1, hcz12_2, hcz12_3, hcz12_4, hfz12_0, hfz12_1, hfz12_2, hfz12_3, hfz12_4⟩ := cf5_ BK242.out
    go_wp2
    refine bodyPost_ret (results_cell_row rfl _ _ gb242 24 #[.int .i64 1, .int .i64 0, .int .i64 0, .int .i64 0, .slice none 0 0] (0, 0) _ rfl (by (with_reducible repeat (first | refine blk_drewN ?_ _ | refine blk_drew ?_ | refine blk_alloc ?_ _)); refine blk_put (cs := #[.int .i64 1, .int .i64 0, .int .i64 0, .int .i64 0, .slice none 0 0]) ?_ 4 _ rfl; (with_reducible repeat (first | refine blk_drewN ?_ _ | refine blk_drew ?_ | refine blk_alloc ?_ _)); refine blk_put (cs := #[.int .i64 1, .int .i64 0, .int .i64 0, .int .i64 0, .slice none 0 0]) ?_ 3 _ rfl; (with_reducible repeat (first | refine blk_drewN ?_ _ | refine blk_drew ?_ | refine blk_alloc ?_ _)); refine blk_put (cs := #[.int .i64 1, .int .i64 0, .int .i64 0, .int .i64 0, .slice none 0 0]) ?_ 2 _ rfl; (with_reducible repeat (first | refine blk_drewN ?_ _ | refine blk_drew ?_ | refine blk_alloc ?_ _)); refine blk_put (cs := #[.int .i64 1, .int .i64 0, .int .i64 0, .int .i64 0, .slice none 0 0]) ?_ 1 _ rfl; (with_reducible repeat (first | refine blk_drewN ?_ _ | refine blk_drew ?_ | refine blk_alloc ?_ _)); refine blk_put (cs := #[.int .i64 0, .int .i64 0, .int .i64 0, .int .i64 0, .slice none 0 0]) ?_ 0 _ rfl; (with_reducible repeat (first | refine blk_drewN ?_ _ | refine blk_drew ?_ | refine blk_alloc ?_ _)); exact BK242.out) Tryd.underlying24 rfl (by kernel_rfl)) rfl ?_
    exact ⟨_, re_, by first | exact Kd.R_nil _ _ _ _ _ | exact Kd.N_nil _ _ _ _ _ | exact Kd.V_nil _ _ _ _ _ | exact Kd.Q_nil _ _ _ _ _ | exact Kd.S_nil _ _ _ _ _, si63_, bl63_, by repeat (first | (with_reducible first | exact HK.out | apply KeepBut.set_ | apply keep_drewN | apply keep_drew | apply keep_alloc | refine keep_far ?_ GW242.out _) | exact HK.out)⟩
   ·rw [if_neg c10] at H
    have c10b0 : (x5_3 == 0) = false := beq_eq_false_iff_ne.mpr c10
    have c10b1 : (x5_3 != 0) = true := bne_iff_ne.mpr c10
    have HC13 := Aside0.mk H
    clear H
    go_upto_if 19 with (fail)
    go_cut [19] (fun v19 wc => ∃ (kq : Nat) (x19_12 : Bool), v19 = .bool x19_12 ∧ Aside0 (exactpplmake_Src_Type.j1 kq a1 x5_3 x19_12 s0_0 x1001_3 x1002_3 = some (r1, r2, r3, r4, r5, r6, r7)) ∧ Aside0 (kq ≤ kj3) ∧ Aside0 (wc.heap[gb242]? = some (.cells #[.int .i64 0, .int .i64 0, .int .i64 0, .int .i64 0, (.slice none 0 0)] 24 (0, 0))) ∧ Aside0 (IsS63 w0 wc g s0_0 x1001_3 x1002_3) ∧ Aside0 (KeepBut w wc g none) ∧ Aside0 (Below w0.heap.size w0 wc))
    case first =>
     have H := HC13.out
     clear HC13
     by_cases c14 : x5_3 = 1
     ·rw [if_pos c14] at H
      have c14b0 : (x5_3 == 1) = true := beq_iff_eq.mpr c14
      have c14b1 : (x5_3 != 1) = false := bne_eq_false_iff_eq.mpr c14
      clear c14
      (first | rw [c14b0] | (simp only [i64_w, i32_w]; rw [c14b0]) | skip)
      have H' := Aside0.mk H
      clear H
      go_wp2
      go_meet
      case rel => exact ⟨_, ((x5_3 == 1)), rs_, H', ⟨by have := HJ3.out; first | omega | exact Nat.le_refl _⟩, ⟨bk_⟩, ⟨si63_⟩, ⟨by repeat (first | (with_reducible first | exact HK.out | apply KeepBut.set_ | apply keep_drewN | apply keep_drew | apply keep_alloc | refine keep_far ?_ GW242.out _) | exact HK.out)⟩, ⟨bl63_⟩⟩
     ·rw [if_neg c14] at H
      have c14b0 : (x5_3 == 1) = false := beq_eq_false_iff_ne.mpr c14
      have c14b1 : (x5_3 != 1) = true := bne_iff_ne.mpr c14
      (first | rw [c14b0] | (simp only [i64_w, i32_w]; rw [c14b0]) | skip)
      have H' := Aside0.mk H
      clear H
      go_wp2
      go_meet
      case rel => exact ⟨_, ((x5_3 == 2)), rs_, H', ⟨by have := HJ3.out; first | omega | exact Nat.le_refl _⟩, ⟨bk_⟩, ⟨si63_⟩, ⟨by repeat (first | (with_reducible first | exact HK.out | apply KeepBut.set_ | apply keep_drewN | apply keep_drew | apply keep_alloc | refine keep_far ?_ GW242.out _) | exact HK.out)⟩, ⟨bl63_⟩⟩
    case rest =>
     clear HC13
     try clear c1
     try clear c2
     try clear p2
     try clear c7
     try clear c7b0
     try clear c10
     try clear c10b0
     try clear c10b1
     try clear c11
     try clear c14
     try clear c14b0
     try clear c14b1
     try clear hcz12_0 hcz12_1 hcz12_2 hcz12_3 hcz12_4 hfz12_0 hfz12_1 hfz12_2 hfz12_3 hfz12_4
     try clear p2
     obtain ⟨kq, x19_12, rfl, HA, HJ12, BK242, HI0, HK, HB⟩ := hcut
     cases kq with
     | zero => exact absurd HA.out (by simp [exactpplmake_Src_Type.j1])
     | succ kj12 =>
      have H := HA.out
      clear HA
      simp only [exactpplmake_Src_Type.j1] at H
      by_cases c15 : x19_12 = true
      ·subst c15
       have H1 : ((exactpplmake_Src_Range.f s0_0 x1001_3 x1002_3 (-2) 3).bind fun bt249 => ((exactpplmake_Src_N.f s0_0 bt249.2.1 bt249.2.2 4).bind fun bt252 => (some (2, bt249.1, wrap64 (bt249.1 + bt252.1), 0, ([] : List (S24)), bt252.2.1, bt252.2.2)))) = some (r1, r2, r3, r4, r5, r6, r7) := by rw [if_pos rfl] at H; exact H
       clear H
       have H := H1
       clear H1
       replace H := Option.bind_eq_some_iff.mp H
       obtain ⟨⟨t249, t250, t251⟩, A160, H⟩ := H
       replace H : ((exactpplmake_Src_N.f s0_0 t250 t251 4).bind fun bt252 => (some (2, t249, wrap64 (t249 + bt252.1), 0, ([] : List (S24)), bt252.2.1, bt252.2.2))) = some (r1, r2, r3, r4, r5, r6, r7) := H
       have A16 := Aside0.mk A160
       clear A160
       replace H := Option.bind_eq_some_iff.mp H
       obtain ⟨⟨t252, t253, t254⟩, A170, H⟩ := H
       replace H : (some (2, t249, wrap64 (t249 + t252), 0, ([] : List (S24)), t253, t254)) = some (r1, r2, r3, r4, r5, r6, r7) := H
       have A17 := Aside0.mk A170
       clear A170
       simp only [Option.some.injEq, Prod.mk.injEq] at H
       obtain ⟨rfl, rfl, rfl, rfl, rfl, rfl, rfl⟩ := H
       go_wp2_with (first | ((with_reducible refine gate_callee (f := 17) rfl ?_); refine goesL_ (some 23) rfl rfl Tryd.func17 (by kernel_rfl) rfl #[.pointer (some ⟨g, 0, none⟩), .int .i64 (-2), .int .i64 3] rfl (by (try simp only [List.map_toArray, List.map_cons, List.map_nil]); first | done | rfl | (simp only [List.length_drop, List.length_take]; rfl)) ?_; (with_reducible refine (exactpplmake_Src_Range.calls g s0_0 x1001_3 x1002_3 (-2) 3 t249 t250 t251 w0 _ ?side1 ?side2 A16.out).mono ?_); (case side1 => repeat (first | (with_reducible first | exact HI0.out | apply IsS63.alloc | apply IsS63.drewN | apply IsS63.drew | apply IsS63.set_1 | apply IsS63.set_2 | refine IsS63.far ?_ NB0_242.out _) | exact HI0.out)); (case side2 => repeat (first | (with_reducible first | exact HB.out | apply below_alloc | apply pw_below_drewN | apply below_drew1 | refine below_set ?_ (IsS63.ge HI0.out) | refine below_set ?_ GE242.out) | exact HB.out)); rintro e w18 ⟨rfl, hi, hb, hk⟩; refine ⟨_, rfl, ?_⟩; replace BK242 := Aside0.mk (KeepBut.blk hk (g' := gb242) (o := .cells #[.int .i64 0, .int .i64 0, .int .i64 0, .int .i64 0, .slice none 0 0] 24 (0, 0)) bk_ NB242_0.out (by simp)); replace HK := Aside0.mk (KeepBut.trans (by repeat (first | (with_reducible first | exact HK.out | apply KeepBut.set_ | apply keep_drewN | apply keep_drew | apply keep_alloc | refine keep_far ?_ GW242.out _) | exact HK.out)) hk (.inl rfl)); replace HB := Aside0.mk (hb); replace HI0 := Aside0.mk (hi); (try clear hb); (try clear hb2); (try clear hk); (try clear hi)) | ((with_reducible refine gate_callee (f := 20) rfl ?_); refine goesL_ (some 27) rfl rfl Tryd.func20 (by kernel_rfl) rfl #[.pointer (some ⟨g, 0, none⟩), .int .i64 4] rfl (by (try simp only [List.map_toArray, List.map_cons, List.map_nil]); first | done | rfl | (simp only [List.length_drop, List.length_take]; rfl)) ?_; (with_reducible refine (exactpplmake_Src_N.calls g s0_0 t250 t251 4 t252 t253 t254 w0 _ ?side1 ?side2 A17.out).mono ?_); (case side1 => repeat (first | (with_reducible first | exact HI0.out | apply IsS63.alloc | apply IsS63.drewN | apply IsS63.drew | apply IsS63.set_1 | apply IsS63.set_2 | refine IsS63.far ?_ NB0_242.out _) | exact HI0.out)); (case side2 => repeat (first | (with_reducible first | exact HB.out | apply below_alloc | apply pw_below_drewN | apply below_drew1 | refine below_set ?_ (IsS63.ge HI0.out) | refine below_set ?_ GE242.out) | exact HB.out)); rintro e w19 ⟨rfl, hi, hb, hk⟩; refine ⟨_, rfl, ?_⟩; replace BK242 := Aside0.mk (KeepBut.blk hk (g' := gb242) (o := .cells #[.int .i64 0, .int .i64 0, .int .i64 0, .int .i64 0, .slice none 0 0] 24 (0, 0)) bk_ NB242_0.out (by simp)); replace HK := Aside0.mk (KeepBut.trans (by repeat (first | (with_reducible first | exact HK.out | apply KeepBut.set_ | apply keep_drewN | apply keep_drew | apply keep_alloc | refine keep_far ?_ GW242.out _) | exact HK.out)) hk (.inl rfl)); replace HB := Aside0.mk (hb); replace HI0 := Aside0.mk (hi); (try clear hb); (try clear hb2); (try clear hk); (try clear hi); have hnb20 := NB242_0.out; have hnc20 := NB0_242.out; obtain ⟨hcz21_0, hcz21_1, hcz21_2, hcz21_3, hcz21_4, hfz21_0, hfz21_1, hfz21_2, hfz21_3, hfz21_4⟩ := cf5_ BK242.out))
       refine bodyPost_ret (results_cell_row rfl _ _ gb242 24 #[.int .i64 2, .int .i64 t249, .int .i64 (wrap64 (t249 + t252)), .int .i64 0, .slice none 0 0] (0, 0) _ rfl (by (with_reducible repeat (first | refine blk_drewN ?_ _ | refine blk_drew ?_ | refine blk_alloc ?_ _)); refine blk_put (cs := #[.int .i64 2, .int .i64 t249, .int .i64 (wrap64 (t249 + t252)), .int .i64 0, .slice none 0 0]) ?_ 4 _ rfl; (with_reducible repeat (first | refine blk_drewN ?_ _ | refine blk_drew ?_ | refine blk_alloc ?_ _)); refine blk_put (cs := #[.int .i64 2, .int .i64 t249, .int .i64 (wrap64 (t249 + t252)), .int .i64 0, .slice none 0 0]) ?_ 3 _ rfl; (with_reducible repeat (first | refine blk_drewN ?_ _ | refine blk_drew ?_ | refine blk_alloc ?_ _)); refine blk_put (cs := #[.int .i64 2, .int .i64 t249, .int .i64 0, .int .i64 0, .slice none 0 0]) ?_ 2 _ rfl; (with_reducible repeat (first | refine blk_drewN ?_ _ | refine blk_drew ?_ | refine blk_alloc ?_ _)); refine blk_put (cs := #[.int .i64 2, .int .i64 0, .int .i64 0, .int .i64 0, .slice none 0 0]) ?_ 1 _ rfl; (with_reducible repeat (first | refine blk_drewN ?_ _ | refine blk_drew ?_ | refine blk_alloc ?_ _)); refine blk_put (cs := #[.int .i64 0, .int .i64 0, .int .i64 0, .int .i64 0, .slice none 0 0]) ?_ 0 _ rfl; (with_reducible repeat (first | refine blk_drewN ?_ _ | refine blk_drew ?_ | refine blk_alloc ?_ _)); exact BK242.out) Tryd.underlying24 rfl (by kernel_rfl)) rfl ?_
       exact ⟨_, re_, by first | exact Kd.R_nil _ _ _ _ _ | exact Kd.N_nil _ _ _ _ _ | exact Kd.V_nil _ _ _ _ _ | exact Kd.Q_nil _ _ _ _ _ | exact Kd.S_nil _ _ _ _ _, si63_, bl63_, by repeat (first | (with_reducible first | exact HK.out | apply KeepBut.set_ | apply keep_drewN | apply keep_drew | apply keep_alloc | refine keep_far ?_ GW242.out _) | exact HK.out)⟩
      ·replace c15 := Bool.eq_false_iff.mpr c15
       subst c15
       have H1 : (if x5_3 = 3 then (exactpplmake_Src_Type.j2 kj12 a1 (x5_3 == 3) s0_0 x1001_3 x1002_3) else (exactpplmake_Src_Type.j2 kj12 a1 (x5_3 == 4) s0_0 x1001_3 x1002_3)) = some (r1, r2, r3, r4, r5, r6, r7) := by rw [if_neg (show ¬ (false = true) by decide)] at H; exact H
       clear H
       have H := H1
       clear H1
       have HC22 := Aside0.mk H
       clear H
       go_upto_if 30 with (fail)
       go_cut [30] (fun v30 wc => ∃ (kq : Nat) (x30_21 : Bool), v30 = .bool x30_21 ∧ Aside0 (exactpplmake_Src_Type.j2 kq a1 x30_21 s0_0 x1001_3 x1002_3 = some (r1, r2, r3, r4, r5, r6, r7)) ∧ Aside0 (kq ≤ kj12) ∧ Aside0 (wc.heap[gb242]? = some (.cells #[.int .i64 0, .int .i64 0, .int .i64 0, .int .i64 0, (.slice none 0 0)] 24 (0, 0))) ∧ Aside0 (IsS63 w0 wc g s0_0 x1001_3 x1002_3) ∧ Aside0 (KeepBut w wc g none) ∧ Aside0 (Below w0.heap.size w0 wc))
       case first =>
        have H := HC22.out
        clear HC22
        by_cases c23 : x5_3 = 3
        ·rw [if_pos c23] at H
         have c23b0 : (x5_3 == 3) = true := beq_iff_eq.mpr c23
         have c23b1 : (x5_3 != 3) = false := bne_eq_false_iff_eq.mpr c23
         clear c23
         (first | rw [c23b0] | (simp only [i64_w, i32_w]; rw [c23b0]) | skip)
         have H' := Aside0.mk H
         clear H
         go_wp2
         go_meet
         case rel => exact ⟨_, ((x5_3 == 3)), rs_, H', ⟨by have := HJ3.out; have := HJ12.out; first | omega | exact Nat.le_refl _⟩, ⟨bk_⟩, ⟨si63_⟩, ⟨by repeat (first | (with_reducible first | exact HK.out | apply KeepBut.set_ | apply keep_drewN | apply keep_drew | apply keep_alloc | refine keep_far ?_ GW242.out _) | exact HK.out)⟩, ⟨bl63_⟩⟩
        ·rw [if_neg c23] at H
         have c23b0 : (x5_3 == 3) = false := beq_eq_false_iff_ne.mpr c23
         have c23b1 : (x5_3 != 3) = true := bne_iff_ne.mpr c23
         (first | rw [c23b0] | (simp only [i64_w, i32_w]; rw [c23b0]) | skip)
         have H' := Aside0.mk H
         clear H
         go_wp2
         go_meet
         case rel => exact ⟨_, ((x5_3 == 4)), rs_, H', ⟨by have := HJ3.out; have := HJ12.out; first | omega | exact Nat.le_refl _⟩, ⟨bk_⟩, ⟨si63_⟩, ⟨by repeat (first | (with_reducible first | exact HK.out | apply KeepBut.set_ | apply keep_drewN | apply keep_drew | apply keep_alloc | refine keep_far ?_ GW242.out _) | exact HK.out)⟩, ⟨bl63_⟩⟩
       case rest =>
        clear HC22
        try clear c1
        try clear c2
        try clear p2
        try clear p6
        try clear c7
        try clear c7b0
        try clear c10
        try clear c10b0
        try clear c10b1
        try clear c11
        try clear c14
        try clear c14b0
        try clear c14b1
        try clear c15
        try clear c17
        try clear c20
        try clear c23
        try clear c23b0
        try clear c23b1
        try clear hcz12_0 hcz12_1 hcz12_2 hcz12_3 hcz12_4 hfz12_0 hfz12_1 hfz12_2 hfz12_3 hfz12_4
        try clear hcz21_0 hcz21_1 hcz21_2 hcz21_3 hcz21_4 hfz21_0 hfz21_1 hfz21_2 hfz21_3 hfz21_4
        try clear p2
        obtain ⟨kq, x30_21, rfl, HA, HJ21, BK242, HI0, HK, HB⟩ := hcut
        cases kq with
        | zero => exact absurd HA.out (by simp [exactpplmake_Src_Type.j2])
        | succ kj21 =>
         have H := HA.out
         clear HA
         simp only [exactpplmake_Src_Type.j2] at H
         by_cases c24 : x30_21 = true
         ·subst c24
          have H1 : ((exactpplmake_Src_Range.f s0_0 x1001_3 x1002_3 2 3).bind fun bt256 => (exactpplmake_Src_Type.l0 kj21 a1 bt256.1 s0_0 bt256.2.1 bt256.2.2 5 0 0 0 ([] : List (S24)))) = some (r1, r2, r3, r4, r5, r6, r7) := by rw [if_pos rfl] at H; exact H
          clear H
          have H := H1
          clear H1
          replace H := Option.bind_eq_some_iff.mp H
          obtain ⟨⟨t256, t257, t258⟩, A250, H⟩ := H
          replace H : (exactpplmake_Src_Type.l0 kj21 a1 t256 s0_0 t257 t258 5 0 0 0 ([] : List (S24))) = some (r1, r2, r3, r4, r5, r6, r7) := H
          have A25 := Aside0.mk A250
          clear A250
          have H' := Aside0.mk H
          clear H
          go_wp2_with (first | ((with_reducible refine gate_dst (N := 7) rfl ?_); refine box_event ?hg (N := 7) ?hd (cs := #[.int .i64 0, .int .i64 0, .int .i64 0, .int .i64 0, .slice none 0 0]) (t := 24) ?hr ?_; (case hd => rfl); (case hg => rfl); (case hr => first | (go_simp; done) | (go_simp; rfl)); intro gb255 hg w26 hbox hb; have BK255 := Aside0.mk (hbox); have GW255 := Aside0.mk ((by rw [hg]; exact (keep_size (w := w) (g := g) (row := none) (by repeat (first | (with_reducible first | exact HK.out | apply KeepBut.set_ | apply keep_drewN | apply keep_drew | apply keep_alloc | refine keep_far ?_ GW242.out _) | exact HK.out))) : w.heap.size ≤ gb255)); have GE255 := Aside0.mk ((Nat.le_trans HW0.out (by rw [hg]; exact (keep_size (w := w) (g := g) (row := none) (by repeat (first | (with_reducible first | exact HK.out | apply KeepBut.set_ | apply keep_drewN | apply keep_drew | apply keep_alloc | refine keep_far ?_ GW242.out _) | exact HK.out))) : w.heap.size ≤ gb255) : w0.heap.size ≤ gb255)); have NB242_255 := Aside0.mk ((by rw [hg]; exact Nat.ne_of_lt (blk_lt (g := gb242) (o := .cells #[.int .i64 0, .int .i64 0, .int .i64 0, .int .i64 0, .slice none 0 0] 24 (0, 0)) bk_) : gb242 ≠ gb255)); have NB255_242 := Aside0.mk ((by rw [hg]; exact Nat.ne_of_gt (blk_lt (g := gb242) (o := .cells #[.int .i64 0, .int .i64 0, .int .i64 0, .int .i64 0, .slice none 0 0] 24 (0, 0)) bk_) : gb255 ≠ gb242)); have NB0_255 := Aside0.mk ((by rw [hg]; exact Nat.ne_of_lt (IsS63.lt (show IsS63 w0 _ g s0_0 x1001_3 x1002_3 from si63_)) : g ≠ gb255)); have NB255_0 := Aside0.mk ((by rw [hg]; exact Nat.ne_of_gt (IsS63.lt (show IsS63 w0 _ g s0_0 x1001_3 x1002_3 from si63_)) : gb255 ≠ g)); replace BK242 := Aside0.mk (blk_below (g := gb242) (o := .cells #[.int .i64 0, .int .i64 0, .int .i64 0, .int .i64 0, .slice none 0 0] 24 (0, 0)) bk_ hb); replace HI0 := Aside0.mk (IsS63.below si63_ hb); replace HK := Aside0.mk (KeepBut.trans (by repeat (first | (with_reducible first | exact HK.out | apply KeepBut.set_ | apply keep_drewN | apply keep_drew | apply keep_alloc | refine keep_far ?_ GW242.out _) | exact HK.out)) (KeepBut.of_below hb g none) (.inl rfl)); replace HB := Aside0.mk (below_step bl63_ hb); clear hb hbox hg; have hnb27 := NB255_242.out; have hnc27 := NB242_255.out; have hnb28 := NB255_0.out; have hnc28 := NB0_255.out; obtain ⟨hcz29_0, hcz29_1, hcz29_2, hcz29_3, hcz29_4, hfz29_0, hfz29_1, hfz29_2, hfz29_3, hfz29_4⟩ := cf5_ BK255.out) | ((with_reducible refine gate_callee (f := 17) rfl ?_); refine goesL_ (some 35) rfl rfl Tryd.func17 (by kernel_rfl) rfl #[.pointer (some ⟨g, 0, none⟩), .int .i64 2, .int .i64 3] rfl (by (try simp only [List.map_toArray, List.map_cons, List.map_nil]); first | done | rfl | (simp only [List.length_drop, List.length_take]; rfl)) ?_; (with_reducible refine (exactpplmake_Src_Range.calls g s0_0 x1001_3 x1002_3 2 3 t256 t257 t258 w0 _ ?side1 ?side2 A25.out).mono ?_); (case side1 => repeat (first | (with_reducible first | exact HI0.out | apply IsS63.alloc | apply IsS63.drewN | apply IsS63.drew | apply IsS63.set_1 | apply IsS63.set_2 | refine IsS63.far ?_ NB0_242.out _ | refine IsS63.far ?_ NB0_255.out _) | exact HI0.out)); (case side2 => repeat (first | (with_reducible first | exact HB.out | apply below_alloc | apply pw_below_drewN | apply below_drew1 | refine below_set ?_ (IsS63.ge HI0.out) | refine below_set ?_ GE242.out | refine below_set ?_ GE255.out) | exact HB.out)); rintro e w30 ⟨rfl, hi, hb, hk⟩; refine ⟨_, rfl, ?_⟩; replace BK242 := Aside0.mk (KeepBut.blk hk (g' := gb242) (o := .cells #[.int .i64 0, .int .i64 0, .int .i64 0, .int .i64 0, .slice none 0 0] 24 (0, 0)) (by (with_reducible repeat (first | refine blk_drewN ?_ _ | refine blk_drew ?_ | refine blk_alloc ?_ _)); refine blk_far ?_ NB242_255.out _; (with_reducible repeat (first | refine blk_drewN ?_ _ | refine blk_drew ?_ | refine blk_alloc ?_ _)); refine blk_far ?_ NB242_255.out _; (with_reducible repeat (first | refine blk_drewN ?_ _ | refine blk_drew ?_ | refine blk_alloc ?_ _)); refine blk_far ?_ NB242_255.out _; (with_reducible repeat (first | refine blk_drewN ?_ _ | refine blk_drew ?_ | refine blk_alloc ?_ _)); refine blk_far ?_ NB242_255.out _; (with_reducible repeat (first | refine blk_drewN ?_ _ | refine blk_drew ?_ | refine blk_alloc ?_ _)); refine blk_far ?_ NB242_255.out _; (with_reducible repeat (first | refine blk_drewN ?_ _ | refine blk_drew ?_ | refine blk_alloc ?_ _)); exact BK242.out) NB242_0.out (by simp)); replace BK255 := Aside0.mk (KeepBut.blk hk (g' := gb255) (o := .cells #[.int .i64 5, .int .i64 0, .int .i64 0, .int .i64 0, .slice none 0 0] 24 (0, 0)) (by (with_reducible repeat (first | refine blk_drewN ?_ _ | refine blk_drew ?_ | refine blk_alloc ?_ _)); refine blk_put (cs := #[.int .i64 5, .int .i64 0, .int .i64 0, .int .i64 0, .slice none 0 0]) ?_ 4 _ rfl; (with_reducible repeat (first | refine blk_drewN ?_ _ | refine blk_drew ?_ | refine blk_alloc ?_ _)); refine blk_put (cs := #[.int .i64 5, .int .i64 0, .int .i64 0, .int .i64 0, .slice none 0 0]) ?_ 3 _ rfl; (with_reducible repeat (first | refine blk_drewN ?_ _ | refine blk_drew ?_ | refine blk_alloc ?_ _)); refine blk_put (cs := #[.int .i64 5, .int .i64 0, .int .i64 0, .int .i64 0, .slice none 0 0]) ?_ 2 _ rfl; (with_reducible repeat (first | refine blk_drewN ?_ _ | refine blk_drew ?_ | refine blk_alloc ?_ _)); refine blk_put (cs := #[.int .i64 5, .int .i64 0, .int .i64 0, .int .i64 0, .slice none 0 0]) ?_ 1 _ rfl; (with_reducible repeat (first | refine blk_drewN ?_ _ | refine blk_drew ?_ | refine blk_alloc ?_ _)); refine blk_put (cs := #[.int .i64 0, .int .i64 0, .int .i64 0, .int .i64 0, .slice none 0 0]) ?_ 0 _ rfl; (with_reducible repeat (first | refine blk_drewN ?_ _ | refine blk_drew ?_ | refine blk_alloc ?_ _)); exact BK255.out) NB255_0.out (by simp)); replace HK := Aside0.mk (KeepBut.trans (by repeat (first | (with_reducible first | exact HK.out | apply KeepBut.set_ | apply keep_drewN | apply keep_drew | apply keep_alloc | refine keep_far ?_ GW242.out _ | refine keep_far ?_ GW255.out _) | exact HK.out)) hk (.inl rfl)); replace HB := Aside0.mk (hb); replace HI0 := Aside0.mk (hi); (try clear hb); (try clear hb2); (try clear hk); (try clear hi)))
          go_loopg [8] kj21 (fun kq v8 w' => ∃ (x8_4 : Int) (x1001_4 : Int) (x1002_4 : Int) (x256004_4 : List (S24)) (u256004 : Value), v8 = .int .i64 x8_4 ∧ Aside0 (exactpplmake_Src_Type.l0 kq a1 x8_4 s0_0 x1001_4 x1002_4 5 0 0 0 x256004_4 = some (r1, r2, r3, r4, r5, r6, r7)) ∧ Aside0 (kq ≤ kj21) ∧ Aside0 (Kd.N k24 24 w' w.heap.size (fun k_ => (w.heap.size ≤ k_) ∧ k_ ≠ gb242 ∧ k_ ≠ gb255 ∧ k_ ≠ g) u256004 x256004_4) ∧ Aside0 (w'.heap[gb242]? = some (.cells #[.int .i64 0, .int .i64 0, .int .i64 0, .int .i64 0, (.slice none 0 0)] 24 (0, 0))) ∧ Aside0 (w'.heap[gb255]? = some (.cells #[.int .i64 5, .int .i64 0, .int .i64 0, .int .i64 0, u256004] 24 (0, 0))) ∧ Aside0 (IsS63 w0 w' g s0_0 x1001_4 x1002_4) ∧ Aside0 (KeepBut w w' g none) ∧ Aside0 (Below w0.heap.size w0 w'))
          case atStart => exact ⟨(t256), (t257), (t258), (([] : List (S24))), (.slice none 0 0), rs_, H', ⟨Nat.le_refl _⟩, ⟨by first | exact Kd.R_nil _ _ _ _ _ | exact Kd.N_nil _ _ _ _ _ | exact Kd.V_nil _ _ _ _ _ | exact Kd.Q_nil _ _ _ _ _ | exact Kd.S_nil _ _ _ _ _⟩, ⟨bk_⟩, ⟨bk_⟩, ⟨si63_⟩, ⟨by repeat (first | (with_reducible first | exact HK.out | apply KeepBut.set_ | apply keep_drewN | apply keep_drew | apply keep_alloc | refine keep_far ?_ GW242.out _ | refine keep_far ?_ GW255.out _) | exact HK.out)⟩, ⟨bl63_⟩⟩
          case round =>
           clear H'
           try clear c1
           try clear c2
           try clear p2
           try clear p6
           try clear c7
           try clear c7b0
           try clear c10
           try clear c10b0
           try clear c10b1
           try clear c11
           try clear c14
           try clear c14b0
           try clear c14b1
           try clear c15
           try clear c17
           try clear c20
           try clear c23
           try clear c23b0
           try clear c23b1
           try clear c24
           try clear c27
           try clear c28
           try clear hcz12_0 hcz12_1 hcz12_2 hcz12_3 hcz12_4 hfz12_0 hfz12_1 hfz12_2 hfz12_3 hfz12_4
           try clear hcz21_0 hcz21_1 hcz21_2 hcz21_3 hcz21_4 hfz21_0 hfz21_1 hfz21_2 hfz21_3 hfz21_4
           try clear hcz29_0 hcz29_1 hcz29_2 hcz29_3 hcz29_4 hfz29_0 hfz29_1 hfz29_2 hfz29_3 hfz29_4
           try clear p2
           try clear p6
           obtain ⟨x8_4, x1001_4, x1002_4, x256004_4, u256004, rfl, HA, HK4, HO_256004, BK242, BK255, HI0, HK, HB⟩ := hrel
           cases gk with
           | zero => exact absurd HA.out (by simp [exactpplmake_Src_Type.l0])
           | succ k4 =>
            have H := HA.out
            clear HA
            simp only [exactpplmake_Src_Type.l0] at H
            by_cases c31 : x8_4 > 0
            ·rw [if_pos c31] at H
             have c31b0 : decide (0 < x8_4) = true := decide_eq_true c31
             clear c31
             replace H := Option.bind_eq_some_iff.mp H
             obtain ⟨⟨t259, t260, t261, t262, t263, t266, t267⟩, A320, H⟩ := H
             replace H : (if x256004_4.length < 2513169434916 then (exactpplmake_Src_Type.l0 k4 a1 (wrap64 (x8_4 - 1)) s0_0 t266 t267 5 0 0 0 (x256004_4 ++ [(⟨t259, t260, t261, t262, t263⟩ : S24)])) else (none)) = some (r1, r2, r3, r4, r5, r6, r7) := H
             have A32 := Aside0.mk A320
             clear A320
             by_cases c33 : x256004_4.length < 2513169434916
             ·rw [if_pos c33] at H
              have LMc33 := Aside0.mk c33
              clear c33
              obtain ⟨y268, hy268⟩ : ∃ y_ : List (S24), y_ = (x256004_4 ++ [(⟨t259, t260, t261, t262, t263⟩ : S24)]) := ⟨_, rfl⟩
              replace H : (exactpplmake_Src_Type.l0 k4 a1 (wrap64 (x8_4 - 1)) s0_0 t266 t267 5 0 0 0 y268) = some (r1, r2, r3, r4, r5, r6, r7) := by first | (rw [hy268]; with_reducible exact H) | (have H2_ := (Option.bind_some _ _).symm.trans H; rw [hy268]; with_reducible exact H2_) | (have H2_ := (Option.bind_some _ _).symm.trans H; with_reducible exact H2_) | with_reducible exact H | (rw [hy268]; exact H) | exact H
              have Ny268 := Aside0.mk hy268
              clear hy268
              have H' := Aside0.mk H
              clear H
              try go_wp2
              replace HO_256004 := Aside0.mk (Kd.N_drew HO_256004.out)
              replace BK242 := Aside0.mk (blk_drew BK242.out)
              replace BK255 := Aside0.mk (blk_drew BK255.out)
              replace HI0 := Aside0.mk (IsS63.drew HI0.out)
              replace HK := Aside0.mk (keep_drew HK.out)
              replace HB := Aside0.mk (below_drew1 HB.out)
              refine start_ (n := 10) (S := fun w' => w'.cell? ⟨gb255, 0, none⟩ = some (.int .i64 5) ∧ w'.cell? ⟨gb255, 1, none⟩ = some (.int .i64 0) ∧ w'.cell? ⟨gb255, 2, none⟩ = some (.int .i64 0) ∧ w'.cell? ⟨gb255, 3, none⟩ = some (.int .i64 0) ∧ w'.cell? ⟨gb255, 4, none⟩ = some (u256004)) (ds := [9]) #[false, false, false, false, false, false, false, false, false, false] (by kernel_rfl) rfl rfl ⟨(blk_cell BK255.out 0).trans rfl, (blk_cell BK255.out 1).trans rfl, (blk_cell BK255.out 2).trans rfl, (blk_cell BK255.out 3).trans rfl, (blk_cell BK255.out 4).trans rfl⟩ (fun hHeld => ?_); refine with_tabW exactpplmake_Src_Type.tab17 exactpplmake_Src_Type.bits17 (fun HT_ HW_ => ?_)
              generalize wr.drew = w34 at HO_256004 BK242 BK255 HI0 HK HB hHeld ⊢
              refine pure_ (i := 0) (N := some 40) (v := ?_) (a' := ?_) #[true, false, false, false, false, false, false, false, false, false] rfl rfl (any_of HT_.out (by kernel_rfl)) (fun _ _ _ h => h) (Or.inl ⟨by rfl, ?_⟩) ?_ ?_
              rotate_left
              ·intro w'
               go_simp
               with_reducible rfl
              rotate_left
              ·simp only [Act.put, List.setIfInBounds_toArray, List.set_cons_zero, List.set_cons_succ, i64_w, i32_w]
               rfl
              refine pure_ (i := 2) (N := some 42) (v := ?_) (a' := ?_) #[true, false, true, false, false, false, false, false, false, false] rfl rfl (any_of HT_.out (by kernel_rfl)) (fun _ _ _ h => h) (Or.inl ⟨by rfl, ?_⟩) ?_ ?_
              rotate_left
              ·intro w'
               go_simp
               with_reducible rfl
              rotate_left
              ·simp only [Act.put, List.setIfInBounds_toArray, List.set_cons_zero, List.set_cons_succ, i64_w, i32_w]
               rfl
              refine pure_ (i := 3) (N := some 43) (v := ?_) (a' := ?_) #[true, false, true, true, false, false, false, false, false, false] rfl rfl (any_of HT_.out (by kernel_rfl)) (fun _ _ _ h => h) (Or.inl ⟨by rfl, ?_⟩) ?_ ?_
              rotate_left
              ·intro w'
               go_simp
               with_reducible rfl
              rotate_left
              ·simp only [Act.put, List.setIfInBounds_toArray, List.set_cons_zero, List.set_cons_succ, i64_w, i32_w]
               rfl
              refine pure_ (i := 4) (N := some 44) (v := ?_) (a' := ?_) #[true, false, true, true, true, false, false, false, false, false] rfl rfl (any_of HT_.out (by kernel_rfl)) (fun _ _ _ h => h) (Or.inl ⟨by rfl, ?_⟩) ?_ ?_
              rotate_left
              ·intro w'
               go_simp
               with_reducible rfl
              rotate_left
              ·simp only [Act.put, List.setIfInBounds_toArray, List.set_cons_zero, List.set_cons_succ, i64_w, i32_w]
               rfl
              refine take_ (i := 1) (N := some 41) (v := ?_) (a' := ?_) #[true, true, true, true, true, false, false, false, false, false] rfl rfl (take_ofW HT_.out HW_.out (by kernel_rfl)) (fun _ _ _ h => h) (Or.inl ⟨by rfl, ?_⟩) hHeld ?_ ?_
              rotate_left
              ·rintro w' ⟨s0, s1, s2, s3, s4⟩
               go_simp
               with_reducible rfl
              rotate_left
              ·simp only [Act.put, List.setIfInBounds_toArray, List.set_cons_zero, List.set_cons_succ, i64_w, i32_w]
               rfl
              refine one_ (i := 5) (N := some 45) #[true, true, true, true, true, true, false, false, false, false] rfl rfl (one_of HT_.out (by kernel_rfl)) (by decide) (fun K hK => ?_)
              refine goes_ Tryd.func15 (by kernel_rfl) rfl #[.pointer (some ⟨g, 0, none⟩), .int .i64 (wrap64 (a1 - 1))] (by rfl) rfl rfl (by (try simp only [List.map_toArray, List.map_cons, List.map_nil]); first | done | rfl | (simp only [List.length_drop, List.length_take]; rfl)) ?_
              with_reducible refine (ih k4 (by have := HJ3.out; have := HJ12.out; have := HJ21.out; have := HK4.out; omega) g s0_0 x1001_4 x1002_4 (wrap64 (a1 - 1)) t259 t260 t261 t262 t263 t266 t267 w0 _ ?side1 ?side2 A32.out).mono ?_
              (case side1 => repeat (first | (with_reducible first | exact HI0.out | apply IsS63.alloc | apply IsS63.drewN | apply IsS63.drew | apply IsS63.set_1 | apply IsS63.set_2 | refine IsS63.far ?_ NB0_242.out _ | refine IsS63.far ?_ NB0_255.out _) | exact HI0.out))
              (case side2 => repeat (first | (with_reducible first | exact HB.out | apply below_alloc | apply pw_below_drewN | apply below_drew1 | refine below_set ?_ (IsS63.ge HI0.out) | refine below_set ?_ GE242.out | refine below_set ?_ GE255.out) | exact HB.out))
              rintro e w35 ⟨v264, rfl, ho0, hi, hb, hk⟩
              refine ⟨_, rfl, ?_⟩
              have HO265 := Aside0.mk (Kd.N_lower (Kd.N_mono (ok' := fun k_ => (w.heap.size ≤ k_) ∧ some k_ ≠ (u256004 : Value).ownBlock ∧ k_ ≠ gb242 ∧ k_ ≠ gb255 ∧ k_ ≠ g) ho0 (fun k_ hk_ => ⟨(Nat.le_trans (keep_size (w := w) (g := g) (row := none) (by repeat (first | (with_reducible first | exact HK.out | apply KeepBut.set_ | apply keep_drewN | apply keep_drew | apply keep_alloc | refine keep_far ?_ GW242.out _ | refine keep_far ?_ GW255.out _) | exact HK.out))) hk_), (Kd.fresh' (Kd.N_lt (pN_ HO_256004.out)) k_ hk_), (Kd.freshB (g := gb242) (o := .cells #[.int .i64 0, .int .i64 0, .int .i64 0, .int .i64 0, .slice none 0 0] 24 (0, 0)) bk_ k_ hk_), (Kd.freshB (g := gb255) (o := .cells #[.int .i64 5, .int .i64 0, .int .i64 0, .int .i64 0, u256004] 24 (0, 0)) bk_ k_ hk_), (IsS63.fresh si63_ k_ hk_)⟩)) (keep_size (w := w) (g := g) (row := none) (by repeat (first | (with_reducible first | exact HK.out | apply KeepBut.set_ | apply keep_drewN | apply keep_drew | apply keep_alloc | refine keep_far ?_ GW242.out _ | refine keep_far ?_ GW255.out _) | exact HK.out))))
              replace HO_256004 := Aside0.mk (Kd.N_mono (Kd.N_told (Kd.N_oldK (Kd.N_mono (ok := fun k_ => (((w.heap.size ≤ k_)) ∧ (k_ ≠ gb242 ∧ (k_ ≠ gb255 ∧ k_ ≠ g)))) (pN_ HO_256004.out) (fun k_ hk_ => (⟨hk_, hk_.2.2.2⟩ : _ ∧ k_ ≠ g))) hk) (by first | exact Kd.N_base ho0 | exact Kd.R_base ho0)) (fun _ h_ => h_.1))
              replace BK242 := Aside0.mk (KeepBut.blk hk (g' := gb242) (o := .cells #[.int .i64 0, .int .i64 0, .int .i64 0, .int .i64 0, .slice none 0 0] 24 (0, 0)) bk_ NB242_0.out (by simp))
              replace BK255 := Aside0.mk (KeepBut.blk hk (g' := gb255) (o := .cells #[.int .i64 5, .int .i64 0, .int .i64 0, .int .i64 0, u256004] 24 (0, 0)) bk_ NB255_0.out (by simp))
              replace HK := Aside0.mk (KeepBut.trans (by repeat (first | (with_reducible first | exact HK.out | apply KeepBut.set_ | apply keep_drewN | apply keep_drew | apply keep_alloc | refine keep_far ?_ GW242.out _ | refine keep_far ?_ GW255.out _) | exact HK.out)) hk (.inl rfl))
              replace HB := Aside0.mk (hb)
              replace HI0 := Aside0.mk (hi)
              (try clear hb)
              (try clear hb2)
              (try clear hk)
              (try clear hi)
              (try clear ho0)
              obtain ⟨Ao37, co37, eo37⟩ := Kd.N_slice HO265.out
              (first | subst eo37 | (injection eo37 with f1_ f2_ f3_; have f4_ := f1_.symm; have f5_ := f3_.symm; clear f1_ f2_ f3_; subst f4_; subst f5_))
              refine hK.out _ _ ⟨(blk_cell BK255.out 0).trans rfl, (blk_cell BK255.out 1).trans rfl, (blk_cell BK255.out 2).trans rfl, (blk_cell BK255.out 3).trans rfl, (blk_cell BK255.out 4).trans rfl⟩ (fun hHeld => ?_)
              clear hK K
              refine norm_ (a' := ?_) ?_ ?_
              rotate_left
              ·show Act.put _ (some 45) _ = _
               simp only [Act.put, List.setIfInBounds_toArray, List.set_cons_zero, List.set_cons_succ, i64_w, i32_w]
               rfl
              refine one_ (i := 6) (N := some 46) #[true, true, true, true, true, true, true, false, false, false] rfl rfl (one_of HT_.out (by kernel_rfl)) (by decide) (fun K hK => ?_)
              refine value_ (w1 := ?_) (v := ?_) (by rfl) rfl ?_ ?_
              rotate_left 2
              ·go_simp
               constructor
               ·rfl
               ·rfl
              refine hK.out _ _ ⟨(blk_cell (blk_alloc BK255.out _) 0).trans rfl, (blk_cell (blk_alloc BK255.out _) 1).trans rfl, (blk_cell (blk_alloc BK255.out _) 2).trans rfl, (blk_cell (blk_alloc BK255.out _) 3).trans rfl, (blk_cell (blk_alloc BK255.out _) 4).trans rfl⟩ (fun hHeld => ?_)
              clear hK K
              refine norm_ (a' := ?_) ?_ ?_
              rotate_left
              ·show Act.put _ (some 46) _ = _
               simp only [Act.put, List.setIfInBounds_toArray, List.set_cons_zero, List.set_cons_succ, i64_w, i32_w]
               rfl
              refine one_ (i := 7) (N := some 47) #[true, true, true, true, true, true, true, true, false, false] rfl rfl (one_of HT_.out (by kernel_rfl)) (by decide) (fun K hK => ?_)
              refine Kd.N_append_step k24 w.heap.size (by rfl) (.tmp 41) (.tmp 46) 22 24 (.agg #[(.int .i64 0), (.int .i64 0), (.int .i64 0), (.int .i64 0), (.slice none 0 0)]) 56 rfl Tryd.underlying22 info24 rfl (by decide) (by omega) u256004 x256004_4 (⟨t259, t260, t261, t262, t263⟩ : S24) [.int .i64 t259, .int .i64 t260, .int .i64 t261, .int .i64 t262, .slice Ao37 t263.length co37] (fun k_ => (w.heap.size ≤ k_) ∧ k_ ≠ gb242 ∧ k_ ≠ gb255 ∧ k_ ≠ g) (fun k_ => ((fun k_ => (w.heap.size ≤ k_) ∧ k_ ≠ gb242 ∧ k_ ≠ gb255 ∧ k_ ≠ g)) k_ ∧ some k_ ≠ (u256004 : Value).ownBlock) rfl rfl ?aP (fun _ hk => hk) ?aF ?aO (Below.refl _ _) ?aS ?aL ?_
              (case aP => exact (k24_mkF _ _ (⟨t259, t260, t261, t262, t263⟩ : S24) (Kd.N_reads' (Kd.N_mono (ok' := (fun k_ => ((fun k_ => (w.heap.size ≤ k_) ∧ k_ ≠ gb242 ∧ k_ ≠ gb255 ∧ k_ ≠ g)) k_ ∧ some k_ ≠ (u256004 : Value).ownBlock)) (HO265.out) (fun k_ hk => ⟨⟨hk.1, ⟨hk.2.2.1, ⟨hk.2.2.2.1, hk.2.2.2.2⟩⟩⟩, hk.2.1⟩))).2.1 (Kd.N_F (Kd.N_mono (ok' := (fun k_ => ((fun k_ => (w.heap.size ≤ k_) ∧ k_ ≠ gb242 ∧ k_ ≠ gb255 ∧ k_ ≠ g)) k_ ∧ some k_ ≠ (u256004 : Value).ownBlock)) (HO265.out) (fun k_ hk => ⟨⟨hk.1, ⟨hk.2.2.1, ⟨hk.2.2.2.1, hk.2.2.2.2⟩⟩⟩, hk.2.1⟩)))))
              (case aF => exact (fun k_ hk => ⟨(Nat.le_trans (keep_size (w := w) (g := g) (row := none) (by repeat (first | (with_reducible first | exact HK.out | apply KeepBut.set_ | apply keep_drewN | apply keep_drew | apply keep_alloc | refine keep_far ?_ GW242.out _ | refine keep_far ?_ GW255.out _) | exact HK.out))) hk), Kd.freshB (g := gb242) (o := .cells #[.int .i64 0, .int .i64 0, .int .i64 0, .int .i64 0, .slice none 0 0] 24 (0, 0)) bk_ k_ hk, Kd.freshB (g := gb255) (o := .cells #[.int .i64 5, .int .i64 0, .int .i64 0, .int .i64 0, u256004] 24 (0, 0)) bk_ k_ hk, IsS63.fresh si63_ k_ hk⟩))
              (case aO => exact (by (with_reducible repeat (first | apply Kd.N_alloc | apply Kd.N_drewN | apply Kd.N_drew)); exact Kd.N_mono HO_256004.out (fun _ hk => ⟨hk.1.1, ⟨hk.1.2.1, ⟨hk.1.2.2.1, hk.1.2.2.2⟩⟩⟩)))
              (case aS => exact (keep_size (w := w) (g := g) (row := none) (by repeat (first | (with_reducible first | exact HK.out | apply KeepBut.set_ | apply keep_drewN | apply keep_drew | apply keep_alloc | refine keep_far ?_ GW242.out _ | refine keep_far ?_ GW255.out _) | exact HK.out))))
              (case aL => have := LMc33.out; omega)
              intro v269 w36 ho hb hg hat
              rw [← Ny268.out] at ho
              have HO270 := Aside0.mk (ho)
              replace BK242 := Aside0.mk (blk_grown (g := gb242) (o := .cells #[.int .i64 0, .int .i64 0, .int .i64 0, .int .i64 0, .slice none 0 0] 24 (0, 0)) bk_ hg (Kd.N_away HO_256004.out (fun _ hk => hk.1.2.1)))
              replace BK255 := Aside0.mk (blk_grown (g := gb255) (o := .cells #[.int .i64 5, .int .i64 0, .int .i64 0, .int .i64 0, u256004] 24 (0, 0)) bk_ hg (Kd.N_away HO_256004.out (fun _ hk => hk.1.2.2.1)))
              replace HI0 := Aside0.mk (IsS63.grown si63_ hg (IsS63.own_neN HI0.out HO_256004.out (by decide)))
              replace HB := Aside0.mk (below_weaken bl63_ HL.out hb)
              replace HK := Aside0.mk (KeepBut.trans (by repeat (first | (with_reducible first | exact HK.out | apply KeepBut.set_ | apply keep_drewN | apply keep_drew | apply keep_alloc | refine keep_far ?_ GW242.out _ | refine keep_far ?_ GW255.out _) | exact HK.out)) (KeepBut.of_grown hg g) (Kd.N_base2 HO_256004.out))
              clear HO_256004 HO265
              clear ho hb hg hat
              obtain ⟨Ao38, co38, eo38⟩ := Kd.N_slice HO270.out
              (first | subst eo38 | (injection eo38 with f1_ f2_ f3_; have f4_ := f1_.symm; have f5_ := f3_.symm; clear f1_ f2_ f3_; subst f4_; subst f5_))
              refine hK.out _ _ ⟨(blk_cell BK255.out 0).trans rfl, (blk_cell BK255.out 1).trans rfl, (blk_cell BK255.out 2).trans rfl, (blk_cell BK255.out 3).trans rfl, (blk_cell BK255.out 4).trans rfl⟩ (fun hHeld => ?_)
              clear hK K
              refine norm_ (a' := ?_) ?_ ?_
              rotate_left
              ·show Act.put _ (some 47) _ = _
               simp only [Act.put, List.setIfInBounds_toArray, List.set_cons_zero, List.set_cons_succ, i64_w, i32_w]
               rfl
              refine pure_ (i := 8) (N := some 48) (v := ?_) (a' := ?_) #[true, true, true, true, true, true, true, true, true, false] rfl rfl (any_of HT_.out (by kernel_rfl)) (fun _ _ _ h => h) (Or.inl ⟨by rfl, ?_⟩) ?_ ?_
              rotate_left
              ·intro w'
               go_simp
               with_reducible rfl
              rotate_left
              ·simp only [Act.put, List.setIfInBounds_toArray, List.set_cons_zero, List.set_cons_succ, i64_w, i32_w]
               rfl
              refine last_ (i := 9) (N := none) #[true, true, true, true, true, true, true, true, true, true] rfl rfl (one_of HT_.out (by kernel_rfl)) (by decide) (fun K hK => ?_)
              have hs39 : w36.cell? ⟨gb255, 4, none⟩ = some (u256004) := (blk_cell BK255.out 4).trans rfl
              have hfs39 := blk_frozen BK255.out 4
              have hns39_0 := NB242_255.out
              have hms39_0 := NB255_242.out
              refine skip_ (w1 := ?_) (by rfl) rfl ?_ ?_
              rotate_left
              ·go_simp
               rfl
              refine hK.out _ _ ?_
              clear hK K
              refine done_ (done_of HT_.out (by kernel_rfl)) ?_
              try go_wp2
              go_roundg k4
              case measure => have := HJ3.out; have := HJ12.out; have := HJ21.out; have := HK4.out; omega
              case rel => exact ⟨(wrap64 (x8_4 - 1)), (t266), (t267), (y268), (.slice Ao38 y268.length co38), rs_, H', ⟨by have := HJ3.out; have := HJ12.out; have := HJ21.out; have := HK4.out; omega⟩, ⟨by (with_reducible repeat (first | apply Kd.N_alloc | apply Kd.N_drewN | apply Kd.N_drew)); exact Kd.N_mono (Kd.N_far (p := ⟨gb255, 4, none⟩) (Kd.N_mono HO270.out (fun k_ hk => (⟨hk, by first | exact hk.2.2.1 | exact hk.1 | exact hk.2 | exact hk.1.1 | exact hk.1.2⟩ : _ ∧ k_ ≠ gb255))) (fun _ hk => hk.2) (.slice Ao38 y268.length co38)) (fun _ hk => ⟨hk.1.1, ⟨hk.1.2.1, ⟨hk.1.2.2.1, hk.1.2.2.2⟩⟩⟩)⟩, ⟨by (with_reducible repeat (first | refine blk_drewN ?_ _ | refine blk_drew ?_ | refine blk_alloc ?_ _)); refine blk_far ?_ NB242_255.out _; (with_reducible repeat (first | refine blk_drewN ?_ _ | refine blk_drew ?_ | refine blk_alloc ?_ _)); exact BK242.out⟩, ⟨by (with_reducible repeat (first | refine blk_drewN ?_ _ | refine blk_drew ?_ | refine blk_alloc ?_ _)); refine blk_put (cs := #[.int .i64 5, .int .i64 0, .int .i64 0, .int .i64 0, u256004]) ?_ 4 _ rfl; (with_reducible repeat (first | refine blk_drewN ?_ _ | refine blk_drew ?_ | refine blk_alloc ?_ _)); exact BK255.out⟩, ⟨si63_⟩, ⟨by repeat (first | (with_reducible first | exact HK.out | apply KeepBut.set_ | apply keep_drewN | apply keep_drew | apply keep_alloc | refine keep_far ?_ GW242.out _ | refine keep_far ?_ GW255.out _) | exact HK.out)⟩, ⟨bl63_⟩⟩
             ·rw [if_neg c33] at H
              exact absurd H (by simp)
            ·rw [if_neg c31] at H
             have c31b0 : decide (0 < x8_4) = false := decide_eq_false c31
             clear c31
             simp only [Option.some.injEq, Prod.mk.injEq] at H
             obtain ⟨rfl, rfl, rfl, rfl, rfl, rfl, rfl⟩ := H
             have hnb40 := NB255_242.out
             have hnc40 := NB242_255.out
             have hnb41 := NB255_0.out
             have hnc41 := NB0_255.out
             obtain ⟨hcz42_0, hcz42_1, hcz42_2, hcz42_3, hcz42_4, hfz42_0, hfz42_1, hfz42_2, hfz42_3, hfz42_4⟩ := cf5_ BK255.out
             have hnb43 := NB242_0.out
             have hnc43 := NB0_242.out
             obtain ⟨hcz44_0, hcz44_1, hcz44_2, hcz44_3, hcz44_4, hfz44_0, hfz44_1, hfz44_2, hfz44_3, hfz44_4⟩ := cf5_ BK242.out
             obtain ⟨Ao45, co45, eo45⟩ := Kd.N_slice HO_256004.out
             subst eo45
             go_wp2
             refine bodyPost_ret (results_cell_row rfl _ _ gb242 24 #[.int .i64 5, .int .i64 0, .int .i64 0, .int .i64 0, .slice Ao45 x256004_4.length co45] (0, 0) _ rfl (by (with_reducible repeat (first | refine blk_drewN ?_ _ | refine blk_drew ?_ | refine blk_alloc ?_ _)); refine blk_put (cs := #[.int .i64 5, .int .i64 0, .int .i64 0, .int .i64 0, .slice none 0 0]) ?_ 4 _ rfl; (with_reducible repeat (first | refine blk_drewN ?_ _ | refine blk_drew ?_ | refine blk_alloc ?_ _)); refine blk_put (cs := #[.int .i64 5, .int .i64 0, .int .i64 0, .int .i64 0, .slice none 0 0]) ?_ 3 _ rfl; (with_reducible repeat (first | refine blk_drewN ?_ _ | refine blk_drew ?_ | refine blk_alloc ?_ _)); refine blk_put (cs := #[.int .i64 5, .int .i64 0, .int .i64 0, .int .i64 0, .slice none 0 0]) ?_ 2 _ rfl; (with_reducible repeat (first | refine blk_drewN ?_ _ | refine blk_drew ?_ | refine blk_alloc ?_ _)); refine blk_put (cs := #[.int .i64 5, .int .i64 0, .int .i64 0, .int .i64 0, .slice none 0 0]) ?_ 1 _ rfl; (with_reducible repeat (first | refine blk_drewN ?_ _ | refine blk_drew ?_ | refine blk_alloc ?_ _)); refine blk_put (cs := #[.int .i64 0, .int .i64 0, .int .i64 0, .int .i64 0, .slice none 0 0]) ?_ 0 _ rfl; (with_reducible repeat (first | refine blk_drewN ?_ _ | refine blk_drew ?_ | refine blk_alloc ?_ _)); exact BK242.out) Tryd.underlying24 rfl (by kernel_rfl)) rfl ?_
             exact ⟨_, re_, by (with_reducible repeat (first | apply Kd.N_alloc | apply Kd.N_drewN | apply Kd.N_drew)); exact Kd.N_mono (Kd.N_far (p := ⟨gb242, 4, none⟩) (Kd.N_far (p := ⟨gb242, 3, none⟩) (Kd.N_far (p := ⟨gb242, 2, none⟩) (Kd.N_far (p := ⟨gb242, 1, none⟩) (Kd.N_far (p := ⟨gb242, 0, none⟩) (Kd.N_mono HO_256004.out (fun k_ hk => (⟨hk, by first | exact hk.2.1 | exact hk.1 | exact hk.2 | exact hk.1.1 | exact hk.1.2⟩ : _ ∧ k_ ≠ gb242))) (fun _ hk => hk.2) (.int .i64 5)) (fun _ hk => hk.2) (.int .i64 0)) (fun _ hk => hk.2) (.int .i64 0)) (fun _ hk => hk.2) (.int .i64 0)) (fun _ hk => hk.2) (.slice Ao45 x256004_4.length co45)) (fun _ hk => hk.1.1), si63_, bl63_, by repeat (first | (with_reducible first | exact HK.out | apply KeepBut.set_ | apply keep_drewN | apply keep_drew | apply keep_alloc | refine keep_far ?_ GW242.out _ | refine keep_far ?_ GW255.out _) | exact HK.out)⟩
         ·replace c24 := Bool.eq_false_iff.mpr c24
          subst c24
          have H1 : ((exactpplmake_Src_Range.f s0_0 x1001_3 x1002_3 1 2).bind fun bt271 => ((exactpplmake_Src_Type.f kj21 s0_0 bt271.2.1 bt271.2.2 1).bind fun bt274 => (some (6, 0, 0, bt271.1, (([(⟨bt274.1, bt274.2.1, bt274.2.2.1, bt274.2.2.2.1, bt274.2.2.2.2.1⟩ : S24)] : List (S24))), bt274.2.2.2.2.2.1, bt274.2.2.2.2.2.2)))) = some (r1, r2, r3, r4, r5, r6, r7) := by rw [if_neg (show ¬ (false = true) by decide)] at H; exact H
          clear H
          have H := H1
          clear H1
          replace H := Option.bind_eq_some_iff.mp H
          obtain ⟨⟨t271, t272, t273⟩, A460, H⟩ := H
          replace H : ((exactpplmake_Src_Type.f kj21 s0_0 t272 t273 1).bind fun bt274 => (some (6, 0, 0, t271, (([(⟨bt274.1, bt274.2.1, bt274.2.2.1, bt274.2.2.2.1, bt274.2.2.2.2.1⟩ : S24)] : List (S24))), bt274.2.2.2.2.2.1, bt274.2.2.2.2.2.2))) = some (r1, r2, r3, r4, r5, r6, r7) := H
          have A46 := Aside0.mk A460
          clear A460
          replace H := Option.bind_eq_some_iff.mp H
          obtain ⟨⟨t274, t275, t276, t277, t278, t281, t282⟩, A470, H⟩ := H
          replace H : (some (6, 0, 0, t271, (([(⟨t274, t275, t276, t277, t278⟩ : S24)] : List (S24))), t281, t282)) = some (r1, r2, r3, r4, r5, r6, r7) := H
          have A47 := Aside0.mk A470
          clear A470
          obtain ⟨y283, hy283⟩ : ∃ y_ : List (S24), y_ = (([(⟨t274, t275, t276, t277, t278⟩ : S24)] : List (S24))) := ⟨_, rfl⟩
          replace H : (some (6, 0, 0, t271, y283, t281, t282)) = some (r1, r2, r3, r4, r5, r6, r7) := by first | (rw [hy283]; with_reducible exact H) | (have H2_ := (Option.bind_some _ _).symm.trans H; rw [hy283]; with_reducible exact H2_) | (have H2_ := (Option.bind_some _ _).symm.trans H; with_reducible exact H2_) | with_reducible exact H | (rw [hy283]; exact H) | exact H
          have Ny283 := Aside0.mk hy283
          clear hy283
          simp only [Option.some.injEq, Prod.mk.injEq] at H
          obtain ⟨rfl, rfl, rfl, rfl, rfl, rfl, rfl⟩ := H
          go_wp2_with (first | ((with_reducible refine gate_callee (f := 17) rfl ?_); refine goesL_ (some 51) rfl rfl Tryd.func17 (by kernel_rfl) rfl #[.pointer (some ⟨g, 0, none⟩), .int .i64 1, .int .i64 2] rfl (by (try simp only [List.map_toArray, List.map_cons, List.map_nil]); first | done | rfl | (simp only [List.length_drop, List.length_take]; rfl)) ?_; (with_reducible refine (exactpplmake_Src_Range.calls g s0_0 x1001_3 x1002_3 1 2 t271 t272 t273 w0 _ ?side1 ?side2 A46.out).mono ?_); (case side1 => repeat (first | (with_reducible first | exact HI0.out | apply IsS63.alloc | apply IsS63.drewN | apply IsS63.drew | apply IsS63.set_1 | apply IsS63.set_2 | refine IsS63.far ?_ NB0_242.out _) | exact HI0.out)); (case side2 => repeat (first | (with_reducible first | exact HB.out | apply below_alloc | apply pw_below_drewN | apply below_drew1 | refine below_set ?_ (IsS63.ge HI0.out) | refine below_set ?_ GE242.out) | exact HB.out)); rintro e w48 ⟨rfl, hi, hb, hk⟩; refine ⟨_, rfl, ?_⟩; replace BK242 := Aside0.mk (KeepBut.blk hk (g' := gb242) (o := .cells #[.int .i64 0, .int .i64 0, .int .i64 0, .int .i64 0, .slice none 0 0] 24 (0, 0)) bk_ NB242_0.out (by simp)); replace HK := Aside0.mk (KeepBut.trans (by repeat (first | (with_reducible first | exact HK.out | apply KeepBut.set_ | apply keep_drewN | apply keep_drew | apply keep_alloc | refine keep_far ?_ GW242.out _) | exact HK.out)) hk (.inl rfl)); replace HB := Aside0.mk (hb); replace HI0 := Aside0.mk (hi); (try clear hb); (try clear hb2); (try clear hk); (try clear hi)) | ((with_reducible refine gate_callee (f := 15) rfl ?_); refine goesL_ (some 53) rfl rfl Tryd.func15 (by kernel_rfl) rfl #[.pointer (some ⟨g, 0, none⟩), .int .i64 1] rfl (by (try simp only [List.map_toArray, List.map_cons, List.map_nil]); first | done | rfl | (simp only [List.length_drop, List.length_take]; rfl)) ?_; (with_reducible refine (ih kj21 (by have := HJ3.out; have := HJ12.out; have := HJ21.out; omega) g s0_0 t272 t273 1 t274 t275 t276 t277 t278 t281 t282 w0 _ ?side1 ?side2 A47.out).mono ?_); (case side1 => repeat (first | (with_reducible first | exact HI0.out | apply IsS63.alloc | apply IsS63.drewN | apply IsS63.drew | apply IsS63.set_1 | apply IsS63.set_2 | refine IsS63.far ?_ NB0_242.out _) | exact HI0.out)); (case side2 => repeat (first | (with_reducible first | exact HB.out | apply below_alloc | apply pw_below_drewN | apply below_drew1 | refine below_set ?_ (IsS63.ge HI0.out) | refine below_set ?_ GE242.out) | exact HB.out)); rintro e w49 ⟨v279, rfl, ho0, hi, hb, hk⟩; refine ⟨_, rfl, ?_⟩; have HO280 := Aside0.mk (Kd.N_lower (Kd.N_mono (ok' := fun k_ => (w.heap.size ≤ k_) ∧ k_ ≠ gb242 ∧ k_ ≠ g) ho0 (fun k_ hk_ => ⟨(Nat.le_trans (keep_size (w := w) (g := g) (row := none) (by repeat (first | (with_reducible first | exact HK.out | apply KeepBut.set_ | apply keep_drewN | apply keep_drew | apply keep_alloc | refine keep_far ?_ GW242.out _) | exact HK.out))) hk_), (Kd.freshB (g := gb242) (o := .cells #[.int .i64 0, .int .i64 0, .int .i64 0, .int .i64 0, .slice none 0 0] 24 (0, 0)) bk_ k_ hk_), (IsS63.fresh si63_ k_ hk_)⟩)) (keep_size (w := w) (g := g) (row := none) (by repeat (first | (with_reducible first | exact HK.out | apply KeepBut.set_ | apply keep_drewN | apply keep_drew | apply keep_alloc | refine keep_far ?_ GW242.out _) | exact HK.out)))); replace BK242 := Aside0.mk (KeepBut.blk hk (g' := gb242) (o := .cells #[.int .i64 0, .int .i64 0, .int .i64 0, .int .i64 0, .slice none 0 0] 24 (0, 0)) bk_ NB242_0.out (by simp)); replace HK := Aside0.mk (KeepBut.trans (by repeat (first | (with_reducible first | exact HK.out | apply KeepBut.set_ | apply keep_drewN | apply keep_drew | apply keep_alloc | refine keep_far ?_ GW242.out _) | exact HK.out)) hk (.inl rfl)); replace HB := Aside0.mk (hb); replace HI0 := Aside0.mk (hi); (try clear hb); (try clear hb2); (try clear hk); (try clear hi); (try clear ho0); obtain ⟨Ao50, co50, eo50⟩ := Kd.N_slice HO280.out; subst eo50) | ((with_reducible refine gate_dst (N := 54) rfl ?_); refine Kd.N_lit k24 _ 24 ?hg (N' := 54) ?hd (xs := ([(⟨t274, t275, t276, t277, t278⟩ : S24)] : List (S24))) (inner := [.int .i64 t274, .int .i64 t275, .int .i64 t276, .int .i64 t277, .slice Ao50 t278.length co50]) (ok := (fun k_ => (w.heap.size ≤ k_) ∧ k_ ≠ gb242 ∧ k_ ≠ g)) (okp := (fun k_ => (w.heap.size ≤ k_) ∧ k_ ≠ gb242 ∧ k_ ≠ g)) ?hr ?hp (fun _ hk => hk) ((show ∀ k_, w49.heap.size ≤ k_ → (fun k_ => (w.heap.size ≤ k_) ∧ k_ ≠ gb242 ∧ k_ ≠ g) k_ from fun k_ hk => ⟨(Nat.le_trans (keep_size (w := w) (g := g) (row := none) (by repeat (first | (with_reducible first | exact HK.out | apply KeepBut.set_ | apply keep_drewN | apply keep_drew | apply keep_alloc | refine keep_far ?_ GW242.out _) | exact HK.out))) hk), Kd.freshB (g := gb242) (o := .cells #[.int .i64 0, .int .i64 0, .int .i64 0, .int .i64 0, .slice none 0 0] 24 (0, 0)) bk_ k_ hk, IsS63.fresh si63_ k_ hk⟩) _ (Nat.le_refl _)) (Below.refl _ _) (Nat.le_refl _) (by simp) ?_; (case hd => rfl); (case hg => rfl); (case hr => first | (go_simp; done) | (go_simp; rfl)); (case hp => exact (Reps.c5 (show Kd.FK k24 _ _ (⟨t274, t275, t276, t277, t278⟩ : S24) [.int .i64 t274, .int .i64 t275, .int .i64 t276, .int .i64 t277, .slice Ao50 t278.length co50] from (k24_mkF _ _ (⟨t274, t275, t276, t277, t278⟩ : S24) (Kd.N_reads' (Kd.N_mono (ok' := (fun k_ => (w.heap.size ≤ k_) ∧ k_ ≠ gb242 ∧ k_ ≠ g)) (HO280.out) (fun k_ hk => ⟨hk.1, ⟨hk.2.1, hk.2.2⟩⟩))).2.1 (Kd.N_F (Kd.N_mono (ok' := (fun k_ => (w.heap.size ≤ k_) ∧ k_ ≠ gb242 ∧ k_ ≠ g)) (HO280.out) (fun k_ hk => ⟨hk.1, ⟨hk.2.1, hk.2.2⟩⟩))))) (Reps.none _ _))); intro v284 w51 ho52 hb hg_ hnew_; clear hg_ hnew_; (first | rw [← Ny283.out] at ho52 | (simp only [Int.reduceToNat] at ho52; rw [← Ny283.out] at ho52)); have HO285 := Aside0.mk (Kd.N_lower ho52 (keep_size (w := w) (g := g) (row := none) (by repeat (first | (with_reducible first | exact HK.out | apply KeepBut.set_ | apply keep_drewN | apply keep_drew | apply keep_alloc | refine keep_far ?_ GW242.out _) | exact HK.out)))); replace BK242 := Aside0.mk (blk_below (g := gb242) (o := .cells #[.int .i64 0, .int .i64 0, .int .i64 0, .int .i64 0, .slice none 0 0] 24 (0, 0)) bk_ hb); replace HI0 := Aside0.mk (IsS63.below si63_ hb); replace HK := Aside0.mk (KeepBut.trans (by repeat (first | (with_reducible first | exact HK.out | apply KeepBut.set_ | apply keep_drewN | apply keep_drew | apply keep_alloc | refine keep_far ?_ GW242.out _) | exact HK.out)) (KeepBut.of_below hb g none) (.inl rfl)); replace HB := Aside0.mk (below_step bl63_ hb); clear HO280; clear hb ho52; obtain ⟨Ao53, co53, eo53⟩ := Kd.N_slice HO285.out; subst eo53; have hnb54 := NB242_0.out; have hnc54 := NB0_242.out; obtain ⟨hcz55_0, hcz55_1, hcz55_2, hcz55_3, hcz55_4, hfz55_0, hfz55_1, hfz55_2, hfz55_3, hfz55_4⟩ := cf5_ BK242.out))
          refine bodyPost_ret (results_cell_row rfl _ _ gb242 24 #[.int .i64 6, .int .i64 0, .int .i64 0, .int .i64 t271, .slice Ao53 y283.length co53] (0, 0) _ rfl (by (with_reducible repeat (first | refine blk_drewN ?_ _ | refine blk_drew ?_ | refine blk_alloc ?_ _)); refine blk_put (cs := #[.int .i64 6, .int .i64 0, .int .i64 0, .int .i64 t271, .slice none 0 0]) ?_ 4 _ rfl; (with_reducible repeat (first | refine blk_drewN ?_ _ | refine blk_drew ?_ | refine blk_alloc ?_ _)); refine blk_put (cs := #[.int .i64 6, .int .i64 0, .int .i64 0, .int .i64 0, .slice none 0 0]) ?_ 3 _ rfl; (with_reducible repeat (first | refine blk_drewN ?_ _ | refine blk_drew ?_ | refine blk_alloc ?_ _)); refine blk_put (cs := #[.int .i64 6, .int .i64 0, .int .i64 0, .int .i64 0, .slice none 0 0]) ?_ 2 _ rfl; (with_reducible repeat (first | refine blk_drewN ?_ _ | refine blk_drew ?_ | refine blk_alloc ?_ _)); refine blk_put (cs := #[.int .i64 6, .int .i64 0, .int .i64 0, .int .i64 0, .slice none 0 0]) ?_ 1 _ rfl; (with_reducible repeat (first | refine blk_drewN ?_ _ | refine blk_drew ?_ | refine blk_alloc ?_ _)); refine blk_put (cs := #[.int .i64 0, .int .i64 0, .int .i64 0, .int .i64 0, .slice none 0 0]) ?_ 0 _ rfl; (with_reducible repeat (first | refine blk_drewN ?_ _ | refine blk_drew ?_ | refine blk_alloc ?_ _)); exact BK242.out) Tryd.underlying24 rfl (by kernel_rfl)) rfl ?_
          exact ⟨_, re_, by (with_reducible repeat (first | apply Kd.N_alloc | apply Kd.N_drewN | apply Kd.N_drew)); exact Kd.N_mono (Kd.N_far (p := ⟨gb242, 4, none⟩) (Kd.N_far (p := ⟨gb242, 3, none⟩) (Kd.N_far (p := ⟨gb242, 2, none⟩) (Kd.N_far (p := ⟨gb242, 1, none⟩) (Kd.N_far (p := ⟨gb242, 0, none⟩) (Kd.N_mono HO285.out (fun k_ hk => (⟨hk, by first | exact hk.2.1 | exact hk.1 | exact hk.2 | exact hk.1.1 | exact hk.1.2⟩ : _ ∧ k_ ≠ gb242))) (fun _ hk => hk.2) (.int .i64 6)) (fun _ hk => hk.2) (.int .i64 0)) (fun _ hk => hk.2) (.int .i64 0)) (fun _ hk => hk.2) (.int .i64 t271)) (fun _ hk => hk.2) (.slice Ao53 y283.length co53)) (fun _ hk => hk.1.1), si63_, bl63_, by repeat (first | (with_reducible first | exact HK.out | apply KeepBut.set_ | apply keep_drewN | apply keep_drew | apply keep_alloc | refine keep_far ?_ GW242.out _) | exact HK.out)⟩

end Go.Proofs.YtggelekooacmnaaDoor.R
