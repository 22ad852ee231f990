/- Lemmas for: Proved: the tied card of exactppllaw19.DiagramUnique (for every input the law returns true). Conditions: none beyond the given row. -/
import Derived.Lib.RowBridge
import Derived.Shelf.Slices.In.SortNone
import Derived.StillTailTactics
import Derived.SizedLaws
import Derived.ChangeSlices
import Derived.Test.YtopbjginpmdebaaDoorUn2
import Derived.Test.YtopbjginpmdebaaDoorUn3
import Derived.Test.YtopbjginpmdebaaDoorUn4
import Derived.Test.YtopbjginpmdebaaDoorUn5
namespace Go.Proofs.YtopbjginpmdebaaDoor.K
open Go.RowKit Go.Proofs.YtopbjginpmdebaaDoorW.PrintWords Go.Proofs.YtopbjginpmdebaaDoorW.PrintLast Go.Proofs.YtopbjginpmdebaaDoorW.PrintMore
attribute [local go_sem] max2_int min2_int max_two min_two max_three min_three max_four min_four   -- for this text's walks alone
set_option linter.unusedVariables false
set_option linter.unusedSimpArgs false

/-! ### exactpplmake_Src_Nodes: function 16 -/
mutual
def exactpplmake_Src_Nodes.l0 : Nat → List (S60) → Int → List Int → Int → Int → Option ((List (S60)) × Int × Int)
 | 0, _, _, _, _, _ => none
 | k + 1, x3, x4, x1000, x1001, x1002 => if x4 > 0 then ((exactpplmake_Src_Range.f x1000 x1001 x1002 (-2) 2).bind fun bt243 => (if (x3.length : Int) > 0 then ((exactpplmake_Src_N.f x1000 bt243.2.1 bt243.2.2 3).bind fun bt247 => (exactpplmake_Src_Nodes.j1 k x3 x4 (decide (bt247.1 > 0)) x1000 bt247.2.1 bt247.2.2 (-1) bt243.1)) else (exactpplmake_Src_Nodes.j1 k x3 x4 false x1000 bt243.2.1 bt243.2.2 (-1) bt243.1))) else (some (x3, x1001, x1002))
def exactpplmake_Src_Nodes.j1 : Nat → List (S60) → Int → Bool → List Int → Int → Int → Int → Int → Option ((List (S60)) × Int × Int)
 | 0, _, _, _, _, _, _, _, _ => none
 | k + 1, x3, x4, x23, x1000, x1001, x1002, x247000, x247001 => if x23 = true then ((exactpplmake_Src_N.f x1000 x1001 x1002 3).bind fun bt250 => (exactpplmake_Src_Nodes.l1 k x3 x4 0 x1000 bt250.2.1 bt250.2.2 bt250.1 0 ([] : List Int))) else (exactpplmake_Src_Nodes.j3 k x3 x4 x1000 x1001 x1002 x247000 x247001 ([] : List Int))
def exactpplmake_Src_Nodes.j3 : Nat → List (S60) → Int → List Int → Int → Int → Int → Int → List Int → Option ((List (S60)) × Int × Int)
 | 0, _, _, _, _, _, _, _, _ => none
 | k + 1, x3, x4, x1000, x1001, x1002, x247000, x247001, x247002 => (exactpplmake_Src_N.f x1000 x1001 x1002 24).bind fun bt260 => (if bt260.1 = 0 then ((exactpplmake_Src_Pick.f x1000 bt260.2.1 bt260.2.2 (([(-2), (-1), 0, 63, 64] : List Int))).bind fun bt266 => (if x3.length < 3518437208883 then (exactpplmake_Src_Nodes.l0 k (x3 ++ [(⟨bt266.1, x247001, x247002⟩ : S60)]) (wrap64 (x4 - 1)) x1000 bt266.2.1 bt266.2.2) else (none))) else (if bt260.1 = 1 then ((exactpplmake_Src_Pick.f x1000 bt260.2.1 bt260.2.2 (([1073741824, 1073741825, (-1073741824), (-1073741825)] : List Int))).bind fun bt275 => (if x3.length < 3518437208883 then (exactpplmake_Src_Nodes.l0 k (x3 ++ [(⟨x247000, bt275.1, x247002⟩ : S60)]) (wrap64 (x4 - 1)) x1000 bt275.2.1 bt275.2.2) else (none))) else (if bt260.1 = 2 then ((exactpplmake_Src_Range.f x1000 bt260.2.1 bt260.2.2 (-1) (x3.length : Int)).bind fun bt281 => (if x247002.length < 17592186044416 then (if x3.length < 3518437208883 then (exactpplmake_Src_Nodes.l0 k (x3 ++ [(⟨x247000, x247001, (x247002 ++ [bt281.1])⟩ : S60)]) (wrap64 (x4 - 1)) x1000 bt281.2.1 bt281.2.2) else (none)) else (none))) else (if x3.length < 3518437208883 then (exactpplmake_Src_Nodes.l0 k (x3 ++ [(⟨x247000, x247001, x247002⟩ : S60)]) (wrap64 (x4 - 1)) x1000 bt260.2.1 bt260.2.2) else (none)))))
def exactpplmake_Src_Nodes.l1 : Nat → List (S60) → Int → Int → List Int → Int → Int → Int → Int → List Int → Option ((List (S60)) × Int × Int)
 | 0, _, _, _, _, _, _, _, _, _ => none
 | k + 1, x3, x4, x6, x1000, x1001, x1002, x247000, x247001, x247002 => (exactpplmake_Width.f x247000).bind fun t253 => (if x6 < t253 then ((exactpplmake_Src_N.f x1000 x1001 x1002 (x3.length : Int)).bind fun bt254 => (if x247002.length < 17592186044416 then (exactpplmake_Src_Nodes.l1 k x3 x4 (wrap64 (x6 + 1)) x1000 bt254.2.1 bt254.2.2 x247000 x247001 (x247002 ++ [bt254.1])) else (none))) else (exactpplmake_Src_Nodes.j3 k x3 x4 x1000 x1001 x1002 x247000 x247001 x247002))
end
def exactpplmake_Src_Nodes.f (k : Nat) (s0_0 : List Int) (s0_1 : Int) (s0_2 : Int) : Option ((List (S60)) × Int × Int) := (exactpplmake_Src_N.f s0_0 s0_1 s0_2 9).bind fun bt240 => (exactpplmake_Src_Nodes.l0 k ([] : List (S60)) bt240.1 s0_0 bt240.2.1 bt240.2.2)
theorem exactpplmake_Src_Nodes.mono_l : ∀ k, (∀ y0 y1 y2 y3 y4, LeO (exactpplmake_Src_Nodes.l0 k y0 y1 y2 y3 y4) (exactpplmake_Src_Nodes.l0 (k + 1) y0 y1 y2 y3 y4)) ∧ (∀ y0 y1 y2 y3 y4 y5 y6 y7, LeO (exactpplmake_Src_Nodes.j1 k y0 y1 y2 y3 y4 y5 y6 y7) (exactpplmake_Src_Nodes.j1 (k + 1) y0 y1 y2 y3 y4 y5 y6 y7)) ∧ (∀ y0 y1 y2 y3 y4 y5 y6 y7, LeO (exactpplmake_Src_Nodes.j3 k y0 y1 y2 y3 y4 y5 y6 y7) (exactpplmake_Src_Nodes.j3 (k + 1) y0 y1 y2 y3 y4 y5 y6 y7)) ∧ (∀ y0 y1 y2 y3 y4 y5 y6 y7 y8, LeO (exactpplmake_Src_Nodes.l1 k y0 y1 y2 y3 y4 y5 y6 y7 y8) (exactpplmake_Src_Nodes.l1 (k + 1) y0 y1 y2 y3 y4 y5 y6 y7 y8))
 | 0 => ⟨fun _ _ _ _ _ r h => by simp [exactpplmake_Src_Nodes.l0] at h, fun _ _ _ _ _ _ _ _ r h => by simp [exactpplmake_Src_Nodes.j1] at h, fun _ _ _ _ _ _ _ _ r h => by simp [exactpplmake_Src_Nodes.j3] at h, fun _ _ _ _ _ _ _ _ _ r h => by simp [exactpplmake_Src_Nodes.l1] at h⟩
 | k + 1 => by
  obtain ⟨ih0, ih1, ih2, ih3⟩ := exactpplmake_Src_Nodes.mono_l k
  refine ⟨?_, ?_, ?_, ?_⟩
  ·intro y0 y1 y2 y3 y4
   unfold exactpplmake_Src_Nodes.l0
   repeat' first
   | (with_reducible exact ih0 _ _ _ _ _)
   | (with_reducible exact ih1 _ _ _ _ _ _ _ _)
   | (with_reducible exact ih2 _ _ _ _ _ _ _ _)
   | (with_reducible exact ih3 _ _ _ _ _ _ _ _ _)
   | (with_reducible exact LeO.refl _)
   | (with_reducible exact LeO.none _)
   | (with_reducible refine LeO.ite ?_ ?_)
   | (with_reducible refine LeO.bind ?_ (fun _ => ?_))
   | exact ih0 _ _ _ _ _
   | exact ih1 _ _ _ _ _ _ _ _
   | exact ih2 _ _ _ _ _ _ _ _
   | exact ih3 _ _ _ _ _ _ _ _ _
   | exact LeO.none _
   | refine LeO.ite ?_ ?_
   | refine LeO.bind ?_ (fun _ => ?_)
  ·intro y0 y1 y2 y3 y4 y5 y6 y7
   unfold exactpplmake_Src_Nodes.j1
   repeat' first
   | (with_reducible exact ih0 _ _ _ _ _)
   | (with_reducible exact ih1 _ _ _ _ _ _ _ _)
   | (with_reducible exact ih2 _ _ _ _ _ _ _ _)
   | (with_reducible exact ih3 _ _ _ _ _ _ _ _ _)
   | (with_reducible exact LeO.refl _)
   | (with_reducible exact LeO.none _)
   | (with_reducible refine LeO.ite ?_ ?_)
   | (with_reducible refine LeO.bind ?_ (fun _ => ?_))
   | exact ih0 _ _ _ _ _
   | exact ih1 _ _ _ _ _ _ _ _
   | exact ih2 _ _ _ _ _ _ _ _
   | exact ih3 _ _ _ _ _ _ _ _ _
   | exact LeO.none _
   | refine LeO.ite ?_ ?_
   | refine LeO.bind ?_ (fun _ => ?_)
  ·intro y0 y1 y2 y3 y4 y5 y6 y7
   unfold exactpplmake_Src_Nodes.j3
   repeat' first
   | (with_reducible exact ih0 _ _ _ _ _)
   | (with_reducible exact ih1 _ _ _ _ _ _ _ _)
   | (with_reducible exact ih2 _ _ _ _ _ _ _ _)
   | (with_reducible exact ih3 _ _ _ _ _ _ _ _ _)
   | (with_reducible exact LeO.refl _)
   | (with_reducible exact LeO.none _)
   | (with_reducible refine LeO.ite ?_ ?_)
   | (with_reducible refine LeO.bind ?_ (fun _ => ?_))
   | exact ih0 _ _ _ _ _
   | exact ih1 _ _ _ _ _ _ _ _
   | exact ih2 _ _ _ _ _ _ _ _
   | exact ih3 _ _ _ _ _ _ _ _ _
   | exact LeO.none _
   | refine LeO.ite ?_ ?_
   | refine LeO.bind ?_ (fun _ => ?_)
  ·intro y0 y1 y2 y3 y4 y5 y6 y7 y8
   unfold exactpplmake_Src_Nodes.l1
   repeat' first
   | (with_reducible exact ih0 _ _ _ _ _)
   | (with_reducible exact ih1 _ _ _ _ _ _ _ _)
   | (with_reducible exact ih2 _ _ _ _ _ _ _ _)
   | (with_reducible exact ih3 _ _ _ _ _ _ _ _ _)
   | (with_reducible exact LeO.refl _)
   | (with_reducible exact LeO.none _)
   | (with_reducible refine LeO.ite ?_ ?_)
   | (with_reducible refine LeO.bind ?_ (fun _ => ?_))
   | exact ih0 _ _ _ _ _
   | exact ih1 _ _ _ _ _ _ _ _
   | exact ih2 _ _ _ _ _ _ _ _
   | exact ih3 _ _ _ _ _ _ _ _ _
   | exact LeO.none _
   | refine LeO.ite ?_ ?_
   | refine LeO.bind ?_ (fun _ => ?_)
theorem exactpplmake_Src_Nodes.mono : ∀ a0 a1 a2 k, LeO (exactpplmake_Src_Nodes.f k a0 a1 a2) (exactpplmake_Src_Nodes.f (k + 1) a0 a1 a2) := by
 intro a0 a1 a2 k
 obtain ⟨ih0, ih1, ih2, ih3⟩ := exactpplmake_Src_Nodes.mono_l k
 unfold exactpplmake_Src_Nodes.f
 repeat' first
   | (with_reducible exact ih0 _ _ _ _ _)
   | (with_reducible exact ih1 _ _ _ _ _ _ _ _)
   | (with_reducible exact ih2 _ _ _ _ _ _ _ _)
   | (with_reducible exact ih3 _ _ _ _ _ _ _ _ _)
   | (with_reducible exact LeO.refl _)
   | (with_reducible exact LeO.none _)
   | (with_reducible refine LeO.ite ?_ ?_)
   | (with_reducible refine LeO.bind ?_ (fun _ => ?_))
   | exact ih0 _ _ _ _ _
   | exact ih1 _ _ _ _ _ _ _ _
   | exact ih2 _ _ _ _ _ _ _ _
   | exact ih3 _ _ _ _ _ _ _ _ _
   | exact LeO.none _
   | refine LeO.ite ?_ ?_
   | refine LeO.bind ?_ (fun _ => ?_)
def exactpplmake_Src_Nodes.T11 : Bool × List (List Nat × List Nat) := (true, [([], []), ([0], [0]), ([], []), ([], []), ([3], [3]), ([2, 4], [2, 4]), ([5], [5]), ([1, 6, 5], [1, 6]), ([0, 1, 2, 3, 4, 5, 6, 7], []), ([8, 7, 7, 0, 1, 2, 3, 4, 5, 6, 7], [7, 8])])
def exactpplmake_Src_Nodes.B11 : List Nat := [0, 1, 0, 0, 8, 28, 60, 127, 255, 511]
theorem exactpplmake_Src_Nodes.tab11 : rtab .any (opsOf Tryd.f16 11) = exactpplmake_Src_Nodes.T11 := by kernel_rfl
theorem exactpplmake_Src_Nodes.bits11 : waitsOk exactpplmake_Src_Nodes.T11.2 exactpplmake_Src_Nodes.B11 = true := by kernel_rfl
def exactpplmake_Src_Nodes.T18 : Bool × List (List Nat × List Nat) := (true, [([], []), ([0], [0]), ([], []), ([], []), ([3], [3]), ([2, 4], [2, 4]), ([5], [5]), ([1, 6, 5], [1, 6]), ([0, 1, 2, 3, 4, 5, 6, 7], []), ([8, 7, 7, 0, 1, 2, 3, 4, 5, 6, 7], [7, 8])])
def exactpplmake_Src_Nodes.B18 : List Nat := [0, 1, 0, 0, 8, 28, 60, 127, 255, 511]
theorem exactpplmake_Src_Nodes.tab18 : rtab .any (opsOf Tryd.f16 18) = exactpplmake_Src_Nodes.T18 := by kernel_rfl
theorem exactpplmake_Src_Nodes.bits18 : waitsOk exactpplmake_Src_Nodes.T18.2 exactpplmake_Src_Nodes.B18 = true := by kernel_rfl
set_option maxHeartbeats 8000000 in
set_option maxRecDepth 100000 in
theorem exactpplmake_Src_Nodes.calls (k : Nat) (g : Nat) (s0_0 : List Int) (s0_1 : Int) (s0_2 : Int) (r1 : List (S60)) (r2 : Int) (r3 : Int) (w0 w : World) (hI : IsS58 w0 w g s0_0 s0_1 s0_2) (hB : Below w0.heap.size w0 w) (h : exactpplmake_Src_Nodes.f k s0_0 s0_1 s0_2 = some (r1, r2, r3)) :
  Calls Tryd.prog 16 #[.pointer (some ⟨g, 0, none⟩)] w fun e w' => ∃ v0_ : Value, e = .returned (v0_) ∧ Kd.S k60 60 w' w.heap.size (fun _ => True) v0_ r1 ∧ IsS58 w0 w' g s0_0 r2 r3 ∧ Below w0.heap.size w0 w' ∧ KeepBut w w' g none := by
 have hu60 := Tryd.underlying60
 have HI0 := Aside0.mk hI
 have HK := Aside0.mk (KeepBut.refl w g none)
 have HL := Aside0.mk hB.size
 clear hI
 have HW0 := Aside0.mk hB.size
 have HB := Aside0.mk hB
 clear hB
 have H : ((exactpplmake_Src_N.f s0_0 s0_1 s0_2 9).bind fun bt240 => (exactpplmake_Src_Nodes.l0 k ([] : List (S60)) bt240.1 s0_0 bt240.2.1 bt240.2.2)) = some (r1, r2, r3) := h
 clear h
 replace H := Option.bind_eq_some_iff.mp H
 obtain ⟨⟨t240, t241, t242⟩, A20, H⟩ := H
 replace H : (exactpplmake_Src_Nodes.l0 k ([] : List (S60)) t240 s0_0 t241 t242) = some (r1, r2, r3) := H
 have A2 := Aside0.mk A20
 clear A20
 have H' := Aside0.mk H
 clear H
 go_enter Tryd.func16, Tryd.ntmps16
 go_wp2_with (first | ((with_reducible refine gate_callee (f := 23) rfl ?_); refine goesL_ (some 8) rfl rfl Tryd.func23 (by kernel_rfl) rfl #[.pointer (some ⟨g, 0, none⟩), .int .i64 9] rfl (by (try simp only [List.map_toArray, List.map_cons, List.map_nil]); first | done | rfl | (simp only [List.length_drop, List.length_take]; rfl)) ?_; (with_reducible refine (exactpplmake_Src_N.calls g s0_0 s0_1 s0_2 9 t240 t241 t242 w0 _ ?side1 ?side2 A2.out).mono ?_); (case side1 => repeat (first | (with_reducible first | exact HI0.out | apply IsS58.alloc | apply IsS58.drewN | apply IsS58.drew | apply IsS58.set_1 | apply IsS58.set_2) | exact HI0.out)); (case side2 => repeat (first | (with_reducible first | exact HB.out | apply below_alloc | apply pw_below_drewN | apply below_drew1 | refine below_set ?_ (IsS58.ge HI0.out)) | exact HB.out)); rintro e w3 ⟨rfl, hi, hb, hk⟩; refine ⟨_, rfl, ?_⟩; replace HK := Aside0.mk (KeepBut.trans (by repeat (first | (with_reducible first | exact HK.out | apply KeepBut.set_ | apply keep_drewN | apply keep_drew | apply keep_alloc) | exact HK.out)) hk (.inl rfl)); replace HB := Aside0.mk (hb); replace HI0 := Aside0.mk (hi); (try clear hb); (try clear hb2); (try clear hk); (try clear hi)))
 go_loopg [3, 4] k (fun kq v3 v4 w' => ∃ (x3_1 : List (S60)) (x4_1 : Int) (x1001_1 : Int) (x1002_1 : Int), v4 = .int .i64 x4_1 ∧ Aside0 (exactpplmake_Src_Nodes.l0 kq x3_1 x4_1 s0_0 x1001_1 x1002_1 = some (r1, r2, r3)) ∧ Aside0 (kq ≤ k) ∧ Aside0 (Kd.S k60 60 w' w.heap.size (fun _ => True) v3 x3_1) ∧ Aside0 (IsS58 w0 w' g s0_0 x1001_1 x1002_1) ∧ Aside0 (KeepBut w w' g none) ∧ Aside0 (Below w0.heap.size w0 w'))
 case atStart => exact ⟨(([] : List (S60))), (t240), (t241), (t242), rs_, H', ⟨Nat.le_refl _⟩, ⟨by first | exact Kd.S_nil _ _ _ _ _ | exact Kd.N_nil _ _ _ _ _ | exact Kd.V_nil _ _ _ _ _ | exact Kd.Q_nil _ _ _ _ _ | exact Kd.R_nil _ _ _ _ _⟩, ⟨si_⟩, ⟨by repeat (first | (with_reducible first | exact HK.out | apply KeepBut.set_ | apply keep_drewN | apply keep_drew | apply keep_alloc) | exact HK.out)⟩, ⟨bl_⟩⟩
 case round =>
  clear H'
  try clear c1
  try clear c2
  try clear p2
  obtain ⟨x3_1, x4_1, x1001_1, x1002_1, rfl, HA, HK1, HO_3, HI0, HK, HB⟩ := hrel
  cases gk with
  | zero => exact absurd HA.out (by simp [exactpplmake_Src_Nodes.l0])
  | succ k1 =>
   have H := HA.out
   clear HA
   simp only [exactpplmake_Src_Nodes.l0] at H
   by_cases c4 : x4_1 > 0
   ·rw [if_pos c4] at H
    have c4b0 : decide (0 < x4_1) = true := decide_eq_true c4
    clear c4
    replace H := Option.bind_eq_some_iff.mp H
    obtain ⟨⟨t243, t244, t245⟩, A50, H⟩ := H
    replace H : (if (x3_1.length : Int) > 0 then ((exactpplmake_Src_N.f s0_0 t244 t245 3).bind fun bt247 => (exactpplmake_Src_Nodes.j1 k1 x3_1 x4_1 (decide (bt247.1 > 0)) s0_0 bt247.2.1 bt247.2.2 (-1) t243)) else (exactpplmake_Src_Nodes.j1 k1 x3_1 x4_1 false s0_0 t244 t245 (-1) t243)) = some (r1, r2, r3) := H
    have A5 := Aside0.mk A50
    clear A50
    have HC6 := Aside0.mk H
    clear H
    go_upto_region 6 with (first | ((with_reducible refine gate_callee (f := 25) rfl ?_); refine goesL_ (some 14) rfl rfl Tryd.func25 (by kernel_rfl) rfl #[.pointer (some ⟨g, 0, none⟩), .int .i64 (-2), .int .i64 2] rfl (by (try simp only [List.map_toArray, List.map_cons, List.map_nil]); first | done | rfl | (simp only [List.length_drop, List.length_take]; rfl)) ?_; (with_reducible refine (exactpplmake_Src_Range.calls g s0_0 x1001_1 x1002_1 (-2) 2 t243 t244 t245 w0 _ ?side1 ?side2 A5.out).mono ?_); (case side1 => repeat (first | (with_reducible first | exact HI0.out | apply IsS58.alloc | apply IsS58.drewN | apply IsS58.drew | apply IsS58.set_1 | apply IsS58.set_2) | exact HI0.out)); (case side2 => repeat (first | (with_reducible first | exact HB.out | apply below_alloc | apply pw_below_drewN | apply below_drew1 | refine below_set ?_ (IsS58.ge HI0.out)) | exact HB.out)); rintro e w7 ⟨rfl, hi, hb, hk⟩; refine ⟨_, rfl, ?_⟩; replace HO_3 := Aside0.mk (Kd.S_mono (Kd.S_keep (IsS58.apartS (show IsS58 w0 _ g s0_0 x1001_1 x1002_1 from si_) (pS_ HO_3.out) (by decide)) hk (fun _ h => h.2)) (fun _ h => h.1)); replace HK := Aside0.mk (KeepBut.trans (by repeat (first | (with_reducible first | exact HK.out | apply KeepBut.set_ | apply keep_drewN | apply keep_drew | apply keep_alloc) | exact HK.out)) hk (.inl rfl)); replace HB := Aside0.mk (hb); replace HI0 := Aside0.mk (hi); (try clear hb); (try clear hb2); (try clear hk); (try clear hi)) | ((with_reducible refine gate_dst (N := 5) rfl ?_); refine box_event ?hg (N := 5) ?hd (cs := #[.int .i64 0, .int .i64 0, .slice none 0 0]) (t := 60) ?hr ?_; (case hd => rfl); (case hg => rfl); (case hr => first | (go_simp; done) | (go_simp; rfl)); intro gb246 hg w8 hbox hb; have BK246 := Aside0.mk (hbox); have GW246 := Aside0.mk ((by rw [hg]; exact (keep_size (w := w) (g := g) (row := none) (by repeat (first | (with_reducible first | exact HK.out | apply KeepBut.set_ | apply keep_drewN | apply keep_drew | apply keep_alloc) | exact HK.out))) : w.heap.size ≤ gb246)); have GE246 := Aside0.mk ((Nat.le_trans HW0.out (by rw [hg]; exact (keep_size (w := w) (g := g) (row := none) (by repeat (first | (with_reducible first | exact HK.out | apply KeepBut.set_ | apply keep_drewN | apply keep_drew | apply keep_alloc) | exact HK.out))) : w.heap.size ≤ gb246) : w0.heap.size ≤ gb246)); have NB0_246 := Aside0.mk ((by rw [hg]; exact Nat.ne_of_lt (IsS58.lt (show IsS58 w0 _ g s0_0 t244 t245 from si_)) : g ≠ gb246)); have NB246_0 := Aside0.mk ((by rw [hg]; exact Nat.ne_of_gt (IsS58.lt (show IsS58 w0 _ g s0_0 t244 t245 from si_)) : gb246 ≠ g)); replace HO_3 := Aside0.mk (Kd.S_below (Kd.S_elderB (pS_ HO_3.out) gb246 (Nat.le_of_eq hg.symm)) hb); replace HI0 := Aside0.mk (IsS58.below si_ hb); replace HK := Aside0.mk (KeepBut.trans (by repeat (first | (with_reducible first | exact HK.out | apply KeepBut.set_ | apply keep_drewN | apply keep_drew | apply keep_alloc) | exact HK.out)) (KeepBut.of_below hb g none) (.inl rfl)); replace HB := Aside0.mk (below_step bl_ hb); clear hb hbox hg; have hnb9 := NB246_0.out; have hnc9 := NB0_246.out; obtain ⟨hcz10_0, hcz10_1, hcz10_2, hfz10_0, hfz10_1, hfz10_2⟩ := cf3_ BK246.out))
    (try simp only [Act.put, List.setIfInBounds_toArray, List.set_cons_zero, List.set_cons_succ])
    go_cut [23] (fun v23 wc => ∃ (kq : Nat) (x23_5 : Bool) (x1001_5 : Int) (x1002_5 : Int), v23 = .bool x23_5 ∧ Aside0 (exactpplmake_Src_Nodes.j1 kq x3_1 x4_1 x23_5 s0_0 x1001_5 x1002_5 (-1) t243 = some (r1, r2, r3)) ∧ Aside0 (kq ≤ k1) ∧ Aside0 (Kd.S k60 60 wc w.heap.size (fun k_ => k_ ≠ gb246) u3 x3_1) ∧ Aside0 (wc.heap[gb246]? = some (.cells #[.int .i64 (-1), .int .i64 t243, (.slice none 0 0)] 60 (0, 0))) ∧ Aside0 (IsS58 w0 wc g s0_0 x1001_5 x1002_5) ∧ Aside0 (KeepBut w wc g none) ∧ Aside0 (Below w0.heap.size w0 wc))
    case first =>
     have H := HC6.out
     clear HC6
     by_cases c11 : (x3_1.length : Int) > 0
     ·rw [if_pos c11] at H
      have c11b0 : decide (0 < (x3_1.length : Int)) = true := decide_eq_true c11
      have c11b1 : decide (0 < x3_1.length) = true := decide_eq_true (by omega)
      clear c11
      (first | rw [c11b0] | (simp only [i64_w, i32_w]; rw [c11b0]) | skip)
      replace H := Option.bind_eq_some_iff.mp H
      obtain ⟨⟨t247, t248, t249⟩, A120, H⟩ := H
      replace H : (exactpplmake_Src_Nodes.j1 k1 x3_1 x4_1 (decide (t247 > 0)) s0_0 t248 t249 (-1) t243) = some (r1, r2, r3) := H
      have A12 := Aside0.mk A120
      clear A120
      have H' := Aside0.mk H
      clear H
      obtain ⟨Ao13, co13, eo13⟩ := Kd.S_slice HO_3.out
      subst eo13
      go_wp2_with (first | (go_at_call 23; (with_reducible refine (exactpplmake_Src_N.calls g s0_0 t244 t245 3 t247 t248 t249 w0 _ ?side1 ?side2 A12.out).mono ?_); (case side1 => repeat (first | (with_reducible first | exact HI0.out | apply IsS58.alloc | apply IsS58.drewN | apply IsS58.drew | apply IsS58.set_1 | apply IsS58.set_2 | refine IsS58.far ?_ NB0_246.out _) | exact HI0.out)); (case side2 => repeat (first | (with_reducible first | exact HB.out | apply below_alloc | apply pw_below_drewN | apply below_drew1 | refine below_set ?_ (IsS58.ge HI0.out) | refine below_set ?_ GE246.out) | exact HB.out)); rintro e w14 ⟨rfl, hi, hb, hk⟩; replace HO_3 := Aside0.mk (Kd.S_mono (Kd.S_keep (IsS58.apartS (show IsS58 w0 _ g s0_0 t244 t245 from si_) (by (with_reducible repeat (first | apply Kd.S_alloc | apply Kd.S_drewN | apply Kd.S_drew)); exact (Kd.S_mono (Kd.S_far (p := ⟨gb246, 2, none⟩) (Kd.S_far (p := ⟨gb246, 1, none⟩) (Kd.S_far (p := ⟨gb246, 0, none⟩) (Kd.S_mono HO_3.out (fun k_ hk => (⟨hk, by first | exact hk.2 | exact hk.1 | exact hk.2 | exact hk.1.1 | exact hk.1.2⟩ : _ ∧ k_ ≠ gb246))) (fun _ hk => hk.2) (.int .i64 (-1))) (fun _ hk => hk.2) (.int .i64 t243)) (fun _ hk => hk.2) (.slice none 0 0)) (fun _ h_ => h_.1))) (by decide)) hk (fun _ h => h.2)) (fun _ h => h.1)); replace BK246 := Aside0.mk (KeepBut.blk hk (g' := gb246) (o := .cells #[.int .i64 (-1), .int .i64 t243, .slice none 0 0] 60 (0, 0)) (by (with_reducible repeat (first | refine blk_drewN ?_ _ | refine blk_drew ?_ | refine blk_alloc ?_ _)); refine blk_put (cs := #[.int .i64 (-1), .int .i64 t243, .slice none 0 0]) ?_ 2 _ rfl; (with_reducible repeat (first | refine blk_drewN ?_ _ | refine blk_drew ?_ | refine blk_alloc ?_ _)); refine blk_put (cs := #[.int .i64 (-1), .int .i64 0, .slice none 0 0]) ?_ 1 _ rfl; (with_reducible repeat (first | refine blk_drewN ?_ _ | refine blk_drew ?_ | refine blk_alloc ?_ _)); refine blk_put (cs := #[.int .i64 0, .int .i64 0, .slice none 0 0]) ?_ 0 _ rfl; (with_reducible repeat (first | refine blk_drewN ?_ _ | refine blk_drew ?_ | refine blk_alloc ?_ _)); exact BK246.out) NB246_0.out (by simp)); replace HK := Aside0.mk (KeepBut.trans (by repeat (first | (with_reducible first | exact HK.out | apply KeepBut.set_ | apply keep_drewN | apply keep_drew | apply keep_alloc | refine keep_far ?_ GW246.out _) | exact HK.out)) hk (.inl rfl)); replace HB := Aside0.mk (hb); replace HI0 := Aside0.mk (hi); (try clear hb); (try clear hb2); (try clear hk); (try clear hi)))
      go_meet
      case rel => exact ⟨_, (decide (t247 > 0)), (t248), (t249), rs_, H', ⟨by have := HK1.out; first | omega | exact Nat.le_refl _⟩, ⟨by (with_reducible repeat (first | apply Kd.S_alloc | apply Kd.S_drewN | apply Kd.S_drew)); exact Kd.S_mono HO_3.out (fun _ hk => hk.2)⟩, ⟨bk_⟩, ⟨si_⟩, ⟨by repeat (first | (with_reducible first | exact HK.out | apply KeepBut.set_ | apply keep_drewN | apply keep_drew | apply keep_alloc | refine keep_far ?_ GW246.out _) | exact HK.out)⟩, ⟨bl_⟩⟩
     ·rw [if_neg c11] at H
      have c11b0 : decide (0 < (x3_1.length : Int)) = false := decide_eq_false c11
      have c11b1 : decide (0 < x3_1.length) = false := decide_eq_false (by omega)
      clear c11
      (first | rw [c11b0] | (simp only [i64_w, i32_w]; rw [c11b0]) | skip)
      have H' := Aside0.mk H
      clear H
      obtain ⟨Ao15, co15, eo15⟩ := Kd.S_slice HO_3.out
      subst eo15
      go_wp2
      go_meet
      case rel => exact ⟨_, (false), (t244), (t245), rs_, H', ⟨by have := HK1.out; first | omega | exact Nat.le_refl _⟩, ⟨by (with_reducible repeat (first | apply Kd.S_alloc | apply Kd.S_drewN | apply Kd.S_drew)); exact Kd.S_mono (Kd.S_far (p := ⟨gb246, 2, none⟩) (Kd.S_far (p := ⟨gb246, 1, none⟩) (Kd.S_far (p := ⟨gb246, 0, none⟩) (Kd.S_mono HO_3.out (fun k_ hk => (⟨hk, by first | exact hk.2 | exact hk.1 | exact hk.2 | exact hk.1.1 | exact hk.1.2⟩ : _ ∧ k_ ≠ gb246))) (fun _ hk => hk.2) (.int .i64 (-1))) (fun _ hk => hk.2) (.int .i64 t243)) (fun _ hk => hk.2) (.slice none 0 0)) (fun _ hk => hk.1.2)⟩, ⟨by (with_reducible repeat (first | refine blk_drewN ?_ _ | refine blk_drew ?_ | refine blk_alloc ?_ _)); refine blk_put (cs := #[.int .i64 (-1), .int .i64 t243, .slice none 0 0]) ?_ 2 _ rfl; (with_reducible repeat (first | refine blk_drewN ?_ _ | refine blk_drew ?_ | refine blk_alloc ?_ _)); refine blk_put (cs := #[.int .i64 (-1), .int .i64 0, .slice none 0 0]) ?_ 1 _ rfl; (with_reducible repeat (first | refine blk_drewN ?_ _ | refine blk_drew ?_ | refine blk_alloc ?_ _)); refine blk_put (cs := #[.int .i64 0, .int .i64 0, .slice none 0 0]) ?_ 0 _ rfl; (with_reducible repeat (first | refine blk_drewN ?_ _ | refine blk_drew ?_ | refine blk_alloc ?_ _)); exact BK246.out⟩, ⟨si_⟩, ⟨by repeat (first | (with_reducible first | exact HK.out | apply KeepBut.set_ | apply keep_drewN | apply keep_drew | apply keep_alloc | refine keep_far ?_ GW246.out _) | exact HK.out)⟩, ⟨bl_⟩⟩
    case rest =>
     clear HC6
     try clear c1
     try clear c2
     try clear p2
     try clear c4
     try clear c4b0
     try clear c9
     try clear c11
     try clear c11b0
     try clear c11b1
     try clear hcz10_0 hcz10_1 hcz10_2 hfz10_0 hfz10_1 hfz10_2
     try clear p2
     obtain ⟨kq, x23_5, x1001_5, x1002_5, rfl, HA, HJ5, HO_3, BK246, HI0, HK, HB⟩ := hcut
     cases kq with
     | zero => exact absurd HA.out (by simp [exactpplmake_Src_Nodes.j1])
     | succ kj5 =>
      have H := HA.out
      clear HA
      simp only [exactpplmake_Src_Nodes.j1] at H
      have HC16 := Aside0.mk H
      clear H
      go_upto_if 23 with (fail)
      go_cut [] (fun wc => ∃ (kq : Nat) (x1001_15 : Int) (x1002_15 : Int) (x247000_15 : Int) (x247001_15 : Int) (x247002_15 : List Int) (u247002 : Value), Aside0 (exactpplmake_Src_Nodes.j3 kq x3_1 x4_1 s0_0 x1001_15 x1002_15 x247000_15 x247001_15 x247002_15 = some (r1, r2, r3)) ∧ Aside0 (kq ≤ kj5) ∧ Aside0 (Kd.S k60 60 wc w.heap.size (fun k_ => some k_ ≠ (u247002 : Value).ownBlock ∧ k_ ≠ gb246) u3 x3_1) ∧ Aside0 (Kd.R (Kd.int .i64) 3 wc w.heap.size (fun _ => True) u247002 x247002_15) ∧ Aside0 (wc.heap[gb246]? = some (.cells #[.int .i64 x247000_15, .int .i64 x247001_15, u247002] 60 (0, 0))) ∧ Aside0 (IsS58 w0 wc g s0_0 x1001_15 x1002_15) ∧ Aside0 (KeepBut w wc g none) ∧ Aside0 (Below w0.heap.size w0 wc))
      case first =>
       have H := HC16.out
       clear HC16
       by_cases c17 : x23_5 = true
       ·subst c17
        have H1 : ((exactpplmake_Src_N.f s0_0 x1001_5 x1002_5 3).bind fun bt250 => (exactpplmake_Src_Nodes.l1 kj5 x3_1 x4_1 0 s0_0 bt250.2.1 bt250.2.2 bt250.1 0 ([] : List Int))) = some (r1, r2, r3) := by rw [if_pos rfl] at H; exact H
        clear H
        have H := H1
        clear H1
        replace H := Option.bind_eq_some_iff.mp H
        obtain ⟨⟨t250, t251, t252⟩, A180, H⟩ := H
        replace H : (exactpplmake_Src_Nodes.l1 kj5 x3_1 x4_1 0 s0_0 t251 t252 t250 0 ([] : List Int)) = some (r1, r2, r3) := H
        have A18 := Aside0.mk A180
        clear A180
        have H' := Aside0.mk H
        clear H
        go_wp2_with (first | ((with_reducible refine gate_callee (f := 23) rfl ?_); refine goesL_ (some 25) rfl rfl Tryd.func23 (by kernel_rfl) rfl #[.pointer (some ⟨g, 0, none⟩), .int .i64 3] rfl (by (try simp only [List.map_toArray, List.map_cons, List.map_nil]); first | done | rfl | (simp only [List.length_drop, List.length_take]; rfl)) ?_; (with_reducible refine (exactpplmake_Src_N.calls g s0_0 x1001_5 x1002_5 3 t250 t251 t252 w0 _ ?side1 ?side2 A18.out).mono ?_); (case side1 => repeat (first | (with_reducible first | exact HI0.out | apply IsS58.alloc | apply IsS58.drewN | apply IsS58.drew | apply IsS58.set_1 | apply IsS58.set_2 | refine IsS58.far ?_ NB0_246.out _) | exact HI0.out)); (case side2 => repeat (first | (with_reducible first | exact HB.out | apply below_alloc | apply pw_below_drewN | apply below_drew1 | refine below_set ?_ (IsS58.ge HI0.out) | refine below_set ?_ GE246.out) | exact HB.out)); rintro e w19 ⟨rfl, hi, hb, hk⟩; refine ⟨_, rfl, ?_⟩; replace HO_3 := Aside0.mk (Kd.S_mono (Kd.S_keep (IsS58.apartS (show IsS58 w0 _ g s0_0 x1001_5 x1002_5 from si_) (pS_ HO_3.out) (by decide)) hk (fun _ h => h.2)) (fun _ h => h.1)); replace BK246 := Aside0.mk (KeepBut.blk hk (g' := gb246) (o := .cells #[.int .i64 (-1), .int .i64 t243, .slice none 0 0] 60 (0, 0)) bk_ NB246_0.out (by simp)); replace HK := Aside0.mk (KeepBut.trans (by repeat (first | (with_reducible first | exact HK.out | apply KeepBut.set_ | apply keep_drewN | apply keep_drew | apply keep_alloc | refine keep_far ?_ GW246.out _) | exact HK.out)) hk (.inl rfl)); replace HB := Aside0.mk (hb); replace HI0 := Aside0.mk (hi); (try clear hb); (try clear hb2); (try clear hk); (try clear hi); have hnb20 := NB246_0.out; have hnc20 := NB0_246.out; obtain ⟨hcz21_0, hcz21_1, hcz21_2, hfz21_0, hfz21_1, hfz21_2⟩ := cf3_ BK246.out))
        go_loopg [6] kj5 (fun kq v6 w' => ∃ (x6_3 : Int) (x1001_3 : Int) (x1002_3 : Int) (x247002_3 : List Int) (u247002 : Value), v6 = .int .i64 x6_3 ∧ Aside0 (exactpplmake_Src_Nodes.l1 kq x3_1 x4_1 x6_3 s0_0 x1001_3 x1002_3 t250 0 x247002_3 = some (r1, r2, r3)) ∧ Aside0 (kq ≤ kj5) ∧ Aside0 (Kd.S k60 60 w' w.heap.size (fun k_ => some k_ ≠ (u247002 : Value).ownBlock ∧ k_ ≠ gb246) u3 x3_1) ∧ Aside0 (Kd.R (Kd.int .i64) 3 w' w.heap.size (fun _ => True) u247002 x247002_3) ∧ Aside0 (w'.heap[gb246]? = some (.cells #[.int .i64 t250, .int .i64 0, u247002] 60 (0, 0))) ∧ Aside0 (IsS58 w0 w' g s0_0 x1001_3 x1002_3) ∧ Aside0 (KeepBut w w' g none) ∧ Aside0 (Below w0.heap.size w0 w'))
        case atStart => exact ⟨(0), (t251), (t252), (([] : List Int)), (.slice none 0 0), rs_, H', ⟨Nat.le_refl _⟩, ⟨by (with_reducible repeat (first | apply Kd.S_alloc | apply Kd.S_drewN | apply Kd.S_drew)); exact Kd.S_mono (Kd.S_far (p := ⟨gb246, 2, none⟩) (Kd.S_far (p := ⟨gb246, 1, none⟩) (Kd.S_far (p := ⟨gb246, 0, none⟩) (Kd.S_mono HO_3.out (fun k_ hk => (⟨hk, by first | exact hk | exact hk.1 | exact hk.2 | exact hk.1.1 | exact hk.1.2⟩ : _ ∧ k_ ≠ gb246))) (fun _ hk => hk.2) (.int .i64 t250)) (fun _ hk => hk.2) (.int .i64 0)) (fun _ hk => hk.2) (.slice none 0 0)) (fun _ hk => ⟨(by simp [Value.ownBlock]), hk.1⟩)⟩, ⟨by first | exact Kd.R_nil _ _ _ _ _ | exact Kd.N_nil _ _ _ _ _ | exact Kd.V_nil _ _ _ _ _ | exact Kd.Q_nil _ _ _ _ _ | exact Kd.S_nil _ _ _ _ _⟩, ⟨by (with_reducible repeat (first | refine blk_drewN ?_ _ | refine blk_drew ?_ | refine blk_alloc ?_ _)); refine blk_put (cs := #[.int .i64 t250, .int .i64 0, .slice none 0 0]) ?_ 2 _ rfl; (with_reducible repeat (first | refine blk_drewN ?_ _ | refine blk_drew ?_ | refine blk_alloc ?_ _)); refine blk_put (cs := #[.int .i64 t250, .int .i64 t243, .slice none 0 0]) ?_ 1 _ rfl; (with_reducible repeat (first | refine blk_drewN ?_ _ | refine blk_drew ?_ | refine blk_alloc ?_ _)); refine blk_put (cs := #[.int .i64 (-1), .int .i64 t243, .slice none 0 0]) ?_ 0 _ rfl; (with_reducible repeat (first | refine blk_drewN ?_ _ | refine blk_drew ?_ | refine blk_alloc ?_ _)); exact BK246.out⟩, ⟨si_⟩, ⟨by repeat (first | (with_reducible first | exact HK.out | apply KeepBut.set_ | apply keep_drewN | apply keep_drew | apply keep_alloc | refine keep_far ?_ GW246.out _) | exact HK.out)⟩, ⟨bl_⟩⟩
        case round =>
         clear H'
         try clear c1
         try clear c2
         try clear p2
         try clear c4
         try clear c4b0
         try clear c9
         try clear c11
         try clear c11b0
         try clear c11b1
         try clear c16
         try clear c17
         try clear c20
         try clear hcz10_0 hcz10_1 hcz10_2 hfz10_0 hfz10_1 hfz10_2
         try clear hcz21_0 hcz21_1 hcz21_2 hfz21_0 hfz21_1 hfz21_2
         try clear p2
         obtain ⟨x6_3, x1001_3, x1002_3, x247002_3, u247002, rfl, HA, HK3, HO_3, HO_247002, BK246, HI0, HK, HB⟩ := hrel
         cases gk with
         | zero => exact absurd HA.out (by simp [exactpplmake_Src_Nodes.l1])
         | succ k3 =>
          have H := HA.out
          clear HA
          simp only [exactpplmake_Src_Nodes.l1] at H
          replace H := Option.bind_eq_some_iff.mp H
          obtain ⟨t253, A220, H⟩ := H
          replace H : (if x6_3 < t253 then ((exactpplmake_Src_N.f s0_0 x1001_3 x1002_3 (x3_1.length : Int)).bind fun bt254 => (if x247002_3.length < 17592186044416 then (exactpplmake_Src_Nodes.l1 k3 x3_1 x4_1 (wrap64 (x6_3 + 1)) s0_0 bt254.2.1 bt254.2.2 t250 0 (x247002_3 ++ [bt254.1])) else (none))) else (exactpplmake_Src_Nodes.j3 k3 x3_1 x4_1 s0_0 x1001_3 x1002_3 t250 0 x247002_3)) = some (r1, r2, r3) := H
          have A22 := Aside0.mk A220
          clear A220
          by_cases c23 : x6_3 < t253
          ·rw [if_pos c23] at H
           have c23b0 : decide (x6_3 < t253) = true := decide_eq_true c23
           clear c23
           (first | rw [c23b0] | (simp only [i64_w, i32_w]; rw [c23b0]) | skip)
           replace H := Option.bind_eq_some_iff.mp H
           obtain ⟨⟨t254, t255, t256⟩, A240, H⟩ := H
           replace H : (if x247002_3.length < 17592186044416 then (exactpplmake_Src_Nodes.l1 k3 x3_1 x4_1 (wrap64 (x6_3 + 1)) s0_0 t255 t256 t250 0 (x247002_3 ++ [t254])) else (none)) = some (r1, r2, r3) := H
           have A24 := Aside0.mk A240
           clear A240
           by_cases c25 : x247002_3.length < 17592186044416
           ·rw [if_pos c25] at H
            have LMc25 := Aside0.mk c25
            clear c25
            obtain ⟨y257, hy257⟩ : ∃ y_ : List Int, y_ = (x247002_3 ++ [t254]) := ⟨_, rfl⟩
            replace H : (exactpplmake_Src_Nodes.l1 k3 x3_1 x4_1 (wrap64 (x6_3 + 1)) s0_0 t255 t256 t250 0 y257) = some (r1, r2, r3) := by first | (rw [hy257]; with_reducible exact H) | (have H2_ := (Option.bind_some _ _).symm.trans H; rw [hy257]; with_reducible exact H2_) | (have H2_ := (Option.bind_some _ _).symm.trans H; with_reducible exact H2_) | with_reducible exact H | (rw [hy257]; exact H) | exact H
            have Ny257 := Aside0.mk hy257
            clear hy257
            have H' := Aside0.mk H
            clear H
            have hnb26 := NB246_0.out
            have hnc26 := NB0_246.out
            obtain ⟨hcz27_0, hcz27_1, hcz27_2, hfz27_0, hfz27_1, hfz27_2⟩ := cf3_ BK246.out
            try go_wp2_with (first | ((with_reducible refine gate_callee (f := 42) rfl ?_); refine goesL_ (some 30) rfl rfl Tryd.func42 (by kernel_rfl) rfl #[.int .i64 t250] rfl (by (try simp only [List.map_toArray, List.map_cons, List.map_nil]); first | done | rfl | (simp only [List.length_drop, List.length_take]; rfl)) ?_; (with_reducible refine (exactpplmake_Width.calls t250 t253 _ A22.out).mono ?_); rintro e w' ⟨rfl, ⟨nd, rfl⟩⟩; refine ⟨_, rfl, ?_⟩; (try (rw [drewN_self wr]; generalize hq_ : World.drewN wr _ = wr; replace HO_247002 : Aside0 (Kd.R (Kd.int .i64) 3 wr w.heap.size (fun _ => True) u247002 x247002_3) := ⟨by rw [← hq_]; exact (pR_ HO_247002.out)⟩; replace HO_3 : Aside0 (Kd.S k60 60 wr w.heap.size (fun k_ => some k_ ≠ (u247002 : Value).ownBlock ∧ k_ ≠ gb246) u3 x3_1) := ⟨by rw [← hq_]; exact (pS_ HO_3.out)⟩; replace BK246 : Aside0 (wr.heap[gb246]? = some (.cells #[.int .i64 t250, .int .i64 0, u247002] 60 (0, 0))) := ⟨by rw [← hq_]; exact bk_⟩; replace HI0 : Aside0 (IsS58 w0 wr g s0_0 x1001_3 x1002_3) := ⟨by rw [← hq_]; exact si_⟩; replace HK : Aside0 (KeepBut w wr g none) := ⟨by rw [← hq_]; exact (by repeat (first | (with_reducible first | exact HK.out | apply KeepBut.set_ | apply keep_drewN | apply keep_drew | apply keep_alloc | refine keep_far ?_ GW246.out _) | exact HK.out))⟩; replace HB : Aside0 (Below w0.heap.size w0 wr) := ⟨by rw [← hq_]; exact bl_⟩; clear hq_))))
            replace HO_3 := Aside0.mk (Kd.S_drew HO_3.out)
            replace HO_247002 := Aside0.mk (Kd.R_drew HO_247002.out)
            replace BK246 := Aside0.mk (blk_drew BK246.out)
            replace HI0 := Aside0.mk (IsS58.drew HI0.out)
            replace HK := Aside0.mk (keep_drew HK.out)
            replace HB := Aside0.mk (below_drew1 HB.out)
            obtain ⟨Ao29, co29, eo29⟩ := Kd.S_slice HO_3.out
            (first | subst eo29 | (injection eo29 with f1_ f2_ f3_; have f4_ := f1_.symm; have f5_ := f3_.symm; clear f1_ f2_ f3_; subst f4_; subst f5_))
            refine start_ (n := 10) (S := fun w' => w'.cell? ⟨gb246, 0, none⟩ = some (.int .i64 t250) ∧ w'.cell? ⟨gb246, 1, none⟩ = some (.int .i64 0) ∧ w'.cell? ⟨gb246, 2, none⟩ = some (u247002)) (ds := [9]) #[false, false, false, false, false, false, false, false, false, false] (by kernel_rfl) rfl rfl ⟨(blk_cell BK246.out 0).trans rfl, (blk_cell BK246.out 1).trans rfl, (blk_cell BK246.out 2).trans rfl⟩ (fun hHeld => ?_); refine with_tabW exactpplmake_Src_Nodes.tab11 exactpplmake_Src_Nodes.bits11 (fun HT_ HW_ => ?_)
            generalize wr.drew = w28 at HO_3 HO_247002 BK246 HI0 HK HB hHeld ⊢
            refine pu_ HT_ 0 34 (bm 10 1) ?_
            refine pu_ HT_ 2 36 (bm 10 5) ?_
            refine pu_ HT_ 3 37 (bm 10 13) ?_
            refine pu_ HT_ 4 38 (bm 10 29) ?_
            refine ta_ HT_ HW_ 1 35 (bm 10 31) hHeld ?_
            refine one_ (i := 5) (N := some 39) #[true, true, true, true, true, true, false, false, false, false] rfl rfl (one_of HT_.out (by kernel_rfl)) (by decide) (fun K hK => ?_)
            refine goes_ Tryd.func23 (by kernel_rfl) rfl #[.pointer (some ⟨g, 0, none⟩), .int .i64 (x3_1.length : Int)] (by rfl) rfl rfl (by (try simp only [List.map_toArray, List.map_cons, List.map_nil]); first | done | rfl | (simp only [List.length_drop, List.length_take]; rfl)) ?_
            with_reducible refine (exactpplmake_Src_N.calls g s0_0 x1001_3 x1002_3 (x3_1.length : Int) t254 t255 t256 w0 _ ?side1 ?side2 A24.out).mono ?_
            (case side1 => repeat (first | (with_reducible first | exact HI0.out | apply IsS58.alloc | apply IsS58.drewN | apply IsS58.drew | apply IsS58.set_1 | apply IsS58.set_2 | refine IsS58.far ?_ NB0_246.out _) | exact HI0.out))
            (case side2 => repeat (first | (with_reducible first | exact HB.out | apply below_alloc | apply pw_below_drewN | apply below_drew1 | refine below_set ?_ (IsS58.ge HI0.out) | refine below_set ?_ GE246.out) | exact HB.out))
            rintro e w30 ⟨rfl, hi, hb, hk⟩
            refine ⟨_, rfl, ?_⟩
            replace HO_3 := Aside0.mk (Kd.S_mono (Kd.S_keep (IsS58.apartS (show IsS58 w0 _ g s0_0 x1001_3 x1002_3 from si_) (pS_ HO_3.out) (by decide)) hk (fun _ h => h.2)) (fun _ h => h.1))
            replace HO_247002 := Aside0.mk (Kd.R_mono (Kd.R_keep (IsS58.apart (show IsS58 w0 _ g s0_0 x1001_3 x1002_3 from si_) (pR_ HO_247002.out) (by decide)) hk (fun _ h => h.2)) (fun _ h => h.1))
            replace BK246 := Aside0.mk (KeepBut.blk hk (g' := gb246) (o := .cells #[.int .i64 t250, .int .i64 0, u247002] 60 (0, 0)) bk_ NB246_0.out (by simp))
            replace HK := Aside0.mk (KeepBut.trans (by repeat (first | (with_reducible first | exact HK.out | apply KeepBut.set_ | apply keep_drewN | apply keep_drew | apply keep_alloc | refine keep_far ?_ GW246.out _) | exact HK.out)) hk (.inl rfl))
            replace HB := Aside0.mk (hb)
            replace HI0 := Aside0.mk (hi)
            (try clear hb)
            (try clear hb2)
            (try clear hk)
            (try clear hi)
            refine hK.out _ _ ⟨(blk_cell BK246.out 0).trans rfl, (blk_cell BK246.out 1).trans rfl, (blk_cell BK246.out 2).trans rfl⟩ (fun hHeld => ?_)
            clear hK K
            refine norm_ (a' := ?_) ?_ ?_
            rotate_left
            ·show Act.put _ (some 39) _ = _
             simp only [Act.put, List.setIfInBounds_toArray, List.set_cons_zero, List.set_cons_succ, i64_w, i32_w]
             rfl
            refine one_ (i := 6) (N := some 40) #[true, true, true, true, true, true, true, false, false, false] rfl rfl (one_of HT_.out (by kernel_rfl)) (by decide) (fun K hK => ?_)
            refine value_ (w1 := ?_) (v := ?_) (by rfl) rfl ?_ ?_
            rotate_left 2
            ·go_simp
             constructor
             ·rfl
             ·rfl
            refine hK.out _ _ ⟨(blk_cell (blk_alloc BK246.out _) 0).trans rfl, (blk_cell (blk_alloc BK246.out _) 1).trans rfl, (blk_cell (blk_alloc BK246.out _) 2).trans rfl⟩ (fun hHeld => ?_)
            clear hK K
            refine norm_ (a' := ?_) ?_ ?_
            rotate_left
            ·show Act.put _ (some 40) _ = _
             simp only [Act.put, List.setIfInBounds_toArray, List.set_cons_zero, List.set_cons_succ, i64_w, i32_w]
             rfl
            refine one_ (i := 7) (N := some 41) #[true, true, true, true, true, true, true, true, false, false] rfl rfl (one_of HT_.out (by kernel_rfl)) (by decide) (fun K hK => ?_)
            refine Kd.R_append_step (Kd.int .i64) w.heap.size (by rfl) (.tmp 35) (.tmp 40) 22 3 (.int .i64 0) 8 rfl Tryd.underlying22 info3 rfl (by decide) (by omega) u247002 x247002_3 t254 [.int .i64 t254] (fun _ => True) (fun _ => False) rfl rfl ?aP (fun _ hk => hk.elim) ?aF ?aO (Below.refl _ _) ?aS ?aL ?_
            (case aP => exact rfl)
            (case aF => exact (fun _ _ => trivial))
            (case aO => exact (pR_ HO_247002.out))
            (case aS => exact (keep_size (w := w) (g := g) (row := none) (by repeat (first | (with_reducible first | exact HK.out | apply KeepBut.set_ | apply keep_drewN | apply keep_drew | apply keep_alloc | refine keep_far ?_ GW246.out _) | exact HK.out))))
            (case aL => have := LMc25.out; omega)
            intro v258 w31 ho hb hg hat
            rw [← Ny257.out] at ho
            have HO259 := Aside0.mk (ho)
            replace HO_3 := Aside0.mk (Kd.S_after (ok := (fun k_ => k_ ≠ gb246)) (by (with_reducible repeat (first | apply Kd.S_alloc | apply Kd.S_drewN | apply Kd.S_drew)); exact Kd.S_mono HO_3.out (fun _ hk => ⟨hk.2, hk.1⟩)) hg hat)
            replace BK246 := Aside0.mk (blk_grown (g := gb246) (o := .cells #[.int .i64 t250, .int .i64 0, u247002] 60 (0, 0)) bk_ hg (Kd.R_ne HO_247002.out BK246.out (by decide)))
            replace HI0 := Aside0.mk (IsS58.grown si_ hg (IsS58.own_ne HI0.out HO_247002.out (by decide)))
            replace HB := Aside0.mk (below_weaken bl_ HL.out hb)
            replace HK := Aside0.mk (KeepBut.trans (by repeat (first | (with_reducible first | exact HK.out | apply KeepBut.set_ | apply keep_drewN | apply keep_drew | apply keep_alloc | refine keep_far ?_ GW246.out _) | exact HK.out)) (KeepBut.of_grown hg g) (Kd.R_base2 HO_247002.out))
            clear HO_247002
            clear ho hb hg hat
            obtain ⟨Ao32, co32, eo32⟩ := Kd.R_slice HO259.out
            (first | subst eo32 | (injection eo32 with f1_ f2_ f3_; have f4_ := f1_.symm; have f5_ := f3_.symm; clear f1_ f2_ f3_; subst f4_; subst f5_))
            refine hK.out _ _ ⟨(blk_cell BK246.out 0).trans rfl, (blk_cell BK246.out 1).trans rfl, (blk_cell BK246.out 2).trans rfl⟩ (fun hHeld => ?_)
            clear hK K
            refine norm_ (a' := ?_) ?_ ?_
            rotate_left
            ·show Act.put _ (some 41) _ = _
             simp only [Act.put, List.setIfInBounds_toArray, List.set_cons_zero, List.set_cons_succ, i64_w, i32_w]
             rfl
            refine pu_ HT_ 8 42 (bm 10 511) ?_
            refine last_ (i := 9) (N := none) #[true, true, true, true, true, true, true, true, true, true] rfl rfl (one_of HT_.out (by kernel_rfl)) (by decide) (fun K hK => ?_)
            have hs33 : w31.cell? ⟨gb246, 2, none⟩ = some (u247002) := (blk_cell BK246.out 2).trans rfl
            have hfs33 := blk_frozen BK246.out 2
            refine skip_ (w1 := ?_) (by rfl) rfl ?_ ?_
            rotate_left
            ·go_simp
             rfl
            refine hK.out _ _ ?_
            clear hK K
            refine done_ (done_of HT_.out (by kernel_rfl)) ?_
            try go_wp2
            go_roundg k3
            case measure => have := HK1.out; have := HJ5.out; have := HK3.out; omega
            case rel => exact ⟨(wrap64 (x6_3 + 1)), (t255), (t256), (y257), (.slice Ao32 y257.length co32), rs_, H', ⟨by have := HK1.out; have := HJ5.out; have := HK3.out; omega⟩, ⟨by (with_reducible repeat (first | apply Kd.S_alloc | apply Kd.S_drewN | apply Kd.S_drew)); exact Kd.S_mono (Kd.S_far (p := ⟨gb246, 2, none⟩) (Kd.S_mono HO_3.out (fun k_ hk => (⟨hk, by first | exact hk.1 | exact hk.1 | exact hk.2 | exact hk.1.1 | exact hk.1.2⟩ : _ ∧ k_ ≠ gb246))) (fun _ hk => hk.2) (.slice Ao32 y257.length co32)) (fun _ hk => ⟨hk.1.2, hk.1.1⟩)⟩, ⟨by (with_reducible repeat (first | apply Kd.R_alloc | apply Kd.R_drewN | apply Kd.R_drew)); exact Kd.R_mono (Kd.R_far (p := ⟨gb246, 2, none⟩) (Kd.R_types HO259.out BK246.out (by decide)) (fun _ hk => hk.2) (.slice Ao32 y257.length co32)) (fun _ hk => trivial)⟩, ⟨by (with_reducible repeat (first | refine blk_drewN ?_ _ | refine blk_drew ?_ | refine blk_alloc ?_ _)); refine blk_put (cs := #[.int .i64 t250, .int .i64 0, u247002]) ?_ 2 _ rfl; (with_reducible repeat (first | refine blk_drewN ?_ _ | refine blk_drew ?_ | refine blk_alloc ?_ _)); exact BK246.out⟩, ⟨si_⟩, ⟨by repeat (first | (with_reducible first | exact HK.out | apply KeepBut.set_ | apply keep_drewN | apply keep_drew | apply keep_alloc | refine keep_far ?_ GW246.out _) | exact HK.out)⟩, ⟨bl_⟩⟩
           ·rw [if_neg c25] at H
            exact absurd H (by simp)
          ·rw [if_neg c23] at H
           have c23b0 : decide (x6_3 < t253) = false := decide_eq_false c23
           clear c23
           (first | rw [c23b0] | (simp only [i64_w, i32_w]; rw [c23b0]) | skip)
           have H' := Aside0.mk H
           clear H
           have hnb34 := NB246_0.out
           have hnc34 := NB0_246.out
           obtain ⟨hcz35_0, hcz35_1, hcz35_2, hfz35_0, hfz35_1, hfz35_2⟩ := cf3_ BK246.out
           go_wp2_with (first | ((with_reducible refine gate_callee (f := 42) rfl ?_); refine goesL_ (some 30) rfl rfl Tryd.func42 (by kernel_rfl) rfl #[.int .i64 t250] rfl (by (try simp only [List.map_toArray, List.map_cons, List.map_nil]); first | done | rfl | (simp only [List.length_drop, List.length_take]; rfl)) ?_; (with_reducible refine (exactpplmake_Width.calls t250 t253 _ A22.out).mono ?_); rintro e w' ⟨rfl, ⟨nd, rfl⟩⟩; refine ⟨_, rfl, ?_⟩))
           go_meet
           case rel => exact ⟨_, (x1001_3), (x1002_3), (t250), (0), (x247002_3), (u247002), H', ⟨by have := HK1.out; have := HJ5.out; have := HK3.out; first | omega | exact Nat.le_refl _⟩, ⟨pS_ HO_3.out⟩, ⟨pR_ HO_247002.out⟩, ⟨bk_⟩, ⟨si_⟩, ⟨by repeat (first | (with_reducible first | exact HK.out | apply KeepBut.set_ | apply keep_drewN | apply keep_drew | apply keep_alloc | refine keep_far ?_ GW246.out _) | exact HK.out)⟩, ⟨bl_⟩⟩
       ·replace c17 := Bool.eq_false_iff.mpr c17
        subst c17
        have H1 : (exactpplmake_Src_Nodes.j3 kj5 x3_1 x4_1 s0_0 x1001_5 x1002_5 (-1) t243 ([] : List Int)) = some (r1, r2, r3) := by rw [if_neg (show ¬ (false = true) by decide)] at H; exact H
        clear H
        have H := H1
        clear H1
        have H' := Aside0.mk H
        clear H
        go_wp2
        go_meet
        case rel => exact ⟨_, (x1001_5), (x1002_5), ((-1)), (t243), (([] : List Int)), (.slice none 0 0), H', ⟨by have := HK1.out; have := HJ5.out; first | omega | exact Nat.le_refl _⟩, ⟨by (with_reducible repeat (first | apply Kd.S_alloc | apply Kd.S_drewN | apply Kd.S_drew)); exact Kd.S_mono HO_3.out (fun _ hk => ⟨(by simp [Value.ownBlock]), hk⟩)⟩, ⟨by first | exact Kd.R_nil _ _ _ _ _ | exact Kd.N_nil _ _ _ _ _ | exact Kd.V_nil _ _ _ _ _ | exact Kd.Q_nil _ _ _ _ _ | exact Kd.S_nil _ _ _ _ _⟩, ⟨bk_⟩, ⟨si_⟩, ⟨by repeat (first | (with_reducible first | exact HK.out | apply KeepBut.set_ | apply keep_drewN | apply keep_drew | apply keep_alloc | refine keep_far ?_ GW246.out _) | exact HK.out)⟩, ⟨bl_⟩⟩
      case rest =>
       clear HC16
       try clear c1
       try clear c2
       try clear p2
       try clear c3
       try clear c4
       try clear c4b0
       try clear p6
       try clear c9
       try clear c11
       try clear c11b0
       try clear c11b1
       try clear c16
       try clear c17
       try clear c20
       try clear c23
       try clear c23b0
       try clear c25
       try clear c26
       try clear c34
       try clear hcz10_0 hcz10_1 hcz10_2 hfz10_0 hfz10_1 hfz10_2
       try clear hcz21_0 hcz21_1 hcz21_2 hfz21_0 hfz21_1 hfz21_2
       try clear hcz27_0 hcz27_1 hcz27_2 hfz27_0 hfz27_1 hfz27_2
       try clear hcz35_0 hcz35_1 hcz35_2 hfz35_0 hfz35_1 hfz35_2
       try clear p2
       obtain ⟨kq, x1001_15, x1002_15, x247000_15, x247001_15, x247002_15, u247002, HA, HJ15, HO_3, HO_247002, BK246, HI0, HK, HB⟩ := hcut
       cases kq with
       | zero => exact absurd HA.out (by simp [exactpplmake_Src_Nodes.j3])
       | succ kj15 =>
        have H := HA.out
        clear HA
        simp only [exactpplmake_Src_Nodes.j3] at H
        replace H := Option.bind_eq_some_iff.mp H
        obtain ⟨⟨t260, t261, t262⟩, A360, H⟩ := H
        replace H : (if t260 = 0 then ((exactpplmake_Src_Pick.f s0_0 t261 t262 (([(-2), (-1), 0, 63, 64] : List Int))).bind fun bt266 => (if x3_1.length < 3518437208883 then (exactpplmake_Src_Nodes.l0 kj15 (x3_1 ++ [(⟨bt266.1, x247001_15, x247002_15⟩ : S60)]) (wrap64 (x4_1 - 1)) s0_0 bt266.2.1 bt266.2.2) else (none))) else (if t260 = 1 then ((exactpplmake_Src_Pick.f s0_0 t261 t262 (([1073741824, 1073741825, (-1073741824), (-1073741825)] : List Int))).bind fun bt275 => (if x3_1.length < 3518437208883 then (exactpplmake_Src_Nodes.l0 kj15 (x3_1 ++ [(⟨x247000_15, bt275.1, x247002_15⟩ : S60)]) (wrap64 (x4_1 - 1)) s0_0 bt275.2.1 bt275.2.2) else (none))) else (if t260 = 2 then ((exactpplmake_Src_Range.f s0_0 t261 t262 (-1) (x3_1.length : Int)).bind fun bt281 => (if x247002_15.length < 17592186044416 then (if x3_1.length < 3518437208883 then (exactpplmake_Src_Nodes.l0 kj15 (x3_1 ++ [(⟨x247000_15, x247001_15, (x247002_15 ++ [bt281.1])⟩ : S60)]) (wrap64 (x4_1 - 1)) s0_0 bt281.2.1 bt281.2.2) else (none)) else (none))) else (if x3_1.length < 3518437208883 then (exactpplmake_Src_Nodes.l0 kj15 (x3_1 ++ [(⟨x247000_15, x247001_15, x247002_15⟩ : S60)]) (wrap64 (x4_1 - 1)) s0_0 t261 t262) else (none))))) = some (r1, r2, r3) := H
        have A36 := Aside0.mk A360
        clear A360
        by_cases c37 : t260 = 0
        ·rw [if_pos c37] at H
         have c37b0 : (t260 == 0) = true := beq_iff_eq.mpr c37
         have c37b1 : (t260 != 0) = false := bne_eq_false_iff_eq.mpr c37
         clear c37
         obtain ⟨y263, hy263⟩ : ∃ y_ : List Int, y_ = (([(-2), (-1), 0, 63, 64] : List Int)) := ⟨_, rfl⟩
         replace H : ((exactpplmake_Src_Pick.f s0_0 t261 t262 y263).bind fun bt266 => (if x3_1.length < 3518437208883 then (exactpplmake_Src_Nodes.l0 kj15 (x3_1 ++ [(⟨bt266.1, x247001_15, x247002_15⟩ : S60)]) (wrap64 (x4_1 - 1)) s0_0 bt266.2.1 bt266.2.2) else (none))) = some (r1, r2, r3) := by first | (rw [hy263]; with_reducible exact H) | (have H2_ := (Option.bind_some _ _).symm.trans H; rw [hy263]; with_reducible exact H2_) | (have H2_ := (Option.bind_some _ _).symm.trans H; with_reducible exact H2_) | with_reducible exact H | (rw [hy263]; exact H) | exact H
         have Ny263 := Aside0.mk hy263
         clear hy263
         replace H := Option.bind_eq_some_iff.mp H
         obtain ⟨⟨t266, t267, t268⟩, A380, H⟩ := H
         replace H : (if x3_1.length < 3518437208883 then (exactpplmake_Src_Nodes.l0 kj15 (x3_1 ++ [(⟨t266, x247001_15, x247002_15⟩ : S60)]) (wrap64 (x4_1 - 1)) s0_0 t267 t268) else (none)) = some (r1, r2, r3) := H
         have A38 := Aside0.mk A380
         clear A380
         by_cases c39 : x3_1.length < 3518437208883
         ·rw [if_pos c39] at H
          have LMc39 := Aside0.mk c39
          clear c39
          obtain ⟨y269, hy269⟩ : ∃ y_ : List (S60), y_ = (x3_1 ++ [(⟨t266, x247001_15, x247002_15⟩ : S60)]) := ⟨_, rfl⟩
          replace H : (exactpplmake_Src_Nodes.l0 kj15 y269 (wrap64 (x4_1 - 1)) s0_0 t267 t268) = some (r1, r2, r3) := by first | (rw [hy269]; with_reducible exact H) | (have H2_ := (Option.bind_some _ _).symm.trans H; rw [hy269]; with_reducible exact H2_) | (have H2_ := (Option.bind_some _ _).symm.trans H; with_reducible exact H2_) | with_reducible exact H | (rw [hy269]; exact H) | exact H
          have Ny269 := Aside0.mk hy269
          clear hy269
          have H' := Aside0.mk H
          clear H
          go_wp2_with (first | ((with_reducible refine gate_callee (f := 23) rfl ?_); refine goesL_ (some 44) rfl rfl Tryd.func23 (by kernel_rfl) rfl #[.pointer (some ⟨g, 0, none⟩), .int .i64 24] rfl (by (try simp only [List.map_toArray, List.map_cons, List.map_nil]); first | done | rfl | (simp only [List.length_drop, List.length_take]; rfl)) ?_; (with_reducible refine (exactpplmake_Src_N.calls g s0_0 x1001_15 x1002_15 24 t260 t261 t262 w0 _ ?side1 ?side2 A36.out).mono ?_); (case side1 => repeat (first | (with_reducible first | exact HI0.out | apply IsS58.alloc | apply IsS58.drewN | apply IsS58.drew | apply IsS58.set_1 | apply IsS58.set_2 | refine IsS58.far ?_ NB0_246.out _) | exact HI0.out)); (case side2 => repeat (first | (with_reducible first | exact HB.out | apply below_alloc | apply pw_below_drewN | apply below_drew1 | refine below_set ?_ (IsS58.ge HI0.out) | refine below_set ?_ GE246.out) | exact HB.out)); rintro e w40 ⟨rfl, hi, hb, hk⟩; refine ⟨_, rfl, ?_⟩; replace HO_3 := Aside0.mk (Kd.S_mono (Kd.S_keep (IsS58.apartS (show IsS58 w0 _ g s0_0 x1001_15 x1002_15 from si_) (pS_ HO_3.out) (by decide)) hk (fun _ h => h.2)) (fun _ h => h.1)); replace HO_247002 := Aside0.mk (Kd.R_mono (Kd.R_keep (IsS58.apart (show IsS58 w0 _ g s0_0 x1001_15 x1002_15 from si_) (pR_ HO_247002.out) (by decide)) hk (fun _ h => h.2)) (fun _ h => h.1)); replace BK246 := Aside0.mk (KeepBut.blk hk (g' := gb246) (o := .cells #[.int .i64 x247000_15, .int .i64 x247001_15, u247002] 60 (0, 0)) bk_ NB246_0.out (by simp)); replace HK := Aside0.mk (KeepBut.trans (by repeat (first | (with_reducible first | exact HK.out | apply KeepBut.set_ | apply keep_drewN | apply keep_drew | apply keep_alloc | refine keep_far ?_ GW246.out _) | exact HK.out)) hk (.inl rfl)); replace HB := Aside0.mk (hb); replace HI0 := Aside0.mk (hi); (try clear hb); (try clear hb2); (try clear hk); (try clear hi)) | ((with_reducible refine gate_dst (N := 48) rfl ?_); refine Kd.R_lit (Kd.int .i64) _ 3 ?hg (N := 48) ?hd (xs := ([(-2), (-1), 0, 63, 64] : List Int)) (inner := [.int .i64 (-2), .int .i64 (-1), .int .i64 0, .int .i64 63, .int .i64 64]) (ok := fun _ => True) (okp := fun _ => True) ?hr ?hp (fun _ hk => hk) trivial (Below.refl _ _) (Nat.le_refl _) (by simp) ?_; (case hd => rfl); (case hg => rfl); (case hr => first | (go_simp; done) | (go_simp; rfl)); (case hp => exact (Reps.one (show Kd.M (Kd.int .i64) _ _ _ (-2) [.int .i64 (-2)] from rfl) (Reps.one (show Kd.M (Kd.int .i64) _ _ _ (-1) [.int .i64 (-1)] from rfl) (Reps.one (show Kd.M (Kd.int .i64) _ _ _ 0 [.int .i64 0] from rfl) (Reps.one (show Kd.M (Kd.int .i64) _ _ _ 63 [.int .i64 63] from rfl) (Reps.one (show Kd.M (Kd.int .i64) _ _ _ 64 [.int .i64 64] from rfl) (Reps.none _ _))))))); intro v264 w41 ho42 hb hg_ hnew_; clear hg_ hnew_; (first | rw [← Ny263.out] at ho42 | (simp only [Int.reduceToNat] at ho42; rw [← Ny263.out] at ho42)); have HO265 := Aside0.mk (Kd.R_lower (Kd.R_new' ho42 (Kd.R_lt (pR_ HO_247002.out))) (keep_size (w := w) (g := g) (row := none) (by repeat (first | (with_reducible first | exact HK.out | apply KeepBut.set_ | apply keep_drewN | apply keep_drew | apply keep_alloc | refine keep_far ?_ GW246.out _) | exact HK.out)))); replace HO_3 := Aside0.mk (Kd.S_elder' (pS_ HO_3.out) (Kd.R_base ho42) hb); replace HO_247002 := Aside0.mk (Kd.R_elder' (pR_ HO_247002.out) (Kd.R_base ho42) hb); replace BK246 := Aside0.mk (blk_below (g := gb246) (o := .cells #[.int .i64 x247000_15, .int .i64 x247001_15, u247002] 60 (0, 0)) bk_ hb); replace HI0 := Aside0.mk (IsS58.below si_ hb); replace HK := Aside0.mk (KeepBut.trans (by repeat (first | (with_reducible first | exact HK.out | apply KeepBut.set_ | apply keep_drewN | apply keep_drew | apply keep_alloc | refine keep_far ?_ GW246.out _) | exact HK.out)) (KeepBut.of_below hb g none) (.inl rfl)); replace HB := Aside0.mk (below_step bl_ hb); clear hb ho42; obtain ⟨Ao43, co43, eo43⟩ := Kd.R_slice HO265.out; subst eo43) | ((with_reducible refine gate_callee (f := 32) rfl ?_); refine goesL_ (some 49) rfl rfl Tryd.func32 (by kernel_rfl) rfl #[.pointer (some ⟨g, 0, none⟩), .slice Ao43 y263.length co43] rfl (by (try simp only [List.map_toArray, List.map_cons, List.map_nil]); first | done | rfl | (simp only [List.length_drop, List.length_take]; rfl)) ?_; (with_reducible refine (exactpplmake_Src_Pick.calls g s0_0 t261 t262 _ _ y263 t266 t267 t268 w0 _ ?side1 ?side2 ?side3 ?side4 ?side5 A38.out).mono ?_); (case side1 => repeat (first | (with_reducible first | exact HI0.out | apply IsS58.alloc | apply IsS58.drewN | apply IsS58.drew | apply IsS58.set_1 | apply IsS58.set_2 | refine IsS58.far ?_ NB0_246.out _) | exact HI0.out)); (case side2 => repeat (first | (with_reducible first | exact HB.out | apply below_alloc | apply pw_below_drewN | apply below_drew1 | refine below_set ?_ (IsS58.ge HI0.out) | refine below_set ?_ GE246.out) | exact HB.out)); (case side3 => repeat (first | exact (Kd.R_reads' HO265.out).2.2 | (with_reducible refine Kd.C_alloc ?_ _) | (with_reducible refine Kd.C_drewN ?_ _) | (with_reducible refine Kd.C_drew ?_))); (case side4 => exact (Kd.R_reads' HO265.out).2.1); (case side5 => exact far_slice (IsS58.own_ne HI0.out HO265.out (by decide))); rintro e w44 ⟨rfl, hi, hb, hk⟩; refine ⟨_, rfl, ?_⟩; replace HO_3 := Aside0.mk (Kd.S_mono (Kd.S_keep (IsS58.apartS (show IsS58 w0 _ g s0_0 t261 t262 from si_) (pS_ HO_3.out) (by decide)) hk (fun _ h => h.2)) (fun _ h => h.1)); replace HO_247002 := Aside0.mk (Kd.R_mono (Kd.R_keep (IsS58.apart (show IsS58 w0 _ g s0_0 t261 t262 from si_) (pR_ HO_247002.out) (by decide)) hk (fun _ h => h.2)) (fun _ h => h.1)); replace BK246 := Aside0.mk (KeepBut.blk hk (g' := gb246) (o := .cells #[.int .i64 x247000_15, .int .i64 x247001_15, u247002] 60 (0, 0)) bk_ NB246_0.out (by simp)); replace HO265 := Aside0.mk (Kd.R_mono (Kd.R_keep (IsS58.apart (show IsS58 w0 _ g s0_0 t261 t262 from si_) (pR_ HO265.out) (by decide)) hk (fun _ h => h.2)) (fun _ h => h.1)); replace HK := Aside0.mk (KeepBut.trans (by repeat (first | (with_reducible first | exact HK.out | apply KeepBut.set_ | apply keep_drewN | apply keep_drew | apply keep_alloc | refine keep_far ?_ GW246.out _) | exact HK.out)) hk (.inl rfl)); replace HB := Aside0.mk (hb); replace HI0 := Aside0.mk (hi); (try clear hb); (try clear hb2); (try clear hk); (try clear hi); have hnb45 := NB246_0.out; have hnc45 := NB0_246.out; obtain ⟨hcz46_0, hcz46_1, hcz46_2, hfz46_0, hfz46_1, hfz46_2⟩ := cf3_ BK246.out) | ((with_reducible refine gate_store (t := 3) (p := 50) rfl ?_); refine store_event (t := 3) (p := 50) (v := ?vo_w47) (w1 := (w44.setCell ⟨gb246, 0, none⟩ (.int .i64 t266))) ?hg ?ho ?hn ?hr ?_; (case ho => rfl); (case hg => rfl); (case hn => rfl); (case hr => first | (go_simp; done) | (go_simp; rfl)); intro w47 hw; replace HO_3 : Aside0 (Kd.S k60 60 w47 w.heap.size (fun k_ => some k_ ≠ (u247002 : Value).ownBlock ∧ some k_ ≠ (.slice Ao43 y263.length co43 : Value).ownBlock ∧ k_ ≠ gb246) u3 x3_1) := ⟨(by rw [hw]; exact (by (with_reducible repeat (first | apply Kd.S_alloc | apply Kd.S_drewN | apply Kd.S_drew)); exact Kd.S_mono (Kd.S_far (p := ⟨gb246, 0, none⟩) (Kd.S_mono HO_3.out (fun k_ hk => (⟨hk, by first | exact hk.1.2 | exact hk.1 | exact hk.2 | exact hk.1.1 | exact hk.1.2⟩ : _ ∧ k_ ≠ gb246))) (fun _ hk => hk.2) (.int .i64 t266)) (fun _ hk => ⟨hk.1.1.1, ⟨hk.1.2, hk.1.1.2⟩⟩)))⟩; replace HO_247002 : Aside0 (Kd.R (Kd.int .i64) 3 w47 w.heap.size (fun k_ => some k_ ≠ (.slice Ao43 y263.length co43 : Value).ownBlock) u247002 x247002_15) := ⟨(by rw [hw]; exact (by (with_reducible repeat (first | apply Kd.R_alloc | apply Kd.R_drewN | apply Kd.R_drew)); exact Kd.R_mono (Kd.R_far (p := ⟨gb246, 0, none⟩) (Kd.R_types HO_247002.out BK246.out (by decide)) (fun _ hk => hk.2) (.int .i64 t266)) (fun _ hk => hk.1.2)))⟩; replace HO265 : Aside0 (Kd.R (Kd.int .i64) 3 w47 w.heap.size (fun k_ => some k_ ≠ (u247002 : Value).ownBlock) (.slice Ao43 y263.length co43) y263) := ⟨(by rw [hw]; exact (by (with_reducible repeat (first | apply Kd.R_alloc | apply Kd.R_drewN | apply Kd.R_drew)); exact Kd.R_mono (Kd.R_far (p := ⟨gb246, 0, none⟩) (Kd.R_types HO265.out BK246.out (by decide)) (fun _ hk => hk.2) (.int .i64 t266)) (fun _ hk => hk.1.2)))⟩; replace BK246 : Aside0 (w47.heap[gb246]? = some (.cells #[.int .i64 t266, .int .i64 x247001_15, u247002] 60 (0, 0))) := ⟨(by rw [hw]; exact (by (with_reducible repeat (first | refine blk_drewN ?_ _ | refine blk_drew ?_ | refine blk_alloc ?_ _)); refine blk_put (cs := #[.int .i64 x247000_15, .int .i64 x247001_15, u247002]) ?_ 0 _ rfl; (with_reducible repeat (first | refine blk_drewN ?_ _ | refine blk_drew ?_ | refine blk_alloc ?_ _)); exact BK246.out))⟩; replace HI0 : Aside0 (IsS58 w0 w47 g s0_0 t267 t268) := ⟨(by rw [hw]; exact si_)⟩; replace HK : Aside0 (KeepBut w w47 g none) := ⟨(by rw [hw]; exact (by repeat (first | (with_reducible first | exact HK.out | apply KeepBut.set_ | apply keep_drewN | apply keep_drew | apply keep_alloc | refine keep_far ?_ GW246.out _) | exact HK.out)))⟩; replace HB : Aside0 (Below w0.heap.size w0 w47) := ⟨(by rw [hw]; exact bl_)⟩; clear hw; obtain ⟨hcz48_0, hcz48_1, hcz48_2, hfz48_0, hfz48_1, hfz48_2⟩ := cf3_ BK246.out; obtain ⟨Ao50, co50, eo50⟩ := Kd.R_slice HO_247002.out; subst eo50) | ((with_reducible refine gate_builtin (b := .append) (xs := #[.tmp 68, .tmp 70]) rfl ?_); at_builtin; refine Kd.S_append k60 w.heap.size rfl (.tmp 68) (.tmp 70) 24 60 (.agg #[(.int .i64 0), (.int .i64 0), (.slice none 0 0)]) 40 rfl Tryd.underlying24 info60 rfl (by decide) (by omega) u3 x3_1 (⟨t266, x247001_15, x247002_15⟩ : S60) [.int .i64 t266, .int .i64 x247001_15, .slice Ao50 x247002_15.length co50] (fun k_ => some k_ ≠ (.slice Ao43 y263.length co43 : Value).ownBlock ∧ k_ ≠ gb246) (fun k_ => some k_ = (.slice Ao50 x247002_15.length co50 : Value).ownBlock) rfl rfl ?aP (fun k_ hk_ => ((Kd.R_mono (ok' := fun k_ => ((fun k_ => some k_ ≠ (.slice Ao43 y263.length co43 : Value).ownBlock ∧ k_ ≠ gb246)) k_ ∧ some k_ ≠ (u3 : Value).ownBlock) (Kd.R_types (Kd.R_apart' (HO_247002.out) (Kd.S_typed HO_3.out) (by decide)) BK246.out (by decide)) (fun k_ hk => ⟨⟨hk.1.1, hk.2⟩, hk.1.2⟩))).1 k_ hk_.symm) ?aF ?aO (Below.refl _ _) ?aS ?aL ?_; (case aP => exact k60_mkM _ _ _ (⟨t266, x247001_15, x247002_15⟩ : S60) (Kd.R_mono (Kd.R_tight rfl (Kd.R_mono (ok' := fun k_ => ((fun k_ => some k_ ≠ (.slice Ao43 y263.length co43 : Value).ownBlock ∧ k_ ≠ gb246)) k_ ∧ some k_ ≠ (u3 : Value).ownBlock) (Kd.R_types (Kd.R_apart' (HO_247002.out) (Kd.S_typed HO_3.out) (by decide)) BK246.out (by decide)) (fun k_ hk => ⟨⟨hk.1.1, hk.2⟩, hk.1.2⟩))) (fun _ h_ => h_))); (case aF => exact (fun k_ hk => ⟨Kd.fresh' (Kd.R_lt (pR_ HO265.out)) k_ hk, Kd.freshB (g := gb246) (o := .cells #[.int .i64 t266, .int .i64 x247001_15, .slice Ao50 x247002_15.length co50] 60 (0, 0)) bk_ k_ hk⟩)); (case aO => exact (by (with_reducible repeat (first | apply Kd.S_alloc | apply Kd.S_drewN | apply Kd.S_drew)); exact Kd.S_mono HO_3.out (fun k_ hk => ⟨⟨hk.2.1, hk.2.2⟩, fun e_ => hk.1 e_⟩))); (case aS => exact (keep_size (w := w) (g := g) (row := none) (by repeat (first | (with_reducible first | exact HK.out | apply KeepBut.set_ | apply keep_drewN | apply keep_drew | apply keep_alloc | refine keep_far ?_ GW246.out _) | exact HK.out)))); (case aL => have := LMc39.out; omega); intro v270 w49 ho hb hg hat; rw [← Ny269.out] at ho; have HO271 := Aside0.mk (ho); replace BK246 := Aside0.mk (blk_grown (g := gb246) (o := .cells #[.int .i64 t266, .int .i64 x247001_15, .slice Ao50 x247002_15.length co50] 60 (0, 0)) bk_ hg (Kd.S_away HO_3.out (fun _ hk => hk.2.2))); replace HI0 := Aside0.mk (IsS58.grown si_ hg (IsS58.own_neS HI0.out HO_3.out (by decide))); replace HO265 := Aside0.mk (Kd.R_over' (pR_ HO265.out) (Kd.S_typed (pS_ HO_3.out)) (by decide) hg); replace HB := Aside0.mk (below_weaken bl_ HL.out hb); replace HK := Aside0.mk (KeepBut.trans (by repeat (first | (with_reducible first | exact HK.out | apply KeepBut.set_ | apply keep_drewN | apply keep_drew | apply keep_alloc | refine keep_far ?_ GW246.out _) | exact HK.out)) (KeepBut.of_grown hg g) (Kd.S_base2 HO_3.out)); clear HO_3 HO_247002; clear ho hb hg hat))
          go_roundg kj15
          case measure => have := HK1.out; have := HJ5.out; have := HJ15.out; omega
          case rel => exact ⟨(y269), (wrap64 (x4_1 - 1)), (t267), (t268), rs_, H', ⟨by have := HK1.out; have := HJ5.out; have := HJ15.out; omega⟩, ⟨by (with_reducible repeat (first | apply Kd.S_alloc | apply Kd.S_drewN | apply Kd.S_drew)); exact Kd.S_mono HO271.out (fun _ hk => trivial)⟩, ⟨si_⟩, ⟨by repeat (first | (with_reducible first | exact HK.out | apply KeepBut.set_ | apply keep_drewN | apply keep_drew | apply keep_alloc | refine keep_far ?_ GW246.out _) | exact HK.out)⟩, ⟨bl_⟩⟩
         ·rw [if_neg c39] at H
          exact absurd H (by simp)
        ·rw [if_neg c37] at H
         have c37b0 : (t260 == 0) = false := beq_eq_false_iff_ne.mpr c37
         have c37b1 : (t260 != 0) = true := bne_iff_ne.mpr c37
         by_cases c51 : t260 = 1
         ·rw [if_pos c51] at H
          have c51b0 : (t260 == 1) = true := beq_iff_eq.mpr c51
          have c51b1 : (t260 != 1) = false := bne_eq_false_iff_eq.mpr c51
          clear c51
          obtain ⟨y272, hy272⟩ : ∃ y_ : List Int, y_ = (([1073741824, 1073741825, (-1073741824), (-1073741825)] : List Int)) := ⟨_, rfl⟩
          replace H : ((exactpplmake_Src_Pick.f s0_0 t261 t262 y272).bind fun bt275 => (if x3_1.length < 3518437208883 then (exactpplmake_Src_Nodes.l0 kj15 (x3_1 ++ [(⟨x247000_15, bt275.1, x247002_15⟩ : S60)]) (wrap64 (x4_1 - 1)) s0_0 bt275.2.1 bt275.2.2) else (none))) = some (r1, r2, r3) := by first | (rw [hy272]; with_reducible exact H) | (have H2_ := (Option.bind_some _ _).symm.trans H; rw [hy272]; with_reducible exact H2_) | (have H2_ := (Option.bind_some _ _).symm.trans H; with_reducible exact H2_) | with_reducible exact H | (rw [hy272]; exact H) | exact H
          have Ny272 := Aside0.mk hy272
          clear hy272
          replace H := Option.bind_eq_some_iff.mp H
          obtain ⟨⟨t275, t276, t277⟩, A520, H⟩ := H
          replace H : (if x3_1.length < 3518437208883 then (exactpplmake_Src_Nodes.l0 kj15 (x3_1 ++ [(⟨x247000_15, t275, x247002_15⟩ : S60)]) (wrap64 (x4_1 - 1)) s0_0 t276 t277) else (none)) = some (r1, r2, r3) := H
          have A52 := Aside0.mk A520
          clear A520
          by_cases c53 : x3_1.length < 3518437208883
          ·rw [if_pos c53] at H
           have LMc53 := Aside0.mk c53
           clear c53
           obtain ⟨y278, hy278⟩ : ∃ y_ : List (S60), y_ = (x3_1 ++ [(⟨x247000_15, t275, x247002_15⟩ : S60)]) := ⟨_, rfl⟩
           replace H : (exactpplmake_Src_Nodes.l0 kj15 y278 (wrap64 (x4_1 - 1)) s0_0 t276 t277) = some (r1, r2, r3) := by first | (rw [hy278]; with_reducible exact H) | (have H2_ := (Option.bind_some _ _).symm.trans H; rw [hy278]; with_reducible exact H2_) | (have H2_ := (Option.bind_some _ _).symm.trans H; with_reducible exact H2_) | with_reducible exact H | (rw [hy278]; exact H) | exact H
           have Ny278 := Aside0.mk hy278
           clear hy278
           have H' := Aside0.mk H
           clear H
           go_wp2_with (first | ((with_reducible refine gate_callee (f := 23) rfl ?_); refine goesL_ (some 44) rfl rfl Tryd.func23 (by kernel_rfl) rfl #[.pointer (some ⟨g, 0, none⟩), .int .i64 24] rfl (by (try simp only [List.map_toArray, List.map_cons, List.map_nil]); first | done | rfl | (simp only [List.length_drop, List.length_take]; rfl)) ?_; (with_reducible refine (exactpplmake_Src_N.calls g s0_0 x1001_15 x1002_15 24 t260 t261 t262 w0 _ ?side1 ?side2 A36.out).mono ?_); (case side1 => repeat (first | (with_reducible first | exact HI0.out | apply IsS58.alloc | apply IsS58.drewN | apply IsS58.drew | apply IsS58.set_1 | apply IsS58.set_2 | refine IsS58.far ?_ NB0_246.out _) | exact HI0.out)); (case side2 => repeat (first | (with_reducible first | exact HB.out | apply below_alloc | apply pw_below_drewN | apply below_drew1 | refine below_set ?_ (IsS58.ge HI0.out) | refine below_set ?_ GE246.out) | exact HB.out)); rintro e w54 ⟨rfl, hi, hb, hk⟩; refine ⟨_, rfl, ?_⟩; replace HO_3 := Aside0.mk (Kd.S_mono (Kd.S_keep (IsS58.apartS (show IsS58 w0 _ g s0_0 x1001_15 x1002_15 from si_) (pS_ HO_3.out) (by decide)) hk (fun _ h => h.2)) (fun _ h => h.1)); replace HO_247002 := Aside0.mk (Kd.R_mono (Kd.R_keep (IsS58.apart (show IsS58 w0 _ g s0_0 x1001_15 x1002_15 from si_) (pR_ HO_247002.out) (by decide)) hk (fun _ h => h.2)) (fun _ h => h.1)); replace BK246 := Aside0.mk (KeepBut.blk hk (g' := gb246) (o := .cells #[.int .i64 x247000_15, .int .i64 x247001_15, u247002] 60 (0, 0)) bk_ NB246_0.out (by simp)); replace HK := Aside0.mk (KeepBut.trans (by repeat (first | (with_reducible first | exact HK.out | apply KeepBut.set_ | apply keep_drewN | apply keep_drew | apply keep_alloc | refine keep_far ?_ GW246.out _) | exact HK.out)) hk (.inl rfl)); replace HB := Aside0.mk (hb); replace HI0 := Aside0.mk (hi); (try clear hb); (try clear hb2); (try clear hk); (try clear hi)) | ((with_reducible refine gate_dst (N := 54) rfl ?_); refine Kd.R_lit (Kd.int .i64) _ 3 ?hg (N := 54) ?hd (xs := ([1073741824, 1073741825, (-1073741824), (-1073741825)] : List Int)) (inner := [.int .i64 1073741824, .int .i64 1073741825, .int .i64 (-1073741824), .int .i64 (-1073741825)]) (ok := fun _ => True) (okp := fun _ => True) ?hr ?hp (fun _ hk => hk) trivial (Below.refl _ _) (Nat.le_refl _) (by simp) ?_; (case hd => rfl); (case hg => rfl); (case hr => first | (go_simp; done) | (go_simp; rfl)); (case hp => exact (Reps.one (show Kd.M (Kd.int .i64) _ _ _ 1073741824 [.int .i64 1073741824] from rfl) (Reps.one (show Kd.M (Kd.int .i64) _ _ _ 1073741825 [.int .i64 1073741825] from rfl) (Reps.one (show Kd.M (Kd.int .i64) _ _ _ (-1073741824) [.int .i64 (-1073741824)] from rfl) (Reps.one (show Kd.M (Kd.int .i64) _ _ _ (-1073741825) [.int .i64 (-1073741825)] from rfl) (Reps.none _ _)))))); intro v273 w55 ho56 hb hg_ hnew_; clear hg_ hnew_; (first | rw [← Ny272.out] at ho56 | (simp only [Int.reduceToNat] at ho56; rw [← Ny272.out] at ho56)); have HO274 := Aside0.mk (Kd.R_lower (Kd.R_new' ho56 (Kd.R_lt (pR_ HO_247002.out))) (keep_size (w := w) (g := g) (row := none) (by repeat (first | (with_reducible first | exact HK.out | apply KeepBut.set_ | apply keep_drewN | apply keep_drew | apply keep_alloc | refine keep_far ?_ GW246.out _) | exact HK.out)))); replace HO_3 := Aside0.mk (Kd.S_elder' (pS_ HO_3.out) (Kd.R_base ho56) hb); replace HO_247002 := Aside0.mk (Kd.R_elder' (pR_ HO_247002.out) (Kd.R_base ho56) hb); replace BK246 := Aside0.mk (blk_below (g := gb246) (o := .cells #[.int .i64 x247000_15, .int .i64 x247001_15, u247002] 60 (0, 0)) bk_ hb); replace HI0 := Aside0.mk (IsS58.below si_ hb); replace HK := Aside0.mk (KeepBut.trans (by repeat (first | (with_reducible first | exact HK.out | apply KeepBut.set_ | apply keep_drewN | apply keep_drew | apply keep_alloc | refine keep_far ?_ GW246.out _) | exact HK.out)) (KeepBut.of_below hb g none) (.inl rfl)); replace HB := Aside0.mk (below_step bl_ hb); clear hb ho56; obtain ⟨Ao57, co57, eo57⟩ := Kd.R_slice HO274.out; subst eo57) | ((with_reducible refine gate_callee (f := 32) rfl ?_); refine goesL_ (some 55) rfl rfl Tryd.func32 (by kernel_rfl) rfl #[.pointer (some ⟨g, 0, none⟩), .slice Ao57 y272.length co57] rfl (by (try simp only [List.map_toArray, List.map_cons, List.map_nil]); first | done | rfl | (simp only [List.length_drop, List.length_take]; rfl)) ?_; (with_reducible refine (exactpplmake_Src_Pick.calls g s0_0 t261 t262 _ _ y272 t275 t276 t277 w0 _ ?side1 ?side2 ?side3 ?side4 ?side5 A52.out).mono ?_); (case side1 => repeat (first | (with_reducible first | exact HI0.out | apply IsS58.alloc | apply IsS58.drewN | apply IsS58.drew | apply IsS58.set_1 | apply IsS58.set_2 | refine IsS58.far ?_ NB0_246.out _) | exact HI0.out)); (case side2 => repeat (first | (with_reducible first | exact HB.out | apply below_alloc | apply pw_below_drewN | apply below_drew1 | refine below_set ?_ (IsS58.ge HI0.out) | refine below_set ?_ GE246.out) | exact HB.out)); (case side3 => repeat (first | exact (Kd.R_reads' HO274.out).2.2 | (with_reducible refine Kd.C_alloc ?_ _) | (with_reducible refine Kd.C_drewN ?_ _) | (with_reducible refine Kd.C_drew ?_))); (case side4 => exact (Kd.R_reads' HO274.out).2.1); (case side5 => exact far_slice (IsS58.own_ne HI0.out HO274.out (by decide))); rintro e w58 ⟨rfl, hi, hb, hk⟩; refine ⟨_, rfl, ?_⟩; replace HO_3 := Aside0.mk (Kd.S_mono (Kd.S_keep (IsS58.apartS (show IsS58 w0 _ g s0_0 t261 t262 from si_) (pS_ HO_3.out) (by decide)) hk (fun _ h => h.2)) (fun _ h => h.1)); replace HO_247002 := Aside0.mk (Kd.R_mono (Kd.R_keep (IsS58.apart (show IsS58 w0 _ g s0_0 t261 t262 from si_) (pR_ HO_247002.out) (by decide)) hk (fun _ h => h.2)) (fun _ h => h.1)); replace BK246 := Aside0.mk (KeepBut.blk hk (g' := gb246) (o := .cells #[.int .i64 x247000_15, .int .i64 x247001_15, u247002] 60 (0, 0)) bk_ NB246_0.out (by simp)); replace HO274 := Aside0.mk (Kd.R_mono (Kd.R_keep (IsS58.apart (show IsS58 w0 _ g s0_0 t261 t262 from si_) (pR_ HO274.out) (by decide)) hk (fun _ h => h.2)) (fun _ h => h.1)); replace HK := Aside0.mk (KeepBut.trans (by repeat (first | (with_reducible first | exact HK.out | apply KeepBut.set_ | apply keep_drewN | apply keep_drew | apply keep_alloc | refine keep_far ?_ GW246.out _) | exact HK.out)) hk (.inl rfl)); replace HB := Aside0.mk (hb); replace HI0 := Aside0.mk (hi); (try clear hb); (try clear hb2); (try clear hk); (try clear hi); have hnb59 := NB246_0.out; have hnc59 := NB0_246.out; obtain ⟨hcz60_0, hcz60_1, hcz60_2, hfz60_0, hfz60_1, hfz60_2⟩ := cf3_ BK246.out) | ((with_reducible refine gate_store (t := 3) (p := 56) rfl ?_); refine store_event (t := 3) (p := 56) (v := ?vo_w61) (w1 := (w58.setCell ⟨gb246, 1, none⟩ (.int .i64 t275))) ?hg ?ho ?hn ?hr ?_; (case ho => rfl); (case hg => rfl); (case hn => rfl); (case hr => first | (go_simp; done) | (go_simp; rfl)); intro w61 hw; replace HO_3 : Aside0 (Kd.S k60 60 w61 w.heap.size (fun k_ => some k_ ≠ (u247002 : Value).ownBlock ∧ some k_ ≠ (.slice Ao57 y272.length co57 : Value).ownBlock ∧ k_ ≠ gb246) u3 x3_1) := ⟨(by rw [hw]; exact (by (with_reducible repeat (first | apply Kd.S_alloc | apply Kd.S_drewN | apply Kd.S_drew)); exact Kd.S_mono (Kd.S_far (p := ⟨gb246, 1, none⟩) (Kd.S_mono HO_3.out (fun k_ hk => (⟨hk, by first | exact hk.1.2 | exact hk.1 | exact hk.2 | exact hk.1.1 | exact hk.1.2⟩ : _ ∧ k_ ≠ gb246))) (fun _ hk => hk.2) (.int .i64 t275)) (fun _ hk => ⟨hk.1.1.1, ⟨hk.1.2, hk.1.1.2⟩⟩)))⟩; replace HO_247002 : Aside0 (Kd.R (Kd.int .i64) 3 w61 w.heap.size (fun k_ => some k_ ≠ (.slice Ao57 y272.length co57 : Value).ownBlock) u247002 x247002_15) := ⟨(by rw [hw]; exact (by (with_reducible repeat (first | apply Kd.R_alloc | apply Kd.R_drewN | apply Kd.R_drew)); exact Kd.R_mono (Kd.R_far (p := ⟨gb246, 1, none⟩) (Kd.R_types HO_247002.out BK246.out (by decide)) (fun _ hk => hk.2) (.int .i64 t275)) (fun _ hk => hk.1.2)))⟩; replace HO274 : Aside0 (Kd.R (Kd.int .i64) 3 w61 w.heap.size (fun k_ => some k_ ≠ (u247002 : Value).ownBlock) (.slice Ao57 y272.length co57) y272) := ⟨(by rw [hw]; exact (by (with_reducible repeat (first | apply Kd.R_alloc | apply Kd.R_drewN | apply Kd.R_drew)); exact Kd.R_mono (Kd.R_far (p := ⟨gb246, 1, none⟩) (Kd.R_types HO274.out BK246.out (by decide)) (fun _ hk => hk.2) (.int .i64 t275)) (fun _ hk => hk.1.2)))⟩; replace BK246 : Aside0 (w61.heap[gb246]? = some (.cells #[.int .i64 x247000_15, .int .i64 t275, u247002] 60 (0, 0))) := ⟨(by rw [hw]; exact (by (with_reducible repeat (first | refine blk_drewN ?_ _ | refine blk_drew ?_ | refine blk_alloc ?_ _)); refine blk_put (cs := #[.int .i64 x247000_15, .int .i64 x247001_15, u247002]) ?_ 1 _ rfl; (with_reducible repeat (first | refine blk_drewN ?_ _ | refine blk_drew ?_ | refine blk_alloc ?_ _)); exact BK246.out))⟩; replace HI0 : Aside0 (IsS58 w0 w61 g s0_0 t276 t277) := ⟨(by rw [hw]; exact si_)⟩; replace HK : Aside0 (KeepBut w w61 g none) := ⟨(by rw [hw]; exact (by repeat (first | (with_reducible first | exact HK.out | apply KeepBut.set_ | apply keep_drewN | apply keep_drew | apply keep_alloc | refine keep_far ?_ GW246.out _) | exact HK.out)))⟩; replace HB : Aside0 (Below w0.heap.size w0 w61) := ⟨(by rw [hw]; exact bl_)⟩; clear hw; obtain ⟨hcz62_0, hcz62_1, hcz62_2, hfz62_0, hfz62_1, hfz62_2⟩ := cf3_ BK246.out; obtain ⟨Ao64, co64, eo64⟩ := Kd.R_slice HO_247002.out; subst eo64) | ((with_reducible refine gate_builtin (b := .append) (xs := #[.tmp 68, .tmp 70]) rfl ?_); at_builtin; refine Kd.S_append k60 w.heap.size rfl (.tmp 68) (.tmp 70) 24 60 (.agg #[(.int .i64 0), (.int .i64 0), (.slice none 0 0)]) 40 rfl Tryd.underlying24 info60 rfl (by decide) (by omega) u3 x3_1 (⟨x247000_15, t275, x247002_15⟩ : S60) [.int .i64 x247000_15, .int .i64 t275, .slice Ao64 x247002_15.length co64] (fun k_ => some k_ ≠ (.slice Ao57 y272.length co57 : Value).ownBlock ∧ k_ ≠ gb246) (fun k_ => some k_ = (.slice Ao64 x247002_15.length co64 : Value).ownBlock) rfl rfl ?aP (fun k_ hk_ => ((Kd.R_mono (ok' := fun k_ => ((fun k_ => some k_ ≠ (.slice Ao57 y272.length co57 : Value).ownBlock ∧ k_ ≠ gb246)) k_ ∧ some k_ ≠ (u3 : Value).ownBlock) (Kd.R_types (Kd.R_apart' (HO_247002.out) (Kd.S_typed HO_3.out) (by decide)) BK246.out (by decide)) (fun k_ hk => ⟨⟨hk.1.1, hk.2⟩, hk.1.2⟩))).1 k_ hk_.symm) ?aF ?aO (Below.refl _ _) ?aS ?aL ?_; (case aP => exact k60_mkM _ _ _ (⟨x247000_15, t275, x247002_15⟩ : S60) (Kd.R_mono (Kd.R_tight rfl (Kd.R_mono (ok' := fun k_ => ((fun k_ => some k_ ≠ (.slice Ao57 y272.length co57 : Value).ownBlock ∧ k_ ≠ gb246)) k_ ∧ some k_ ≠ (u3 : Value).ownBlock) (Kd.R_types (Kd.R_apart' (HO_247002.out) (Kd.S_typed HO_3.out) (by decide)) BK246.out (by decide)) (fun k_ hk => ⟨⟨hk.1.1, hk.2⟩, hk.1.2⟩))) (fun _ h_ => h_))); (case aF => exact (fun k_ hk => ⟨Kd.fresh' (Kd.R_lt (pR_ HO274.out)) k_ hk, Kd.freshB (g := gb246) (o := .cells #[.int .i64 x247000_15, .int .i64 t275, .slice Ao64 x247002_15.length co64] 60 (0, 0)) bk_ k_ hk⟩)); (case aO => exact (by (with_reducible repeat (first | apply Kd.S_alloc | apply Kd.S_drewN | apply Kd.S_drew)); exact Kd.S_mono HO_3.out (fun k_ hk => ⟨⟨hk.2.1, hk.2.2⟩, fun e_ => hk.1 e_⟩))); (case aS => exact (keep_size (w := w) (g := g) (row := none) (by repeat (first | (with_reducible first | exact HK.out | apply KeepBut.set_ | apply keep_drewN | apply keep_drew | apply keep_alloc | refine keep_far ?_ GW246.out _) | exact HK.out)))); (case aL => have := LMc53.out; omega); intro v279 w63 ho hb hg hat; rw [← Ny278.out] at ho; have HO280 := Aside0.mk (ho); replace BK246 := Aside0.mk (blk_grown (g := gb246) (o := .cells #[.int .i64 x247000_15, .int .i64 t275, .slice Ao64 x247002_15.length co64] 60 (0, 0)) bk_ hg (Kd.S_away HO_3.out (fun _ hk => hk.2.2))); replace HI0 := Aside0.mk (IsS58.grown si_ hg (IsS58.own_neS HI0.out HO_3.out (by decide))); replace HO274 := Aside0.mk (Kd.R_over' (pR_ HO274.out) (Kd.S_typed (pS_ HO_3.out)) (by decide) hg); replace HB := Aside0.mk (below_weaken bl_ HL.out hb); replace HK := Aside0.mk (KeepBut.trans (by repeat (first | (with_reducible first | exact HK.out | apply KeepBut.set_ | apply keep_drewN | apply keep_drew | apply keep_alloc | refine keep_far ?_ GW246.out _) | exact HK.out)) (KeepBut.of_grown hg g) (Kd.S_base2 HO_3.out)); clear HO_3 HO_247002; clear ho hb hg hat))
           go_roundg kj15
           case measure => have := HK1.out; have := HJ5.out; have := HJ15.out; omega
           case rel => exact ⟨(y278), (wrap64 (x4_1 - 1)), (t276), (t277), rs_, H', ⟨by have := HK1.out; have := HJ5.out; have := HJ15.out; omega⟩, ⟨by (with_reducible repeat (first | apply Kd.S_alloc | apply Kd.S_drewN | apply Kd.S_drew)); exact Kd.S_mono HO280.out (fun _ hk => trivial)⟩, ⟨si_⟩, ⟨by repeat (first | (with_reducible first | exact HK.out | apply KeepBut.set_ | apply keep_drewN | apply keep_drew | apply keep_alloc | refine keep_far ?_ GW246.out _) | exact HK.out)⟩, ⟨bl_⟩⟩
          ·rw [if_neg c53] at H
           exact absurd H (by simp)
         ·rw [if_neg c51] at H
          have c51b0 : (t260 == 1) = false := beq_eq_false_iff_ne.mpr c51
          have c51b1 : (t260 != 1) = true := bne_iff_ne.mpr c51
          by_cases c65 : t260 = 2
          ·rw [if_pos c65] at H
           have c65b0 : (t260 == 2) = true := beq_iff_eq.mpr c65
           have c65b1 : (t260 != 2) = false := bne_eq_false_iff_eq.mpr c65
           clear c65
           replace H := Option.bind_eq_some_iff.mp H
           obtain ⟨⟨t281, t282, t283⟩, A660, H⟩ := H
           replace H : (if x247002_15.length < 17592186044416 then (if x3_1.length < 3518437208883 then (exactpplmake_Src_Nodes.l0 kj15 (x3_1 ++ [(⟨x247000_15, x247001_15, (x247002_15 ++ [t281])⟩ : S60)]) (wrap64 (x4_1 - 1)) s0_0 t282 t283) else (none)) else (none)) = some (r1, r2, r3) := H
           have A66 := Aside0.mk A660
           clear A660
           by_cases c67 : x247002_15.length < 17592186044416
           ·rw [if_pos c67] at H
            have LMc67 := Aside0.mk c67
            clear c67
            obtain ⟨y284, hy284⟩ : ∃ y_ : List Int, y_ = (x247002_15 ++ [t281]) := ⟨_, rfl⟩
            replace H : (if x3_1.length < 3518437208883 then (exactpplmake_Src_Nodes.l0 kj15 (x3_1 ++ [(⟨x247000_15, x247001_15, y284⟩ : S60)]) (wrap64 (x4_1 - 1)) s0_0 t282 t283) else (none)) = some (r1, r2, r3) := by first | (rw [hy284]; with_reducible exact H) | (have H2_ := (Option.bind_some _ _).symm.trans H; rw [hy284]; with_reducible exact H2_) | (have H2_ := (Option.bind_some _ _).symm.trans H; with_reducible exact H2_) | with_reducible exact H | (rw [hy284]; exact H) | exact H
            have Ny284 := Aside0.mk hy284
            clear hy284
            by_cases c68 : x3_1.length < 3518437208883
            ·rw [if_pos c68] at H
             have LMc68 := Aside0.mk c68
             clear c68
             obtain ⟨y287, hy287⟩ : ∃ y_ : List (S60), y_ = (x3_1 ++ [(⟨x247000_15, x247001_15, y284⟩ : S60)]) := ⟨_, rfl⟩
             replace H : (exactpplmake_Src_Nodes.l0 kj15 y287 (wrap64 (x4_1 - 1)) s0_0 t282 t283) = some (r1, r2, r3) := by first | (rw [hy287]; with_reducible exact H) | (have H2_ := (Option.bind_some _ _).symm.trans H; rw [hy287]; with_reducible exact H2_) | (have H2_ := (Option.bind_some _ _).symm.trans H; with_reducible exact H2_) | with_reducible exact H | (rw [hy287]; exact H) | exact H
             have Ny287 := Aside0.mk hy287
             clear hy287
             have H' := Aside0.mk H
             clear H
             try go_wp2_with (first | ((with_reducible refine gate_callee (f := 23) rfl ?_); refine goesL_ (some 44) rfl rfl Tryd.func23 (by kernel_rfl) rfl #[.pointer (some ⟨g, 0, none⟩), .int .i64 24] rfl (by (try simp only [List.map_toArray, List.map_cons, List.map_nil]); first | done | rfl | (simp only [List.length_drop, List.length_take]; rfl)) ?_; (with_reducible refine (exactpplmake_Src_N.calls g s0_0 x1001_15 x1002_15 24 t260 t261 t262 w0 _ ?side1 ?side2 A36.out).mono ?_); (case side1 => repeat (first | (with_reducible first | exact HI0.out | apply IsS58.alloc | apply IsS58.drewN | apply IsS58.drew | apply IsS58.set_1 | apply IsS58.set_2 | refine IsS58.far ?_ NB0_246.out _) | exact HI0.out)); (case side2 => repeat (first | (with_reducible first | exact HB.out | apply below_alloc | apply pw_below_drewN | apply below_drew1 | refine below_set ?_ (IsS58.ge HI0.out) | refine below_set ?_ GE246.out) | exact HB.out)); rintro e w69 ⟨rfl, hi, hb, hk⟩; refine ⟨_, rfl, ?_⟩; replace HO_3 := Aside0.mk (Kd.S_mono (Kd.S_keep (IsS58.apartS (show IsS58 w0 _ g s0_0 x1001_15 x1002_15 from si_) (pS_ HO_3.out) (by decide)) hk (fun _ h => h.2)) (fun _ h => h.1)); replace HO_247002 := Aside0.mk (Kd.R_mono (Kd.R_keep (IsS58.apart (show IsS58 w0 _ g s0_0 x1001_15 x1002_15 from si_) (pR_ HO_247002.out) (by decide)) hk (fun _ h => h.2)) (fun _ h => h.1)); replace BK246 := Aside0.mk (KeepBut.blk hk (g' := gb246) (o := .cells #[.int .i64 x247000_15, .int .i64 x247001_15, u247002] 60 (0, 0)) bk_ NB246_0.out (by simp)); replace HK := Aside0.mk (KeepBut.trans (by repeat (first | (with_reducible first | exact HK.out | apply KeepBut.set_ | apply keep_drewN | apply keep_drew | apply keep_alloc | refine keep_far ?_ GW246.out _) | exact HK.out)) hk (.inl rfl)); replace HB := Aside0.mk (hb); replace HI0 := Aside0.mk (hi); (try clear hb); (try clear hb2); (try clear hk); (try clear hi)))
             replace HO_3 := Aside0.mk (Kd.S_drew HO_3.out)
             replace HO_247002 := Aside0.mk (Kd.R_drew HO_247002.out)
             replace BK246 := Aside0.mk (blk_drew BK246.out)
             replace HI0 := Aside0.mk (IsS58.drew HI0.out)
             replace HK := Aside0.mk (keep_drew HK.out)
             replace HB := Aside0.mk (below_drew1 HB.out)
             obtain ⟨Ao71, co71, eo71⟩ := Kd.S_slice HO_3.out
             (first | subst eo71 | (injection eo71 with f1_ f2_ f3_; have f4_ := f1_.symm; have f5_ := f3_.symm; clear f1_ f2_ f3_; subst f4_; subst f5_))
             refine start_ (n := 10) (S := fun w' => w'.cell? ⟨gb246, 0, none⟩ = some (.int .i64 x247000_15) ∧ w'.cell? ⟨gb246, 1, none⟩ = some (.int .i64 x247001_15) ∧ w'.cell? ⟨gb246, 2, none⟩ = some (u247002)) (ds := [9]) #[false, false, false, false, false, false, false, false, false, false] (by kernel_rfl) rfl rfl ⟨(blk_cell BK246.out 0).trans rfl, (blk_cell BK246.out 1).trans rfl, (blk_cell BK246.out 2).trans rfl⟩ (fun hHeld => ?_); refine with_tabW exactpplmake_Src_Nodes.tab18 exactpplmake_Src_Nodes.bits18 (fun HT_ HW_ => ?_)
             generalize w69.drew = w70 at HO_3 HO_247002 BK246 HI0 HK HB hHeld ⊢
             refine pu_ HT_ 0 59 (bm 10 1) ?_
             refine pu_ HT_ 2 61 (bm 10 5) ?_
             refine pu_ HT_ 3 62 (bm 10 13) ?_
             refine pu_ HT_ 4 63 (bm 10 29) ?_
             refine ta_ HT_ HW_ 1 60 (bm 10 31) hHeld ?_
             refine one_ (i := 5) (N := some 64) #[true, true, true, true, true, true, false, false, false, false] rfl rfl (one_of HT_.out (by kernel_rfl)) (by decide) (fun K hK => ?_)
             refine goes_ Tryd.func25 (by kernel_rfl) rfl #[.pointer (some ⟨g, 0, none⟩), .int .i64 (-1), .int .i64 (x3_1.length : Int)] (by rfl) rfl rfl (by (try simp only [List.map_toArray, List.map_cons, List.map_nil]); first | done | rfl | (simp only [List.length_drop, List.length_take]; rfl)) ?_
             with_reducible refine (exactpplmake_Src_Range.calls g s0_0 t261 t262 (-1) (x3_1.length : Int) t281 t282 t283 w0 _ ?side1 ?side2 A66.out).mono ?_
             (case side1 => repeat (first | (with_reducible first | exact HI0.out | apply IsS58.alloc | apply IsS58.drewN | apply IsS58.drew | apply IsS58.set_1 | apply IsS58.set_2 | refine IsS58.far ?_ NB0_246.out _) | exact HI0.out))
             (case side2 => repeat (first | (with_reducible first | exact HB.out | apply below_alloc | apply pw_below_drewN | apply below_drew1 | refine below_set ?_ (IsS58.ge HI0.out) | refine below_set ?_ GE246.out) | exact HB.out))
             rintro e w72 ⟨rfl, hi, hb, hk⟩
             refine ⟨_, rfl, ?_⟩
             replace HO_3 := Aside0.mk (Kd.S_mono (Kd.S_keep (IsS58.apartS (show IsS58 w0 _ g s0_0 t261 t262 from si_) (pS_ HO_3.out) (by decide)) hk (fun _ h => h.2)) (fun _ h => h.1))
             replace HO_247002 := Aside0.mk (Kd.R_mono (Kd.R_keep (IsS58.apart (show IsS58 w0 _ g s0_0 t261 t262 from si_) (pR_ HO_247002.out) (by decide)) hk (fun _ h => h.2)) (fun _ h => h.1))
             replace BK246 := Aside0.mk (KeepBut.blk hk (g' := gb246) (o := .cells #[.int .i64 x247000_15, .int .i64 x247001_15, u247002] 60 (0, 0)) bk_ NB246_0.out (by simp))
             replace HK := Aside0.mk (KeepBut.trans (by repeat (first | (with_reducible first | exact HK.out | apply KeepBut.set_ | apply keep_drewN | apply keep_drew | apply keep_alloc | refine keep_far ?_ GW246.out _) | exact HK.out)) hk (.inl rfl))
             replace HB := Aside0.mk (hb)
             replace HI0 := Aside0.mk (hi)
             (try clear hb)
             (try clear hb2)
             (try clear hk)
             (try clear hi)
             refine hK.out _ _ ⟨(blk_cell BK246.out 0).trans rfl, (blk_cell BK246.out 1).trans rfl, (blk_cell BK246.out 2).trans rfl⟩ (fun hHeld => ?_)
             clear hK K
             refine norm_ (a' := ?_) ?_ ?_
             rotate_left
             ·show Act.put _ (some 64) _ = _
              simp only [Act.put, List.setIfInBounds_toArray, List.set_cons_zero, List.set_cons_succ, i64_w, i32_w]
              rfl
             refine one_ (i := 6) (N := some 65) #[true, true, true, true, true, true, true, false, false, false] rfl rfl (one_of HT_.out (by kernel_rfl)) (by decide) (fun K hK => ?_)
             refine value_ (w1 := ?_) (v := ?_) (by rfl) rfl ?_ ?_
             rotate_left 2
             ·go_simp
              constructor
              ·rfl
              ·rfl
             refine hK.out _ _ ⟨(blk_cell (blk_alloc BK246.out _) 0).trans rfl, (blk_cell (blk_alloc BK246.out _) 1).trans rfl, (blk_cell (blk_alloc BK246.out _) 2).trans rfl⟩ (fun hHeld => ?_)
             clear hK K
             refine norm_ (a' := ?_) ?_ ?_
             rotate_left
             ·show Act.put _ (some 65) _ = _
              simp only [Act.put, List.setIfInBounds_toArray, List.set_cons_zero, List.set_cons_succ, i64_w, i32_w]
              rfl
             refine one_ (i := 7) (N := some 66) #[true, true, true, true, true, true, true, true, false, false] rfl rfl (one_of HT_.out (by kernel_rfl)) (by decide) (fun K hK => ?_)
             refine Kd.R_append_step (Kd.int .i64) w.heap.size (by rfl) (.tmp 60) (.tmp 65) 22 3 (.int .i64 0) 8 rfl Tryd.underlying22 info3 rfl (by decide) (by omega) u247002 x247002_15 t281 [.int .i64 t281] (fun _ => True) (fun _ => False) rfl rfl ?aP (fun _ hk => hk.elim) ?aF ?aO (Below.refl _ _) ?aS ?aL ?_
             (case aP => exact rfl)
             (case aF => exact (fun _ _ => trivial))
             (case aO => exact (pR_ HO_247002.out))
             (case aS => exact (keep_size (w := w) (g := g) (row := none) (by repeat (first | (with_reducible first | exact HK.out | apply KeepBut.set_ | apply keep_drewN | apply keep_drew | apply keep_alloc | refine keep_far ?_ GW246.out _) | exact HK.out))))
             (case aL => have := LMc67.out; omega)
             intro v285 w73 ho hb hg hat
             rw [← Ny284.out] at ho
             have HO286 := Aside0.mk (ho)
             replace HO_3 := Aside0.mk (Kd.S_after (ok := (fun k_ => k_ ≠ gb246)) (by (with_reducible repeat (first | apply Kd.S_alloc | apply Kd.S_drewN | apply Kd.S_drew)); exact Kd.S_mono HO_3.out (fun _ hk => ⟨hk.2, hk.1⟩)) hg hat)
             replace BK246 := Aside0.mk (blk_grown (g := gb246) (o := .cells #[.int .i64 x247000_15, .int .i64 x247001_15, u247002] 60 (0, 0)) bk_ hg (Kd.R_ne HO_247002.out BK246.out (by decide)))
             replace HI0 := Aside0.mk (IsS58.grown si_ hg (IsS58.own_ne HI0.out HO_247002.out (by decide)))
             replace HB := Aside0.mk (below_weaken bl_ HL.out hb)
             replace HK := Aside0.mk (KeepBut.trans (by repeat (first | (with_reducible first | exact HK.out | apply KeepBut.set_ | apply keep_drewN | apply keep_drew | apply keep_alloc | refine keep_far ?_ GW246.out _) | exact HK.out)) (KeepBut.of_grown hg g) (Kd.R_base2 HO_247002.out))
             clear HO_247002
             clear ho hb hg hat
             obtain ⟨Ao74, co74, eo74⟩ := Kd.R_slice HO286.out
             (first | subst eo74 | (injection eo74 with f1_ f2_ f3_; have f4_ := f1_.symm; have f5_ := f3_.symm; clear f1_ f2_ f3_; subst f4_; subst f5_))
             refine hK.out _ _ ⟨(blk_cell BK246.out 0).trans rfl, (blk_cell BK246.out 1).trans rfl, (blk_cell BK246.out 2).trans rfl⟩ (fun hHeld => ?_)
             clear hK K
             refine norm_ (a' := ?_) ?_ ?_
             rotate_left
             ·show Act.put _ (some 66) _ = _
              simp only [Act.put, List.setIfInBounds_toArray, List.set_cons_zero, List.set_cons_succ, i64_w, i32_w]
              rfl
             refine pu_ HT_ 8 67 (bm 10 511) ?_
             refine last_ (i := 9) (N := none) #[true, true, true, true, true, true, true, true, true, true] rfl rfl (one_of HT_.out (by kernel_rfl)) (by decide) (fun K hK => ?_)
             have hs75 : w73.cell? ⟨gb246, 2, none⟩ = some (u247002) := (blk_cell BK246.out 2).trans rfl
             have hfs75 := blk_frozen BK246.out 2
             refine skip_ (w1 := ?_) (by rfl) rfl ?_ ?_
             rotate_left
             ·go_simp
              rfl
             refine hK.out _ _ ?_
             clear hK K
             refine done_ (done_of HT_.out (by kernel_rfl)) ?_
             have n0_ : Aside0 (Kd.S k60 60 (w73.setCell ⟨gb246, 2, none⟩ (.slice Ao74 y284.length co74)) w.heap.size (fun k_ => some k_ ≠ (.slice Ao74 y284.length co74 : Value).ownBlock ∧ k_ ≠ gb246) (.slice Ao71 x3_1.length co71) x3_1) := ⟨by (with_reducible repeat (first | apply Kd.S_alloc | apply Kd.S_drewN | apply Kd.S_drew)); exact Kd.S_mono (Kd.S_far (p := ⟨gb246, 2, none⟩) (Kd.S_mono HO_3.out (fun k_ hk => (⟨hk, by first | exact hk.1 | exact hk.1 | exact hk.2 | exact hk.1.1 | exact hk.1.2⟩ : _ ∧ k_ ≠ gb246))) (fun _ hk => hk.2) (.slice Ao74 y284.length co74)) (fun _ hk => ⟨hk.1.2, hk.1.1⟩)⟩
             have n1_ : Aside0 (Kd.R (Kd.int .i64) 3 (w73.setCell ⟨gb246, 2, none⟩ (.slice Ao74 y284.length co74)) w.heap.size (fun _ => True) (.slice Ao74 y284.length co74) y284) := ⟨by (with_reducible repeat (first | apply Kd.R_alloc | apply Kd.R_drewN | apply Kd.R_drew)); exact Kd.R_mono (Kd.R_far (p := ⟨gb246, 2, none⟩) (Kd.R_types HO286.out BK246.out (by decide)) (fun _ hk => hk.2) (.slice Ao74 y284.length co74)) (fun _ hk => trivial)⟩
             have n2_ : Aside0 ((w73.setCell ⟨gb246, 2, none⟩ (.slice Ao74 y284.length co74)).heap[gb246]? = some (.cells #[.int .i64 x247000_15, .int .i64 x247001_15, .slice Ao74 y284.length co74] 60 (0, 0))) := ⟨by (with_reducible repeat (first | refine blk_drewN ?_ _ | refine blk_drew ?_ | refine blk_alloc ?_ _)); refine blk_put (cs := #[.int .i64 x247000_15, .int .i64 x247001_15, u247002]) ?_ 2 _ rfl; (with_reducible repeat (first | refine blk_drewN ?_ _ | refine blk_drew ?_ | refine blk_alloc ?_ _)); exact BK246.out⟩
             have n3_ : Aside0 (IsS58 w0 (w73.setCell ⟨gb246, 2, none⟩ (.slice Ao74 y284.length co74)) g s0_0 t282 t283) := ⟨si_⟩
             have n4_ : Aside0 (KeepBut w (w73.setCell ⟨gb246, 2, none⟩ (.slice Ao74 y284.length co74)) g none) := ⟨by repeat (first | (with_reducible first | exact HK.out | apply KeepBut.set_ | apply keep_drewN | apply keep_drew | apply keep_alloc | refine keep_far ?_ GW246.out _) | exact HK.out)⟩
             have n5_ : Aside0 (Below w0.heap.size w0 (w73.setCell ⟨gb246, 2, none⟩ (.slice Ao74 y284.length co74))) := ⟨bl_⟩
             (try clear HO_3)
             (try clear HO286)
             (try clear BK246)
             (try clear HI0)
             (try clear HK)
             (try clear HB)
             generalize (w73.setCell ⟨gb246, 2, none⟩ (.slice Ao74 y284.length co74)) = w76 at n0_ n1_ n2_ n3_ n4_ n5_ ⊢
             have HO_3 := n0_
             have HO286 := n1_
             have BK246 := n2_
             have HI0 := n3_
             have HK := n4_
             have HB := n5_
             clear n0_ n1_ n2_ n3_ n4_ n5_
             have hnb77 := NB246_0.out
             have hnc77 := NB0_246.out
             obtain ⟨hcz78_0, hcz78_1, hcz78_2, hfz78_0, hfz78_1, hfz78_2⟩ := cf3_ BK246.out
             try go_wp2_with (first | ((with_reducible refine gate_builtin (b := .append) (xs := #[.tmp 68, .tmp 70]) rfl ?_); at_builtin; refine Kd.S_append k60 w.heap.size rfl (.tmp 68) (.tmp 70) 24 60 (.agg #[(.int .i64 0), (.int .i64 0), (.slice none 0 0)]) 40 rfl Tryd.underlying24 info60 rfl (by decide) (by omega) (.slice Ao71 x3_1.length co71) x3_1 (⟨x247000_15, x247001_15, y284⟩ : S60) [.int .i64 x247000_15, .int .i64 x247001_15, .slice Ao74 y284.length co74] (fun k_ => k_ ≠ gb246) (fun k_ => some k_ = (.slice Ao74 y284.length co74 : Value).ownBlock) rfl rfl ?aP (fun k_ hk_ => ((Kd.R_mono (ok' := fun k_ => ((fun k_ => k_ ≠ gb246)) k_ ∧ some k_ ≠ (.slice Ao71 x3_1.length co71 : Value).ownBlock) (Kd.R_types (Kd.R_apart' (HO286.out) (Kd.S_typed HO_3.out) (by decide)) BK246.out (by decide)) (fun k_ hk => ⟨hk.2, hk.1.2⟩))).1 k_ hk_.symm) ?aF ?aO (Below.refl _ _) ?aS ?aL ?_; (case aP => exact k60_mkM _ _ _ (⟨x247000_15, x247001_15, y284⟩ : S60) (Kd.R_mono (Kd.R_tight rfl (Kd.R_mono (ok' := fun k_ => ((fun k_ => k_ ≠ gb246)) k_ ∧ some k_ ≠ (.slice Ao71 x3_1.length co71 : Value).ownBlock) (Kd.R_types (Kd.R_apart' (HO286.out) (Kd.S_typed HO_3.out) (by decide)) BK246.out (by decide)) (fun k_ hk => ⟨hk.2, hk.1.2⟩))) (fun _ h_ => h_))); (case aF => exact (fun k_ hk => Kd.freshB (g := gb246) (o := .cells #[.int .i64 x247000_15, .int .i64 x247001_15, .slice Ao74 y284.length co74] 60 (0, 0)) bk_ k_ hk)); (case aO => exact (by (with_reducible repeat (first | apply Kd.S_alloc | apply Kd.S_drewN | apply Kd.S_drew)); exact Kd.S_mono HO_3.out (fun k_ hk => ⟨hk.2, fun e_ => hk.1 e_⟩))); (case aS => exact (keep_size (w := w) (g := g) (row := none) (by repeat (first | (with_reducible first | exact HK.out | apply KeepBut.set_ | apply keep_drewN | apply keep_drew | apply keep_alloc | refine keep_far ?_ GW246.out _) | exact HK.out)))); (case aL => have := LMc68.out; omega); intro v288 w79 ho hb hg hat; rw [← Ny287.out] at ho; have n0_ := Aside0.mk (blk_grown (g := gb246) (o := .cells #[.int .i64 x247000_15, .int .i64 x247001_15, .slice Ao74 y284.length co74] 60 (0, 0)) bk_ hg (Kd.S_away HO_3.out (fun _ hk => hk.2))); have n1_ := Aside0.mk (IsS58.grown si_ hg (IsS58.own_neS HI0.out HO_3.out (by decide))); have n2_ := Aside0.mk (below_weaken bl_ HL.out hb); have n3_ := Aside0.mk (KeepBut.trans (by repeat (first | (with_reducible first | exact HK.out | apply KeepBut.set_ | apply keep_drewN | apply keep_drew | apply keep_alloc | refine keep_far ?_ GW246.out _) | exact HK.out)) (KeepBut.of_grown hg g) (Kd.S_base2 HO_3.out)); have n4_ := Aside0.mk (ho); clear BK246; clear HI0; clear HB; clear HK; clear HO_3; clear HO286; have BK246 := n0_; have HI0 := n1_; have HB := n2_; have HK := n3_; have HO289 := n4_; clear n0_ n1_ n2_ n3_ n4_; clear ho hb hg hat))
             go_roundg kj15
             case measure => have := HK1.out; have := HJ5.out; have := HJ15.out; omega
             case rel => exact ⟨(y287), (wrap64 (x4_1 - 1)), (t282), (t283), rs_, H', ⟨by have := HK1.out; have := HJ5.out; have := HJ15.out; omega⟩, ⟨by (with_reducible repeat (first | apply Kd.S_alloc | apply Kd.S_drewN | apply Kd.S_drew)); exact Kd.S_mono HO289.out (fun _ hk => trivial)⟩, ⟨si_⟩, ⟨by repeat (first | (with_reducible first | exact HK.out | apply KeepBut.set_ | apply keep_drewN | apply keep_drew | apply keep_alloc | refine keep_far ?_ GW246.out _) | exact HK.out)⟩, ⟨bl_⟩⟩
            ·rw [if_neg c68] at H
             exact absurd H (by simp)
           ·rw [if_neg c67] at H
            exact absurd H (by simp)
          ·rw [if_neg c65] at H
           have c65b0 : (t260 == 2) = false := beq_eq_false_iff_ne.mpr c65
           have c65b1 : (t260 != 2) = true := bne_iff_ne.mpr c65
           by_cases c80 : x3_1.length < 3518437208883
           ·rw [if_pos c80] at H
            have LMc80 := Aside0.mk c80
            clear c80
            obtain ⟨y290, hy290⟩ : ∃ y_ : List (S60), y_ = (x3_1 ++ [(⟨x247000_15, x247001_15, x247002_15⟩ : S60)]) := ⟨_, rfl⟩
            replace H : (exactpplmake_Src_Nodes.l0 kj15 y290 (wrap64 (x4_1 - 1)) s0_0 t261 t262) = some (r1, r2, r3) := by first | (rw [hy290]; with_reducible exact H) | (have H2_ := (Option.bind_some _ _).symm.trans H; rw [hy290]; with_reducible exact H2_) | (have H2_ := (Option.bind_some _ _).symm.trans H; with_reducible exact H2_) | with_reducible exact H | (rw [hy290]; exact H) | exact H
            have Ny290 := Aside0.mk hy290
            clear hy290
            have H' := Aside0.mk H
            clear H
            go_wp2_with (first | ((with_reducible refine gate_callee (f := 23) rfl ?_); refine goesL_ (some 44) rfl rfl Tryd.func23 (by kernel_rfl) rfl #[.pointer (some ⟨g, 0, none⟩), .int .i64 24] rfl (by (try simp only [List.map_toArray, List.map_cons, List.map_nil]); first | done | rfl | (simp only [List.length_drop, List.length_take]; rfl)) ?_; (with_reducible refine (exactpplmake_Src_N.calls g s0_0 x1001_15 x1002_15 24 t260 t261 t262 w0 _ ?side1 ?side2 A36.out).mono ?_); (case side1 => repeat (first | (with_reducible first | exact HI0.out | apply IsS58.alloc | apply IsS58.drewN | apply IsS58.drew | apply IsS58.set_1 | apply IsS58.set_2 | refine IsS58.far ?_ NB0_246.out _) | exact HI0.out)); (case side2 => repeat (first | (with_reducible first | exact HB.out | apply below_alloc | apply pw_below_drewN | apply below_drew1 | refine below_set ?_ (IsS58.ge HI0.out) | refine below_set ?_ GE246.out) | exact HB.out)); rintro e w81 ⟨rfl, hi, hb, hk⟩; refine ⟨_, rfl, ?_⟩; replace HO_3 := Aside0.mk (Kd.S_mono (Kd.S_keep (IsS58.apartS (show IsS58 w0 _ g s0_0 x1001_15 x1002_15 from si_) (pS_ HO_3.out) (by decide)) hk (fun _ h => h.2)) (fun _ h => h.1)); replace HO_247002 := Aside0.mk (Kd.R_mono (Kd.R_keep (IsS58.apart (show IsS58 w0 _ g s0_0 x1001_15 x1002_15 from si_) (pR_ HO_247002.out) (by decide)) hk (fun _ h => h.2)) (fun _ h => h.1)); replace BK246 := Aside0.mk (KeepBut.blk hk (g' := gb246) (o := .cells #[.int .i64 x247000_15, .int .i64 x247001_15, u247002] 60 (0, 0)) bk_ NB246_0.out (by simp)); replace HK := Aside0.mk (KeepBut.trans (by repeat (first | (with_reducible first | exact HK.out | apply KeepBut.set_ | apply keep_drewN | apply keep_drew | apply keep_alloc | refine keep_far ?_ GW246.out _) | exact HK.out)) hk (.inl rfl)); replace HB := Aside0.mk (hb); replace HI0 := Aside0.mk (hi); (try clear hb); (try clear hb2); (try clear hk); (try clear hi); have hnb82 := NB246_0.out; have hnc82 := NB0_246.out; obtain ⟨hcz83_0, hcz83_1, hcz83_2, hfz83_0, hfz83_1, hfz83_2⟩ := cf3_ BK246.out; obtain ⟨Ao85, co85, eo85⟩ := Kd.R_slice HO_247002.out; subst eo85) | ((with_reducible refine gate_builtin (b := .append) (xs := #[.tmp 68, .tmp 70]) rfl ?_); at_builtin; refine Kd.S_append k60 w.heap.size rfl (.tmp 68) (.tmp 70) 24 60 (.agg #[(.int .i64 0), (.int .i64 0), (.slice none 0 0)]) 40 rfl Tryd.underlying24 info60 rfl (by decide) (by omega) u3 x3_1 (⟨x247000_15, x247001_15, x247002_15⟩ : S60) [.int .i64 x247000_15, .int .i64 x247001_15, .slice Ao85 x247002_15.length co85] (fun k_ => k_ ≠ gb246) (fun k_ => some k_ = (.slice Ao85 x247002_15.length co85 : Value).ownBlock) rfl rfl ?aP (fun k_ hk_ => ((Kd.R_mono (ok' := fun k_ => ((fun k_ => k_ ≠ gb246)) k_ ∧ some k_ ≠ (u3 : Value).ownBlock) (Kd.R_types (Kd.R_apart' (HO_247002.out) (Kd.S_typed HO_3.out) (by decide)) BK246.out (by decide)) (fun k_ hk => ⟨hk.2, hk.1.2⟩))).1 k_ hk_.symm) ?aF ?aO (Below.refl _ _) ?aS ?aL ?_; (case aP => exact k60_mkM _ _ _ (⟨x247000_15, x247001_15, x247002_15⟩ : S60) (Kd.R_mono (Kd.R_tight rfl (Kd.R_mono (ok' := fun k_ => ((fun k_ => k_ ≠ gb246)) k_ ∧ some k_ ≠ (u3 : Value).ownBlock) (Kd.R_types (Kd.R_apart' (HO_247002.out) (Kd.S_typed HO_3.out) (by decide)) BK246.out (by decide)) (fun k_ hk => ⟨hk.2, hk.1.2⟩))) (fun _ h_ => h_))); (case aF => exact (fun k_ hk => Kd.freshB (g := gb246) (o := .cells #[.int .i64 x247000_15, .int .i64 x247001_15, .slice Ao85 x247002_15.length co85] 60 (0, 0)) bk_ k_ hk)); (case aO => exact (by (with_reducible repeat (first | apply Kd.S_alloc | apply Kd.S_drewN | apply Kd.S_drew)); exact Kd.S_mono HO_3.out (fun k_ hk => ⟨hk.2, fun e_ => hk.1 e_⟩))); (case aS => exact (keep_size (w := w) (g := g) (row := none) (by repeat (first | (with_reducible first | exact HK.out | apply KeepBut.set_ | apply keep_drewN | apply keep_drew | apply keep_alloc | refine keep_far ?_ GW246.out _) | exact HK.out)))); (case aL => have := LMc80.out; omega); intro v291 w84 ho hb hg hat; rw [← Ny290.out] at ho; have HO292 := Aside0.mk (ho); replace BK246 := Aside0.mk (blk_grown (g := gb246) (o := .cells #[.int .i64 x247000_15, .int .i64 x247001_15, .slice Ao85 x247002_15.length co85] 60 (0, 0)) bk_ hg (Kd.S_away HO_3.out (fun _ hk => hk.2))); replace HI0 := Aside0.mk (IsS58.grown si_ hg (IsS58.own_neS HI0.out HO_3.out (by decide))); replace HB := Aside0.mk (below_weaken bl_ HL.out hb); replace HK := Aside0.mk (KeepBut.trans (by repeat (first | (with_reducible first | exact HK.out | apply KeepBut.set_ | apply keep_drewN | apply keep_drew | apply keep_alloc | refine keep_far ?_ GW246.out _) | exact HK.out)) (KeepBut.of_grown hg g) (Kd.S_base2 HO_3.out)); clear HO_3 HO_247002; clear ho hb hg hat))
            go_roundg kj15
            case measure => have := HK1.out; have := HJ5.out; have := HJ15.out; omega
            case rel => exact ⟨(y290), (wrap64 (x4_1 - 1)), (t261), (t262), rs_, H', ⟨by have := HK1.out; have := HJ5.out; have := HJ15.out; omega⟩, ⟨by (with_reducible repeat (first | apply Kd.S_alloc | apply Kd.S_drewN | apply Kd.S_drew)); exact Kd.S_mono HO292.out (fun _ hk => trivial)⟩, ⟨si_⟩, ⟨by repeat (first | (with_reducible first | exact HK.out | apply KeepBut.set_ | apply keep_drewN | apply keep_drew | apply keep_alloc | refine keep_far ?_ GW246.out _) | exact HK.out)⟩, ⟨bl_⟩⟩
           ·rw [if_neg c80] at H
            exact absurd H (by simp)
   ·rw [if_neg c4] at H
    have c4b0 : decide (0 < x4_1) = false := decide_eq_false c4
    clear c4
    simp only [Option.some.injEq, Prod.mk.injEq] at H
    obtain ⟨rfl, rfl, rfl⟩ := H
    go_wp2
    go_ret
    exact ⟨_, re_, pS_ HO_3.out, si_, bl_, by repeat (first | (with_reducible first | exact HK.out | apply KeepBut.set_ | apply keep_drewN | apply keep_drew | apply keep_alloc) | exact HK.out)⟩

end Go.Proofs.YtopbjginpmdebaaDoor.K
-- Src.Nodes ends, and its nodes are a machine's
namespace Go.Proofs.YtopbjginpmdebaaDoor.K
open Go.RowKit Go.Maps Go.Proofs.YtopbjginpmdebaaDoorW.PrintWords Go.Proofs.YtopbjginpmdebaaDoorW.PrintLast Go.Proofs.YtopbjginpmdebaaDoorW.PrintMore
set_option linter.unusedVariables false
set_option linter.unusedSimpArgs false
/-- what Nodes writes -/
def NdG (n : Nd) : Prop := -2 ≤ n.f0 ∧ n.f0 ≤ 64 ∧ -1073741825 ≤ n.f1 ∧ n.f1 ≤ 1073741825 ∧ n.f2.length ≤ 4
/-- how a stretch of Nodes ends -/
def NdEnd (L : List Int) (st : Int) (f : Nat → Option (List S60 × Int × Int)) : Prop := ∃ k r a', f k = some (r, a', st) ∧ (∀ n ∈ r, NdG n) ∧ r.length ≤ 8 ∧ Src L a'
theorem NdG.snoc {l : List Nd} {n : Nd} (h : ∀ m ∈ l, NdG m) (hn : NdG n) : ∀ m ∈ l ++ [n], NdG m := fun m hm => (List.mem_append.1 hm).elim (h m) (fun e => by rw [List.mem_singleton.1 e]; exact hn)
theorem nd_j3 {L : List Int} {st : Int} {m : Nat} (ih : ∀ (l : List Nd) (a : Int), l.length + m ≤ 8 → (∀ n ∈ l, NdG n) → Src L a → NdEnd L st fun k => exactpplmake_Src_Nodes.l0 k l (m : Int) L a st)
    (l : List Nd) (a s v : Int) (ks : List Int) (hl : l.length + (m + 1) ≤ 8) (hg : ∀ n ∈ l, NdG n) (hS : Src L a) (hs : -2 ≤ s ∧ s ≤ 64) (hv : -1073741825 ≤ v ∧ v ≤ 1073741825) (hks : ks.length ≤ 3) :
    NdEnd L st fun k => exactpplmake_Src_Nodes.j3 k l ((m + 1 : Nat) : Int) L a st s v ks := by
  obtain ⟨x, a1, e1, hx, h1⟩ := n_f hS st 24 (by omega) (by omega)
  have hw : wrap64 (((m + 1 : Nat) : Int) - 1) = (m : Int) := by rw [w64_id (by omega) (by omega)]; omega
  by_cases hx0 : x = 0
  · obtain ⟨y, a2, e2, hy, h2⟩ := pick_f h1 st [-2, -1, 0, 63, 64] (by simp) (by simp)
    have hy' : -2 ≤ y ∧ y ≤ 64 := by simp at hy; omega
    obtain ⟨k, r, a', e, q1, q2, q3⟩ := ih (l ++ [⟨y, v, ks⟩]) a2 (by simp; omega) (NdG.snoc hg ⟨hy'.1, hy'.2, hv.1, hv.2, by show ks.length ≤ 4; omega⟩) h2
    refine ⟨k + 1, r, a', ?_, q1, q2, q3⟩
    simp only [exactpplmake_Src_Nodes.j3]
    rw [e1, Option.bind_some]
    simp only
    rw [if_pos hx0, e2, Option.bind_some, if_pos (by omega), hw]
    exact e
  · by_cases hx1 : x = 1
    · obtain ⟨y, a2, e2, hy, h2⟩ := pick_f h1 st [1073741824, 1073741825, -1073741824, -1073741825] (by simp) (by simp)
      have hy' : -1073741825 ≤ y ∧ y ≤ 1073741825 := by simp at hy; omega
      obtain ⟨k, r, a', e, q1, q2, q3⟩ := ih (l ++ [⟨s, y, ks⟩]) a2 (by simp; omega) (NdG.snoc hg ⟨hs.1, hs.2, hy'.1, hy'.2, by show ks.length ≤ 4; omega⟩) h2
      refine ⟨k + 1, r, a', ?_, q1, q2, q3⟩
      simp only [exactpplmake_Src_Nodes.j3]
      rw [e1, Option.bind_some]
      simp only
      rw [if_neg hx0, if_pos hx1, e2, Option.bind_some, if_pos (by omega), hw]
      exact e
    · by_cases hx2 : x = 2
      · obtain ⟨y, a2, e2, hy, h2⟩ := range_f h1 st (-1) (l.length : Int) (by omega) (by omega) (by omega)
        obtain ⟨k, r, a', e, q1, q2, q3⟩ := ih (l ++ [⟨s, v, ks ++ [y]⟩]) a2 (by simp; omega) (NdG.snoc hg ⟨hs.1, hs.2, hv.1, hv.2, by show (ks ++ [y]).length ≤ 4; simp; omega⟩) h2
        refine ⟨k + 1, r, a', ?_, q1, q2, q3⟩
        simp only [exactpplmake_Src_Nodes.j3]
        rw [e1, Option.bind_some]
        simp only
        rw [if_neg hx0, if_neg hx1, if_pos hx2, e2, Option.bind_some, if_pos (by omega), if_pos (by omega), hw]
        exact e
      · obtain ⟨k, r, a', e, q1, q2, q3⟩ := ih (l ++ [⟨s, v, ks⟩]) a1 (by simp; omega) (NdG.snoc hg ⟨hs.1, hs.2, hv.1, hv.2, by show ks.length ≤ 4; omega⟩) h1
        refine ⟨k + 1, r, a', ?_, q1, q2, q3⟩
        simp only [exactpplmake_Src_Nodes.j3]
        rw [e1, Option.bind_some]
        simp only
        rw [if_neg hx0, if_neg hx1, if_neg hx2, if_pos (by omega), hw]
        exact e
theorem nd_l1 {L : List Int} {st : Int} {m : Nat} (ih : ∀ (l : List Nd) (a : Int), l.length + m ≤ 8 → (∀ n ∈ l, NdG n) → Src L a → NdEnd L st fun k => exactpplmake_Src_Nodes.l0 k l (m : Int) L a st)
    (l : List Nd) (s v : Int) (hl : l.length + (m + 1) ≤ 8) (hg : ∀ n ∈ l, NdG n) (hs : 0 ≤ s ∧ s ≤ 2) (hv : -1073741825 ≤ v ∧ v ≤ 1073741825) : ∀ (c : Nat) (j : Nat) (a : Int) (ks : List Int), 3 - j ≤ c → j ≤ 3 → ks.length = j → Src L a →
    NdEnd L st fun k => exactpplmake_Src_Nodes.l1 k l ((m + 1 : Nat) : Int) (j : Int) L a st s v ks := by
  intro c
  induction c with
  | zero =>
    intro j a ks h1 h2 h3 hS
    obtain ⟨k, r, a', e, q1, q2, q3⟩ := nd_j3 ih l a s v ks hl hg hS ⟨by omega, by omega⟩ hv (by omega)
    refine ⟨k + 1, r, a', ?_, q1, q2, q3⟩
    simp only [exactpplmake_Src_Nodes.l1]
    rw [width_f s hs.1 (by omega), Option.bind_some, if_neg (by omega)]
    exact e
  | succ c ihc =>
    intro j a ks h1 h2 h3 hS
    by_cases hj : (j : Int) < 2 + s % 2
    · have hN : ∃ x a1, exactpplmake_Src_N.f L a st (l.length : Int) = some (x, a1, st) ∧ Src L a1 := by
        by_cases h0 : (l.length : Int) < 1
        · exact ⟨0, a, n0_f hS st _ h0, hS⟩
        · obtain ⟨x, a1, e1, _, h4⟩ := n_f hS st (l.length : Int) (by omega) (by omega)
          exact ⟨x, a1, e1, h4⟩
      obtain ⟨x, a1, e1, h4⟩ := hN
      obtain ⟨k, r, a', e, q1, q2, q3⟩ := ihc (j + 1) a1 (ks ++ [x]) (by omega) (by omega) (by simp; omega) h4
      refine ⟨k + 1, r, a', ?_, q1, q2, q3⟩
      simp only [exactpplmake_Src_Nodes.l1]
      rw [width_f s hs.1 (by omega), Option.bind_some, if_pos hj, e1, Option.bind_some, if_pos (by omega), w64_succ (by omega)]
      exact e
    · obtain ⟨k, r, a', e, q1, q2, q3⟩ := nd_j3 ih l a s v ks hl hg hS ⟨by omega, by omega⟩ hv (by omega)
      refine ⟨k + 1, r, a', ?_, q1, q2, q3⟩
      simp only [exactpplmake_Src_Nodes.l1]
      rw [width_f s hs.1 (by omega), Option.bind_some, if_neg hj]
      exact e
theorem nd_l0 {L : List Int} (st : Int) : ∀ (m : Nat) (l : List Nd) (a : Int), l.length + m ≤ 8 → (∀ n ∈ l, NdG n) → Src L a → NdEnd L st fun k => exactpplmake_Src_Nodes.l0 k l (m : Int) L a st := by
  intro m
  induction m with
  | zero =>
    intro l a hl hg hS
    refine ⟨1, l, a, ?_, hg, by omega, hS⟩
    simp only [exactpplmake_Src_Nodes.l0]
    rw [if_neg (by omega)]
  | succ m ih =>
    intro l a hl hg hS
    obtain ⟨x, a1, e1, hx, h1⟩ := range_f hS st (-2) 2 (by omega) (by omega) (by omega)
    by_cases h0 : (l.length : Int) > 0
    · obtain ⟨y, a2, e2, hy, h2⟩ := n_f h1 st 3 (by omega) (by omega)
      by_cases hy0 : y > 0
      · obtain ⟨z, a3, e3, hz, h3⟩ := n_f h2 st 3 (by omega) (by omega)
        obtain ⟨k, r, a', e, q1, q2, q3⟩ := nd_l1 ih l z 0 (by omega) hg ⟨hz.1, by omega⟩ (by omega) 3 0 a3 [] (by omega) (by omega) rfl h3
        refine ⟨k + 1 + 1, r, a', ?_, q1, q2, q3⟩
        simp only [exactpplmake_Src_Nodes.l0, exactpplmake_Src_Nodes.j1]
        rw [if_pos (by omega), e1, Option.bind_some, if_pos h0]
        simp only
        rw [e2, Option.bind_some]
        simp only
        rw [decide_eq_true hy0, if_pos rfl, e3, Option.bind_some]
        exact e
      · obtain ⟨k, r, a', e, q1, q2, q3⟩ := nd_j3 ih l a2 (-1) x [] (by omega) hg h2 (by omega) (by omega) (by simp)
        refine ⟨k + 1 + 1, r, a', ?_, q1, q2, q3⟩
        simp only [exactpplmake_Src_Nodes.l0, exactpplmake_Src_Nodes.j1]
        rw [if_pos (by omega), e1, Option.bind_some, if_pos h0]
        simp only
        rw [e2, Option.bind_some]
        simp only
        rw [decide_eq_false hy0, if_neg (by decide)]
        exact e
    · obtain ⟨k, r, a', e, q1, q2, q3⟩ := nd_j3 ih l a1 (-1) x [] (by omega) hg h1 (by omega) (by omega) (by simp)
      refine ⟨k + 1 + 1, r, a', ?_, q1, q2, q3⟩
      simp only [exactpplmake_Src_Nodes.l0, exactpplmake_Src_Nodes.j1]
      rw [if_pos (by omega), e1, Option.bind_some, if_neg h0]
      simp only
      rw [if_neg (by decide)]
      exact e
theorem NdG.ok {l : List Nd} (h : ∀ n ∈ l, NdG n) (hl : l.length ≤ 1000) : ndOk l = true := by
  unfold ndOk
  rw [Bool.and_eq_true, List.all_eq_true]
  refine ⟨fun n hn => decide_eq_true ?_, decide_eq_true (by omega)⟩
  have := h n hn
  unfold NdG at this
  omega
theorem nodes_f {L : List Int} {a : Int} (h : Src L a) (st : Int) : ∃ K r a', (∀ k, K ≤ k → exactpplmake_Src_Nodes.f k L a st = some (r, a', st)) ∧ (∀ n ∈ r, NdG n) ∧ r.length ≤ 8 ∧ Src L a' := by
  obtain ⟨x, a1, e1, hx, h1⟩ := n_f h st 9 (by omega) (by omega)
  obtain ⟨m, rfl⟩ : ∃ m : Nat, x = m := ⟨x.toNat, by omega⟩
  obtain ⟨k, r, a', e, q1, q2, q3⟩ := nd_l0 (L := L) st m [] a1 (by simp; omega) (by simp) h1
  refine ⟨k, r, a', fun k' hk => mono_le (f := fun k => exactpplmake_Src_Nodes.f k L a st) (fun k => exactpplmake_Src_Nodes.mono L a st k) hk ?_, q1, q2, q3⟩
  show exactpplmake_Src_Nodes.f k L a st = _
  unfold exactpplmake_Src_Nodes.f
  rw [e1, Option.bind_some]
  exact e
end Go.Proofs.YtopbjginpmdebaaDoor.K
namespace Go.Proofs.YtopbjginpmdebaaDoor.K
open Go.RowKit Go.Proofs.YtopbjginpmdebaaDoorW.PrintWords Go.Proofs.YtopbjginpmdebaaDoorW.PrintLast Go.Proofs.YtopbjginpmdebaaDoorW.PrintMore
attribute [local go_sem] max2_int min2_int max_two min_two max_three min_three max_four min_four   -- for this text's walks alone
set_option linter.unusedVariables false
set_option linter.unusedSimpArgs false

/-! ### exactppllaw19_reduces: function 14 -/
def exactppllaw19_reduces.f (k : Nat) (l0 : List (S60)) : Option (Bool) := (diagram_Reduce.f l0).bind fun bt213 => ((exactpplref19_Reduce.f k l0).bind fun bt218 => (if bt213.2 = bt218.2 then ((exactpplref19_Same.f k bt213.1 bt218.1).bind fun t223 => (if t223 = true then ((diagram_Validate.f l0).bind fun t224 => ((exactpplref19_Validate.f k l0).bind fun t225 => (some (t224 == t225)))) else (some false))) else (some false)))
theorem exactppllaw19_reduces.mono : ∀ a0 k, LeO (exactppllaw19_reduces.f k a0) (exactppllaw19_reduces.f (k + 1) a0) := by
 intro a0 k
 unfold exactppllaw19_reduces.f
 repeat' first
   | (with_reducible exact exactpplref19_Reduce.mono _ _)
   | (with_reducible exact exactpplref19_Same.mono _ _ _)
   | (with_reducible exact exactpplref19_Validate.mono _ _)
   | (with_reducible exact LeO.refl _)
   | (with_reducible exact LeO.none _)
   | (with_reducible refine LeO.ite ?_ ?_)
   | (with_reducible refine LeO.bind ?_ (fun _ => ?_))
   | exact exactpplref19_Reduce.mono _ _
   | exact exactpplref19_Same.mono _ _ _
   | exact exactpplref19_Validate.mono _ _
   | exact LeO.none _
   | refine LeO.ite ?_ ?_
   | refine LeO.bind ?_ (fun _ => ?_)
set_option maxHeartbeats 8000000 in
set_option maxRecDepth 100000 in
theorem exactppllaw19_reduces.calls (k : Nat) (A0 : Option Addr) (c0 : Nat) (l0 : List (S60)) (r : Bool) (w : World) (hr0 : Kd.C k60 w A0 l0.length l0) (hc0 : l0.length ≤ c0) (h : exactppllaw19_reduces.f k l0 = some r) (htab : PowTab w.heap.size w) :
  Calls Tryd.prog 14 #[.slice A0 l0.length c0] w fun e w' => e = .returned (.bool r) ∧ Below w.heap.size w w' := by
 have HTAB := Aside0.mk htab
 clear htab
 have hu31 := Tryd.underlying31
 have HR0 := Aside0.mk hr0
 have HC0 := Aside0.mk hc0
 clear hr0 hc0
 have HB := Aside0.mk (Below.refl w.heap.size w)
 have H : ((diagram_Reduce.f l0).bind fun bt213 => ((exactpplref19_Reduce.f k l0).bind fun bt218 => (if bt213.2 = bt218.2 then ((exactpplref19_Same.f k bt213.1 bt218.1).bind fun t223 => (if t223 = true then ((diagram_Validate.f l0).bind fun t224 => ((exactpplref19_Validate.f k l0).bind fun t225 => (some (t224 == t225)))) else (some false))) else (some false)))) = some r := h
 clear h
 replace H := Option.bind_eq_some_iff.mp H
 obtain ⟨⟨t213, t216⟩, A20, H⟩ := H
 replace H : ((exactpplref19_Reduce.f k l0).bind fun bt218 => (if t216 = bt218.2 then ((exactpplref19_Same.f k t213 bt218.1).bind fun t223 => (if t223 = true then ((diagram_Validate.f l0).bind fun t224 => ((exactpplref19_Validate.f k l0).bind fun t225 => (some (t224 == t225)))) else (some false))) else (some false))) = some r := H
 have A2 := Aside0.mk A20
 clear A20
 replace H := Option.bind_eq_some_iff.mp H
 obtain ⟨⟨t218, t221⟩, A30, H⟩ := H
 replace H : (if t216 = t221 then ((exactpplref19_Same.f k t213 t218).bind fun t223 => (if t223 = true then ((diagram_Validate.f l0).bind fun t224 => ((exactpplref19_Validate.f k l0).bind fun t225 => (some (t224 == t225)))) else (some false))) else (some false)) = some r := H
 have A3 := Aside0.mk A30
 clear A30
 by_cases c4 : t216 = t221
 ·rw [if_pos c4] at H
  have c4b0 : (t216 == t221) = true := beq_iff_eq.mpr c4
  have c4b1 : (t216 != t221) = false := bne_eq_false_iff_eq.mpr c4
  clear c4
  replace H := Option.bind_eq_some_iff.mp H
  obtain ⟨t223, A50, H⟩ := H
  replace H : (if t223 = true then ((diagram_Validate.f l0).bind fun t224 => ((exactpplref19_Validate.f k l0).bind fun t225 => (some (t224 == t225)))) else (some false)) = some r := H
  have A5 := Aside0.mk A50
  clear A50
  by_cases c6 : t223 = true
  ·subst c6
   have H1 : ((diagram_Validate.f l0).bind fun t224 => ((exactpplref19_Validate.f k l0).bind fun t225 => (some (t224 == t225)))) = some r := by rw [if_pos rfl] at H; exact H
   clear H
   have H := H1
   clear H1
   replace H := Option.bind_eq_some_iff.mp H
   obtain ⟨t224, A70, H⟩ := H
   replace H : ((exactpplref19_Validate.f k l0).bind fun t225 => (some (t224 == t225))) = some r := H
   have A7 := Aside0.mk A70
   clear A70
   replace H := Option.bind_eq_some_iff.mp H
   obtain ⟨t225, A80, H⟩ := H
   replace H : (some (t224 == t225)) = some r := H
   have A8 := Aside0.mk A80
   clear A80
   obtain rfl := Option.some.inj H
   go_enter Tryd.func14, Tryd.ntmps14
   go_wp2_with (first | ((with_reducible refine gate_callee (f := 19) rfl ?_); refine goesL_ (some 9) rfl rfl Tryd.func19 (by kernel_rfl) rfl #[.slice A0 l0.length c0] rfl (by (try simp only [List.map_toArray, List.map_cons, List.map_nil]); first | done | rfl | (simp only [List.length_drop, List.length_take]; rfl)) ?_; (with_reducible refine (diagram_Reduce.calls _ _ l0 t213 t216 _ ?side1 ?side2 A2.out ?tab).mono ?_); (case tab => exact ptab HTAB.out bl_); (case side1 => repeat (first | exact HR0.out | (with_reducible refine Kd.C_alloc ?_ _) | (with_reducible refine Kd.C_drewN ?_ _) | (with_reducible refine Kd.C_drew ?_))); (case side2 => exact HC0.out); rintro e w9 ⟨v214, rfl, ho0, hb⟩; refine ⟨_, rfl, ?_⟩; have HO215 := Aside0.mk (Kd.V_lower (Kd.V_mono (ok' := fun k_ => True) ho0 (fun k_ hk_ => trivial)) (below_size bl_)); replace HB := Aside0.mk (below_step bl_ hb); (try clear hb); (try clear hb2); (try clear hk); (try clear hi); (try clear ho0)) | ((with_reducible refine gate_dst (N := 3) rfl ?_); refine box_event ?hg (N := 3) ?hd (cs := #[.slice none 0 0]) (t := 31) ?hr ?_; (case hd => rfl); (case hg => rfl); (case hr => first | (go_simp; done) | (go_simp; rfl)); intro gb217 hg w10 hbox hb; have BK217 := Aside0.mk (hbox); have GW217 : Aside0 (w.heap.size ≤ gb217) := gw_ hg (below_size bl_); have GE217 := GW217; replace HO215 := Aside0.mk (Kd.V_below (Kd.V_elderB (pV_ HO215.out) gb217 (Nat.le_of_eq hg.symm)) hb); replace HB := Aside0.mk (below_step bl_ hb); clear hb hbox hg; obtain ⟨Ao11, co11, eo11⟩ := Kd.V_slice HO215.out; subst eo11; obtain ⟨hcz12_0, hfz12_0⟩ := cf1_ BK217.out) | ((with_reducible refine gate_callee (f := 43) rfl ?_); refine goesL_ (some 14) rfl rfl Tryd.func43 (by kernel_rfl) rfl #[.slice A0 l0.length c0] rfl (by (try simp only [List.map_toArray, List.map_cons, List.map_nil]); first | done | rfl | (simp only [List.length_drop, List.length_take]; rfl)) ?_; (with_reducible refine (exactpplref19_Reduce.calls k _ _ l0 t218 t221 _ ?side1 ?side2 A3.out).mono ?_); (case side1 => exact Kd.C_below HR0.out bl_); (case side2 => exact HC0.out); rintro e w13 ⟨v219, rfl, ho0, hb⟩; refine ⟨_, rfl, ?_⟩; have HO220 := Aside0.mk (Kd.V_lower (Kd.V_mono (ok' := fun k_ => k_ ≠ gb217) ho0 (fun k_ hk_ => (Kd.freshB (g := gb217) (o := .cells #[.slice Ao11 t213.length co11] 31 (0, 0)) (by (with_reducible repeat (first | refine blk_drewN ?_ _ | refine blk_drew ?_ | refine blk_alloc ?_ _)); refine blk_put (cs := #[.slice none 0 0]) ?_ 0 _ rfl; (with_reducible repeat (first | refine blk_drewN ?_ _ | refine blk_drew ?_ | refine blk_alloc ?_ _)); exact BK217.out) k_ hk_))) (below_size bl_)); replace HO215 := Aside0.mk (Kd.V_below (by (with_reducible repeat (first | apply Kd.V_alloc | apply Kd.V_drewN | apply Kd.V_drew)); exact (Kd.V_mono (Kd.V_far (p := ⟨gb217, 0, none⟩) (Kd.V_mono HO215.out (fun k_ hk => (⟨hk, by first | exact hk.2 | exact hk.1 | exact hk.2 | exact hk.1.1 | exact hk.1.2⟩ : _ ∧ k_ ≠ gb217))) (fun _ hk => hk.2) (.slice Ao11 t213.length co11)) (fun _ h_ => h_.1))) hb); replace BK217 := Aside0.mk (blk_below (g := gb217) (o := .cells #[.slice Ao11 t213.length co11] 31 (0, 0)) (by (with_reducible repeat (first | refine blk_drewN ?_ _ | refine blk_drew ?_ | refine blk_alloc ?_ _)); refine blk_put (cs := #[.slice none 0 0]) ?_ 0 _ rfl; (with_reducible repeat (first | refine blk_drewN ?_ _ | refine blk_drew ?_ | refine blk_alloc ?_ _)); exact BK217.out) hb); replace HB := Aside0.mk (below_step bl_ hb); (try clear hb); (try clear hb2); (try clear hk); (try clear hi); (try clear ho0)) | ((with_reducible refine gate_dst (N := 5) rfl ?_); refine box_event ?hg (N := 5) ?hd (cs := #[.slice none 0 0]) (t := 31) ?hr ?_; (case hd => rfl); (case hg => rfl); (case hr => first | (go_simp; done) | (go_simp; rfl)); intro gb222 hg w14 hbox hb; have BK222 := Aside0.mk (hbox); have GW222 : Aside0 (w.heap.size ≤ gb222) := gw_ hg (below_size bl_); have GE222 := GW222; have NB217_222 := Aside0.mk ((by rw [hg]; exact Nat.ne_of_lt (blk_lt (g := gb217) (o := .cells #[.slice Ao11 t213.length co11] 31 (0, 0)) bk_) : gb217 ≠ gb222)); have NB222_217 := Aside0.mk ((by rw [hg]; exact Nat.ne_of_gt (blk_lt (g := gb217) (o := .cells #[.slice Ao11 t213.length co11] 31 (0, 0)) bk_) : gb222 ≠ gb217)); replace HO215 := Aside0.mk (Kd.V_below (Kd.V_elderB (pV_ HO215.out) gb222 (Nat.le_of_eq hg.symm)) hb); replace HO220 := Aside0.mk (Kd.V_below (Kd.V_elderB (pV_ HO220.out) gb222 (Nat.le_of_eq hg.symm)) hb); replace BK217 := Aside0.mk (blk_below (g := gb217) (o := .cells #[.slice Ao11 t213.length co11] 31 (0, 0)) bk_ hb); replace HB := Aside0.mk (below_step bl_ hb); clear hb hbox hg; obtain ⟨Ao15, co15, eo15⟩ := Kd.V_slice HO220.out; subst eo15; have hnb16 := NB222_217.out; have hnc16 := NB217_222.out; obtain ⟨hcz17_0, hfz17_0⟩ := cf1_ BK222.out; obtain ⟨hcz18_0, hfz18_0⟩ := cf1_ BK217.out) | (go_at_call 20; (with_reducible refine (exactpplref19_Same.calls k _ _ t213 _ _ t218 true _ ?side1 ?side2 ?side3 ?side4 A5.out).mono ?_); (case side1 => refine (Kd.V_reads' (e := 60) (base := w.heap.size) (ok := fun k_ => ((True ∧ k_ ≠ gb217) ∧ k_ ≠ gb222)) (n := t213.length) (c := co11) ?_).2.2; exact (by (with_reducible repeat (first | apply Kd.V_alloc | apply Kd.V_drewN | apply Kd.V_drew)); exact (Kd.V_mono (Kd.V_far (p := ⟨gb222, 0, none⟩) (Kd.V_mono HO215.out (fun k_ hk => (⟨hk, by first | exact hk.2 | exact hk.1 | exact hk.2 | exact hk.1.1 | exact hk.1.2⟩ : _ ∧ k_ ≠ gb222))) (fun _ hk => hk.2) (.slice Ao15 t218.length co15)) (fun _ h_ => h_.1)))); (case side2 => exact (Kd.V_reads' HO215.out).2.1); (case side3 => refine (Kd.V_reads' (e := 60) (base := w.heap.size) (ok := fun k_ => (k_ ≠ gb217 ∧ k_ ≠ gb222)) (n := t218.length) (c := co15) ?_).2.2; exact (by (with_reducible repeat (first | apply Kd.V_alloc | apply Kd.V_drewN | apply Kd.V_drew)); exact (Kd.V_mono (Kd.V_far (p := ⟨gb222, 0, none⟩) (Kd.V_mono HO220.out (fun k_ hk => (⟨hk, by first | exact hk.2 | exact hk.1 | exact hk.2 | exact hk.1.1 | exact hk.1.2⟩ : _ ∧ k_ ≠ gb222))) (fun _ hk => hk.2) (.slice Ao15 t218.length co15)) (fun _ h_ => h_.1)))); (case side4 => exact (Kd.V_reads' HO220.out).2.1); rintro e w19 ⟨rfl, hb⟩; replace HO215 := Aside0.mk (Kd.V_below (by (with_reducible repeat (first | apply Kd.V_alloc | apply Kd.V_drewN | apply Kd.V_drew)); exact (Kd.V_mono (Kd.V_far (p := ⟨gb222, 0, none⟩) (Kd.V_mono HO215.out (fun k_ hk => (⟨hk, by first | exact hk.2 | exact hk.1 | exact hk.2 | exact hk.1.1 | exact hk.1.2⟩ : _ ∧ k_ ≠ gb222))) (fun _ hk => hk.2) (.slice Ao15 t218.length co15)) (fun _ h_ => h_.1))) hb); replace HO220 := Aside0.mk (Kd.V_below (by (with_reducible repeat (first | apply Kd.V_alloc | apply Kd.V_drewN | apply Kd.V_drew)); exact (Kd.V_mono (Kd.V_far (p := ⟨gb222, 0, none⟩) (Kd.V_mono HO220.out (fun k_ hk => (⟨hk, by first | exact hk.2 | exact hk.1 | exact hk.2 | exact hk.1.1 | exact hk.1.2⟩ : _ ∧ k_ ≠ gb222))) (fun _ hk => hk.2) (.slice Ao15 t218.length co15)) (fun _ h_ => h_.1))) hb); replace BK217 := Aside0.mk (blk_below (g := gb217) (o := .cells #[.slice Ao11 t213.length co11] 31 (0, 0)) (by (with_reducible repeat (first | refine blk_drewN ?_ _ | refine blk_drew ?_ | refine blk_alloc ?_ _)); refine blk_far ?_ NB217_222.out _; (with_reducible repeat (first | refine blk_drewN ?_ _ | refine blk_drew ?_ | refine blk_alloc ?_ _)); exact BK217.out) hb); replace BK222 := Aside0.mk (blk_below (g := gb222) (o := .cells #[.slice Ao15 t218.length co15] 31 (0, 0)) (by (with_reducible repeat (first | refine blk_drewN ?_ _ | refine blk_drew ?_ | refine blk_alloc ?_ _)); refine blk_put (cs := #[.slice none 0 0]) ?_ 0 _ rfl; (with_reducible repeat (first | refine blk_drewN ?_ _ | refine blk_drew ?_ | refine blk_alloc ?_ _)); exact BK222.out) hb); replace HB := Aside0.mk (below_step bl_ hb); (try clear hb); (try clear hb2); (try clear hk); (try clear hi)) | (go_at_call 21; (with_reducible refine (diagram_Validate.calls _ _ l0 t224 _ ?side1 ?side2 A7.out ?tab).mono ?_); (case tab => exact ptab HTAB.out bl_); (case side1 => repeat (first | exact (Kd.C_below HR0.out HB.out) | (with_reducible refine Kd.C_alloc ?_ _) | (with_reducible refine Kd.C_drewN ?_ _) | (with_reducible refine Kd.C_drew ?_))); (case side2 => exact HC0.out); rintro e w20 ⟨rfl, hb⟩; replace HO215 := Aside0.mk (Kd.V_below (pV_ HO215.out) hb); replace HO220 := Aside0.mk (Kd.V_below (pV_ HO220.out) hb); replace BK217 := Aside0.mk (blk_below (g := gb217) (o := .cells #[.slice Ao11 t213.length co11] 31 (0, 0)) bk_ hb); replace BK222 := Aside0.mk (blk_below (g := gb222) (o := .cells #[.slice Ao15 t218.length co15] 31 (0, 0)) bk_ hb); replace HB := Aside0.mk (below_step bl_ hb); (try clear hb); (try clear hb2); (try clear hk); (try clear hi)) | (go_at_call 44; (with_reducible refine (exactpplref19_Validate.calls k _ _ l0 t225 _ ?side1 ?side2 A8.out).mono ?_); (case side1 => repeat (first | exact (Kd.C_below HR0.out HB.out) | (with_reducible refine Kd.C_alloc ?_ _) | (with_reducible refine Kd.C_drewN ?_ _) | (with_reducible refine Kd.C_drew ?_))); (case side2 => exact HC0.out); rintro e w21 ⟨rfl, hb⟩; replace HO215 := Aside0.mk (Kd.V_below (pV_ HO215.out) hb); replace HO220 := Aside0.mk (Kd.V_below (pV_ HO220.out) hb); replace BK217 := Aside0.mk (blk_below (g := gb217) (o := .cells #[.slice Ao11 t213.length co11] 31 (0, 0)) bk_ hb); replace BK222 := Aside0.mk (blk_below (g := gb222) (o := .cells #[.slice Ao15 t218.length co15] 31 (0, 0)) bk_ hb); replace HB := Aside0.mk (below_step bl_ hb); (try clear hb); (try clear hb2); (try clear hk); (try clear hi)))
   go_ret
   exact ⟨re_, bl_⟩
  ·replace c6 := Bool.eq_false_iff.mpr c6
   subst c6
   have H1 : (some false) = some r := by rw [if_neg (show ¬ (false = true) by decide)] at H; exact H
   clear H
   have H := H1
   clear H1
   obtain rfl := Option.some.inj H
   go_enter Tryd.func14, Tryd.ntmps14
   go_wp2_with (first | ((with_reducible refine gate_callee (f := 19) rfl ?_); refine goesL_ (some 9) rfl rfl Tryd.func19 (by kernel_rfl) rfl #[.slice A0 l0.length c0] rfl (by (try simp only [List.map_toArray, List.map_cons, List.map_nil]); first | done | rfl | (simp only [List.length_drop, List.length_take]; rfl)) ?_; (with_reducible refine (diagram_Reduce.calls _ _ l0 t213 t216 _ ?side1 ?side2 A2.out ?tab).mono ?_); (case tab => exact ptab HTAB.out bl_); (case side1 => repeat (first | exact HR0.out | (with_reducible refine Kd.C_alloc ?_ _) | (with_reducible refine Kd.C_drewN ?_ _) | (with_reducible refine Kd.C_drew ?_))); (case side2 => exact HC0.out); rintro e w22 ⟨v214, rfl, ho0, hb⟩; refine ⟨_, rfl, ?_⟩; have HO215 := Aside0.mk (Kd.V_lower (Kd.V_mono (ok' := fun k_ => True) ho0 (fun k_ hk_ => trivial)) (below_size bl_)); replace HB := Aside0.mk (below_step bl_ hb); (try clear hb); (try clear hb2); (try clear hk); (try clear hi); (try clear ho0)) | ((with_reducible refine gate_dst (N := 3) rfl ?_); refine box_event ?hg (N := 3) ?hd (cs := #[.slice none 0 0]) (t := 31) ?hr ?_; (case hd => rfl); (case hg => rfl); (case hr => first | (go_simp; done) | (go_simp; rfl)); intro gb217 hg w23 hbox hb; have BK217 := Aside0.mk (hbox); have GW217 : Aside0 (w.heap.size ≤ gb217) := gw_ hg (below_size bl_); have GE217 := GW217; replace HO215 := Aside0.mk (Kd.V_below (Kd.V_elderB (pV_ HO215.out) gb217 (Nat.le_of_eq hg.symm)) hb); replace HB := Aside0.mk (below_step bl_ hb); clear hb hbox hg; obtain ⟨Ao24, co24, eo24⟩ := Kd.V_slice HO215.out; subst eo24; obtain ⟨hcz25_0, hfz25_0⟩ := cf1_ BK217.out) | ((with_reducible refine gate_callee (f := 43) rfl ?_); refine goesL_ (some 14) rfl rfl Tryd.func43 (by kernel_rfl) rfl #[.slice A0 l0.length c0] rfl (by (try simp only [List.map_toArray, List.map_cons, List.map_nil]); first | done | rfl | (simp only [List.length_drop, List.length_take]; rfl)) ?_; (with_reducible refine (exactpplref19_Reduce.calls k _ _ l0 t218 t221 _ ?side1 ?side2 A3.out).mono ?_); (case side1 => exact Kd.C_below HR0.out bl_); (case side2 => exact HC0.out); rintro e w26 ⟨v219, rfl, ho0, hb⟩; refine ⟨_, rfl, ?_⟩; have HO220 := Aside0.mk (Kd.V_lower (Kd.V_mono (ok' := fun k_ => k_ ≠ gb217) ho0 (fun k_ hk_ => (Kd.freshB (g := gb217) (o := .cells #[.slice Ao24 t213.length co24] 31 (0, 0)) (by (with_reducible repeat (first | refine blk_drewN ?_ _ | refine blk_drew ?_ | refine blk_alloc ?_ _)); refine blk_put (cs := #[.slice none 0 0]) ?_ 0 _ rfl; (with_reducible repeat (first | refine blk_drewN ?_ _ | refine blk_drew ?_ | refine blk_alloc ?_ _)); exact BK217.out) k_ hk_))) (below_size bl_)); replace HO215 := Aside0.mk (Kd.V_below (by (with_reducible repeat (first | apply Kd.V_alloc | apply Kd.V_drewN | apply Kd.V_drew)); exact (Kd.V_mono (Kd.V_far (p := ⟨gb217, 0, none⟩) (Kd.V_mono HO215.out (fun k_ hk => (⟨hk, by first | exact hk.2 | exact hk.1 | exact hk.2 | exact hk.1.1 | exact hk.1.2⟩ : _ ∧ k_ ≠ gb217))) (fun _ hk => hk.2) (.slice Ao24 t213.length co24)) (fun _ h_ => h_.1))) hb); replace BK217 := Aside0.mk (blk_below (g := gb217) (o := .cells #[.slice Ao24 t213.length co24] 31 (0, 0)) (by (with_reducible repeat (first | refine blk_drewN ?_ _ | refine blk_drew ?_ | refine blk_alloc ?_ _)); refine blk_put (cs := #[.slice none 0 0]) ?_ 0 _ rfl; (with_reducible repeat (first | refine blk_drewN ?_ _ | refine blk_drew ?_ | refine blk_alloc ?_ _)); exact BK217.out) hb); replace HB := Aside0.mk (below_step bl_ hb); (try clear hb); (try clear hb2); (try clear hk); (try clear hi); (try clear ho0)) | ((with_reducible refine gate_dst (N := 5) rfl ?_); refine box_event ?hg (N := 5) ?hd (cs := #[.slice none 0 0]) (t := 31) ?hr ?_; (case hd => rfl); (case hg => rfl); (case hr => first | (go_simp; done) | (go_simp; rfl)); intro gb222 hg w27 hbox hb; have BK222 := Aside0.mk (hbox); have GW222 : Aside0 (w.heap.size ≤ gb222) := gw_ hg (below_size bl_); have GE222 := GW222; have NB217_222 := Aside0.mk ((by rw [hg]; exact Nat.ne_of_lt (blk_lt (g := gb217) (o := .cells #[.slice Ao24 t213.length co24] 31 (0, 0)) bk_) : gb217 ≠ gb222)); have NB222_217 := Aside0.mk ((by rw [hg]; exact Nat.ne_of_gt (blk_lt (g := gb217) (o := .cells #[.slice Ao24 t213.length co24] 31 (0, 0)) bk_) : gb222 ≠ gb217)); replace HO215 := Aside0.mk (Kd.V_below (Kd.V_elderB (pV_ HO215.out) gb222 (Nat.le_of_eq hg.symm)) hb); replace HO220 := Aside0.mk (Kd.V_below (Kd.V_elderB (pV_ HO220.out) gb222 (Nat.le_of_eq hg.symm)) hb); replace BK217 := Aside0.mk (blk_below (g := gb217) (o := .cells #[.slice Ao24 t213.length co24] 31 (0, 0)) bk_ hb); replace HB := Aside0.mk (below_step bl_ hb); clear hb hbox hg; obtain ⟨Ao28, co28, eo28⟩ := Kd.V_slice HO220.out; subst eo28; have hnb29 := NB222_217.out; have hnc29 := NB217_222.out; obtain ⟨hcz30_0, hfz30_0⟩ := cf1_ BK222.out; obtain ⟨hcz31_0, hfz31_0⟩ := cf1_ BK217.out) | (go_at_call 20; (with_reducible refine (exactpplref19_Same.calls k _ _ t213 _ _ t218 false _ ?side1 ?side2 ?side3 ?side4 A5.out).mono ?_); (case side1 => refine (Kd.V_reads' (e := 60) (base := w.heap.size) (ok := fun k_ => ((True ∧ k_ ≠ gb217) ∧ k_ ≠ gb222)) (n := t213.length) (c := co24) ?_).2.2; exact (by (with_reducible repeat (first | apply Kd.V_alloc | apply Kd.V_drewN | apply Kd.V_drew)); exact (Kd.V_mono (Kd.V_far (p := ⟨gb222, 0, none⟩) (Kd.V_mono HO215.out (fun k_ hk => (⟨hk, by first | exact hk.2 | exact hk.1 | exact hk.2 | exact hk.1.1 | exact hk.1.2⟩ : _ ∧ k_ ≠ gb222))) (fun _ hk => hk.2) (.slice Ao28 t218.length co28)) (fun _ h_ => h_.1)))); (case side2 => exact (Kd.V_reads' HO215.out).2.1); (case side3 => refine (Kd.V_reads' (e := 60) (base := w.heap.size) (ok := fun k_ => (k_ ≠ gb217 ∧ k_ ≠ gb222)) (n := t218.length) (c := co28) ?_).2.2; exact (by (with_reducible repeat (first | apply Kd.V_alloc | apply Kd.V_drewN | apply Kd.V_drew)); exact (Kd.V_mono (Kd.V_far (p := ⟨gb222, 0, none⟩) (Kd.V_mono HO220.out (fun k_ hk => (⟨hk, by first | exact hk.2 | exact hk.1 | exact hk.2 | exact hk.1.1 | exact hk.1.2⟩ : _ ∧ k_ ≠ gb222))) (fun _ hk => hk.2) (.slice Ao28 t218.length co28)) (fun _ h_ => h_.1)))); (case side4 => exact (Kd.V_reads' HO220.out).2.1); rintro e w32 ⟨rfl, hb⟩; replace HO215 := Aside0.mk (Kd.V_below (by (with_reducible repeat (first | apply Kd.V_alloc | apply Kd.V_drewN | apply Kd.V_drew)); exact (Kd.V_mono (Kd.V_far (p := ⟨gb222, 0, none⟩) (Kd.V_mono HO215.out (fun k_ hk => (⟨hk, by first | exact hk.2 | exact hk.1 | exact hk.2 | exact hk.1.1 | exact hk.1.2⟩ : _ ∧ k_ ≠ gb222))) (fun _ hk => hk.2) (.slice Ao28 t218.length co28)) (fun _ h_ => h_.1))) hb); replace HO220 := Aside0.mk (Kd.V_below (by (with_reducible repeat (first | apply Kd.V_alloc | apply Kd.V_drewN | apply Kd.V_drew)); exact (Kd.V_mono (Kd.V_far (p := ⟨gb222, 0, none⟩) (Kd.V_mono HO220.out (fun k_ hk => (⟨hk, by first | exact hk.2 | exact hk.1 | exact hk.2 | exact hk.1.1 | exact hk.1.2⟩ : _ ∧ k_ ≠ gb222))) (fun _ hk => hk.2) (.slice Ao28 t218.length co28)) (fun _ h_ => h_.1))) hb); replace BK217 := Aside0.mk (blk_below (g := gb217) (o := .cells #[.slice Ao24 t213.length co24] 31 (0, 0)) (by (with_reducible repeat (first | refine blk_drewN ?_ _ | refine blk_drew ?_ | refine blk_alloc ?_ _)); refine blk_far ?_ NB217_222.out _; (with_reducible repeat (first | refine blk_drewN ?_ _ | refine blk_drew ?_ | refine blk_alloc ?_ _)); exact BK217.out) hb); replace BK222 := Aside0.mk (blk_below (g := gb222) (o := .cells #[.slice Ao28 t218.length co28] 31 (0, 0)) (by (with_reducible repeat (first | refine blk_drewN ?_ _ | refine blk_drew ?_ | refine blk_alloc ?_ _)); refine blk_put (cs := #[.slice none 0 0]) ?_ 0 _ rfl; (with_reducible repeat (first | refine blk_drewN ?_ _ | refine blk_drew ?_ | refine blk_alloc ?_ _)); exact BK222.out) hb); replace HB := Aside0.mk (below_step bl_ hb); (try clear hb); (try clear hb2); (try clear hk); (try clear hi)))
   go_ret
   exact ⟨re_, bl_⟩
 ·rw [if_neg c4] at H
  have c4b0 : (t216 == t221) = false := beq_eq_false_iff_ne.mpr c4
  have c4b1 : (t216 != t221) = true := bne_iff_ne.mpr c4
  obtain rfl := Option.some.inj H
  go_enter Tryd.func14, Tryd.ntmps14
  go_wp2_with (first | ((with_reducible refine gate_callee (f := 19) rfl ?_); refine goesL_ (some 9) rfl rfl Tryd.func19 (by kernel_rfl) rfl #[.slice A0 l0.length c0] rfl (by (try simp only [List.map_toArray, List.map_cons, List.map_nil]); first | done | rfl | (simp only [List.length_drop, List.length_take]; rfl)) ?_; (with_reducible refine (diagram_Reduce.calls _ _ l0 t213 t216 _ ?side1 ?side2 A2.out ?tab).mono ?_); (case tab => exact ptab HTAB.out bl_); (case side1 => repeat (first | exact HR0.out | (with_reducible refine Kd.C_alloc ?_ _) | (with_reducible refine Kd.C_drewN ?_ _) | (with_reducible refine Kd.C_drew ?_))); (case side2 => exact HC0.out); rintro e w33 ⟨v214, rfl, ho0, hb⟩; refine ⟨_, rfl, ?_⟩; have HO215 := Aside0.mk (Kd.V_lower (Kd.V_mono (ok' := fun k_ => True) ho0 (fun k_ hk_ => trivial)) (below_size bl_)); replace HB := Aside0.mk (below_step bl_ hb); (try clear hb); (try clear hb2); (try clear hk); (try clear hi); (try clear ho0)) | ((with_reducible refine gate_dst (N := 3) rfl ?_); refine box_event ?hg (N := 3) ?hd (cs := #[.slice none 0 0]) (t := 31) ?hr ?_; (case hd => rfl); (case hg => rfl); (case hr => first | (go_simp; done) | (go_simp; rfl)); intro gb217 hg w34 hbox hb; have BK217 := Aside0.mk (hbox); have GW217 : Aside0 (w.heap.size ≤ gb217) := gw_ hg (below_size bl_); have GE217 := GW217; replace HO215 := Aside0.mk (Kd.V_below (Kd.V_elderB (pV_ HO215.out) gb217 (Nat.le_of_eq hg.symm)) hb); replace HB := Aside0.mk (below_step bl_ hb); clear hb hbox hg; obtain ⟨Ao35, co35, eo35⟩ := Kd.V_slice HO215.out; subst eo35; obtain ⟨hcz36_0, hfz36_0⟩ := cf1_ BK217.out) | ((with_reducible refine gate_callee (f := 43) rfl ?_); refine goesL_ (some 14) rfl rfl Tryd.func43 (by kernel_rfl) rfl #[.slice A0 l0.length c0] rfl (by (try simp only [List.map_toArray, List.map_cons, List.map_nil]); first | done | rfl | (simp only [List.length_drop, List.length_take]; rfl)) ?_; (with_reducible refine (exactpplref19_Reduce.calls k _ _ l0 t218 t221 _ ?side1 ?side2 A3.out).mono ?_); (case side1 => exact Kd.C_below HR0.out bl_); (case side2 => exact HC0.out); rintro e w37 ⟨v219, rfl, ho0, hb⟩; refine ⟨_, rfl, ?_⟩; have HO220 := Aside0.mk (Kd.V_lower (Kd.V_mono (ok' := fun k_ => k_ ≠ gb217) ho0 (fun k_ hk_ => (Kd.freshB (g := gb217) (o := .cells #[.slice Ao35 t213.length co35] 31 (0, 0)) (by (with_reducible repeat (first | refine blk_drewN ?_ _ | refine blk_drew ?_ | refine blk_alloc ?_ _)); refine blk_put (cs := #[.slice none 0 0]) ?_ 0 _ rfl; (with_reducible repeat (first | refine blk_drewN ?_ _ | refine blk_drew ?_ | refine blk_alloc ?_ _)); exact BK217.out) k_ hk_))) (below_size bl_)); replace HO215 := Aside0.mk (Kd.V_below (by (with_reducible repeat (first | apply Kd.V_alloc | apply Kd.V_drewN | apply Kd.V_drew)); exact (Kd.V_mono (Kd.V_far (p := ⟨gb217, 0, none⟩) (Kd.V_mono HO215.out (fun k_ hk => (⟨hk, by first | exact hk.2 | exact hk.1 | exact hk.2 | exact hk.1.1 | exact hk.1.2⟩ : _ ∧ k_ ≠ gb217))) (fun _ hk => hk.2) (.slice Ao35 t213.length co35)) (fun _ h_ => h_.1))) hb); replace BK217 := Aside0.mk (blk_below (g := gb217) (o := .cells #[.slice Ao35 t213.length co35] 31 (0, 0)) (by (with_reducible repeat (first | refine blk_drewN ?_ _ | refine blk_drew ?_ | refine blk_alloc ?_ _)); refine blk_put (cs := #[.slice none 0 0]) ?_ 0 _ rfl; (with_reducible repeat (first | refine blk_drewN ?_ _ | refine blk_drew ?_ | refine blk_alloc ?_ _)); exact BK217.out) hb); replace HB := Aside0.mk (below_step bl_ hb); (try clear hb); (try clear hb2); (try clear hk); (try clear hi); (try clear ho0)) | ((with_reducible refine gate_dst (N := 5) rfl ?_); refine box_event ?hg (N := 5) ?hd (cs := #[.slice none 0 0]) (t := 31) ?hr ?_; (case hd => rfl); (case hg => rfl); (case hr => first | (go_simp; done) | (go_simp; rfl)); intro gb222 hg w38 hbox hb; have BK222 := Aside0.mk (hbox); have GW222 : Aside0 (w.heap.size ≤ gb222) := gw_ hg (below_size bl_); have GE222 := GW222; have NB217_222 := Aside0.mk ((by rw [hg]; exact Nat.ne_of_lt (blk_lt (g := gb217) (o := .cells #[.slice Ao35 t213.length co35] 31 (0, 0)) bk_) : gb217 ≠ gb222)); have NB222_217 := Aside0.mk ((by rw [hg]; exact Nat.ne_of_gt (blk_lt (g := gb217) (o := .cells #[.slice Ao35 t213.length co35] 31 (0, 0)) bk_) : gb222 ≠ gb217)); replace HO215 := Aside0.mk (Kd.V_below (Kd.V_elderB (pV_ HO215.out) gb222 (Nat.le_of_eq hg.symm)) hb); replace HO220 := Aside0.mk (Kd.V_below (Kd.V_elderB (pV_ HO220.out) gb222 (Nat.le_of_eq hg.symm)) hb); replace BK217 := Aside0.mk (blk_below (g := gb217) (o := .cells #[.slice Ao35 t213.length co35] 31 (0, 0)) bk_ hb); replace HB := Aside0.mk (below_step bl_ hb); clear hb hbox hg; obtain ⟨Ao39, co39, eo39⟩ := Kd.V_slice HO220.out; subst eo39; have hnb40 := NB222_217.out; have hnc40 := NB217_222.out; obtain ⟨hcz41_0, hfz41_0⟩ := cf1_ BK222.out))
  go_ret
  exact ⟨re_, bl_⟩

end Go.Proofs.YtopbjginpmdebaaDoor.K
-- reduces
namespace Go.Proofs.YtopbjginpmdebaaDoor.K
open Go.RowKit Go.Maps Go.Proofs.YtopbjginpmdebaaDoorW.PrintWords Go.Proofs.YtopbjginpmdebaaDoorW.PrintLast Go.Proofs.YtopbjginpmdebaaDoorW.PrintMore
set_option linter.unusedVariables false
set_option linter.unusedSimpArgs false
theorem reduces_f (l : List Nd) (h : ndOk l = true) (k : Nat) (hk : rnd l ≤ k) : exactppllaw19_reduces.f k l = some true := by
  have hl := redL_len l
  have hk' := hk
  unfold rnd at hk'
  unfold exactppllaw19_reduces.f diagram_Reduce.f
  rw [if_pos h, Option.bind_some, refReduce_f l h k hk, Option.bind_some, if_pos rfl, same_f _ _ (by show (redL l).length < _; omega) 1073741824 (by decide) (fun n hn => Nat.le_trans (redL_kids16 l n hn) (by decide)) k (by show (redL l).length + _ < _; omega), Option.bind_some, if_pos (by simp)]
  unfold diagram_Validate.f
  rw [if_pos h, Option.bind_some, refValidate_f l h k hk, Option.bind_some]
  simp
theorem wf_of {l : List Int} (h : ∀ x ∈ l, (Lit.int .i64 x).wf = true) : ∀ x ∈ l, -9223372036854775808 ≤ x ∧ x ≤ 9223372036854775807 := by
  intro x hx
  have h1 := h x hx
  have h2 : IntKind.i64.min ≤ x ∧ x ≤ 9223372036854775807 := by simpa [Lit.wf] using h1
  have h3 : IntKind.i64.min = -9223372036854775808 := by decide
  omega
end Go.Proofs.YtopbjginpmdebaaDoor.K
-- the shape of the diagrams that are made; Src.Diagram
namespace Go.Proofs.YtopbjginpmdebaaDoor.K
open Go.RowKit Go.Maps Go.Proofs.YtopbjginpmdebaaDoorW.PrintWords Go.Proofs.YtopbjginpmdebaaDoorW.PrintLast Go.Proofs.YtopbjginpmdebaaDoorW.PrintMore
set_option linter.unusedVariables false
set_option linter.unusedSimpArgs false
/-- the shape of what is made -/
def wd (s : Int) : Nat := (2 + s % 2).toNat
/-- how many nodes at most -/
def bnd : Nat → Nat
  | 0 => 1
  | n + 1 => 3 * bnd n + 1
theorem bnd_le : ∀ n, n ≤ 6 → bnd n ≤ 1093 := by
  intro n hn
  match n, hn with
  | 0, _ => decide
  | 1, _ => decide
  | 2, _ => decide
  | 3, _ => decide
  | 4, _ => decide
  | 5, _ => decide
  | 6, _ => decide
theorem bnd_mono (n : Nat) : bnd n ≤ bnd (n + 1) := by simp only [bnd]; omega
theorem bnd_pos (n : Nat) : 1 ≤ bnd n := by
  cases n with
  | zero => exact Nat.le_refl _
  | succ n => simp only [bnd]; omega
/-- a diagram that was made over the sites from lo to hi -/
structure Dg (lo hi : Int) (n : Nat) (r : List Nd) : Prop where
  gr : grB r = true
  shp : GrS wd r
  can : Can r
  len : r.length ≤ bnd n
  all : AllF (fun x => lo ≤ x ∧ x ≤ hi) r
theorem Dg.const {lo hi : Int} {n : Nat} (v : Int) (h : -1073741824 ≤ v ∧ v ≤ 1073741824) : Dg lo hi n [⟨-1, v, []⟩] := by
  have hs : GrS wd [⟨-1, v, []⟩] := ⟨fun i hi => by
    obtain rfl : i = 0 := by simp at hi; omega
    exact .inl (lf_iff.2 ⟨rfl, rfl, h.1, h.2⟩)⟩
  have hr : Red [⟨-1, v, []⟩] := ⟨fun i hi k hk => by
    obtain rfl : i = 0 := by simp at hi; omega
    simp [nth] at hk, by simp, by simp, by simp, by simp⟩
  refine ⟨hs.gr (by simp), hs, ⟨hr, by simp, ?_⟩, by simpa using bnd_pos n, ?_⟩
  · simp [expo, dfs, fin, upd, nth, mp]
  · intro n hn h0
    simp at hn
    subst hn
    simp at h0
theorem Dg.weaken {lo lo' hi : Int} {n m : Nat} {r : List Nd} (h : Dg lo hi n r) (h1 : lo' ≤ lo) (h2 : bnd n ≤ bnd m) : Dg lo' hi m r := ⟨h.gr, h.shp, h.can, Nat.le_trans h.len h2, fun x hx h0 => ⟨by have := (h.all x hx h0).1; omega, (h.all x hx h0).2⟩⟩
theorem sumL_le {m : Nat} : ∀ (ds : List S31), (∀ d ∈ ds, d.f0.length ≤ m) → sumL ds ≤ ds.length * m
  | [], _ => by simp [sumL]
  | d :: ds, h => by
    have h1 := h d List.mem_cons_self
    have h2 := sumL_le ds (fun e he => h e (List.mem_cons_of_mem _ he))
    simp only [sumL, List.map_cons, List.sum_cons, List.length_cons] at h2 ⊢
    rw [Nat.add_mul]; omega
theorem Dg.join {lo hi : Int} {n : Nat} {ds : List S31} (hd : ∀ d ∈ ds, Dg (lo + 1) hi n d.f0) (hl : ds.length = wd lo) (hlo : 0 ≤ lo ∧ lo ≤ hi) (hhi : hi ≤ 60) (hn : n ≤ 5) : exactpplref19_Join.f lo ds = some (jn lo ds) ∧ Dg lo hi (n + 1) (jn lo ds) := by
  have hw : wd lo = 2 ∨ wd lo = 3 := by unfold wd; omega
  have hne : ds ≠ [] := by intro e; rw [e] at hl; simp at hl; omega
  have hs := sumL_le ds (fun d hd' => (hd d hd').len)
  have hb := bnd_le n (by omega)
  have hs2 : sumL ds ≤ 3 * bnd n := Nat.le_trans hs (Nat.mul_le_mul_right _ (by omega))
  have hd1 : ∀ d ∈ ds, GrS wd d.f0 ∧ d.f0 ≠ [] ∧ AllF (fun x => lo < x) d.f0 := fun d hd' => ⟨(hd d hd').shp, gr_ne (hd d hd').gr, fun m hm h0 => by have := ((hd d hd').all m hm h0).1; omega⟩
  have hj := jn_ok hd1 ⟨hlo.1, by omega⟩ hne hl (by omega)
  have ht := jn_tb hd1 ⟨hlo.1, by omega⟩ hne hl (by omega)
  refine ⟨?_, ⟨hj.2.1, hj.1, hj.2.2.1, by simp only [bnd]; have := hj.2.2.2; omega, jn_all (fun d hd' m hm h0 => ⟨by have := ((hd d hd').all m hm h0).1; omega, ((hd d hd').all m hm h0).2⟩) ⟨Int.le_refl _, hlo.2⟩ ht.1.red.down ht.2.1⟩⟩
  unfold exactpplref19_Join.f
  rw [if_pos ⟨hlo.1, hne, by omega, by omega⟩, if_pos (List.all_eq_true.2 fun d hd' => (hd d hd').gr)]
/-- how a stretch of Diagram ends -/
def DgEnd (L : List Int) (st lo hi : Int) (n : Nat) (f : Nat → Option (List S60 × Int × Int)) : Prop := ∃ k r a', f k = some (r, a', st) ∧ Dg lo hi n r ∧ Src L a'
theorem diag_k {L : List Int} (st hi : Int) (hhi : hi ≤ 60) : ∀ (n : Nat), n ≤ 6 → ∀ (lo a : Int), 0 ≤ lo → hi - lo + 1 ≤ n → Src L a → DgEnd L st lo hi n fun k => exactpplmake_Src_Diagram.f k L a st lo hi := by
  intro n
  induction n with
  | zero =>
    intro hn lo a h0 h1 hS
    obtain ⟨x, a1, e1, hx, h2⟩ := range_f hS st (-2) 3 (by omega) (by omega) (by omega)
    refine ⟨1 + 1, [⟨-1, x, []⟩], a1, ?_, Dg.const x (by omega), h2⟩
    simp only [exactpplmake_Src_Diagram.f, exactpplmake_Src_Diagram.j0]
    rw [if_pos (by omega), if_pos trivial, e1, Option.bind_some, exactpplref19_Const.f, Option.bind_some]
  | succ n ih =>
    intro hn lo a h0 h1 hS
    by_cases hgt : lo > hi
    · obtain ⟨x, a1, e1, hx, h2⟩ := range_f hS st (-2) 3 (by omega) (by omega) (by omega)
      refine ⟨1 + 1, [⟨-1, x, []⟩], a1, ?_, Dg.const x (by omega), h2⟩
      simp only [exactpplmake_Src_Diagram.f, exactpplmake_Src_Diagram.j0]
      rw [if_pos (by omega), if_pos trivial, e1, Option.bind_some, exactpplref19_Const.f, Option.bind_some]
    · obtain ⟨y, a1, e1, hy, h2⟩ := n_f hS st 5 (by omega) (by omega)
      by_cases hy0 : y = 0
      · obtain ⟨x, a2, e2, hx, h3⟩ := range_f h2 st (-2) 3 (by omega) (by omega) (by omega)
        refine ⟨1 + 1, [⟨-1, x, []⟩], a2, ?_, Dg.const x (by omega), h3⟩
        simp only [exactpplmake_Src_Diagram.f, exactpplmake_Src_Diagram.j0]
        rw [if_neg hgt, e1, Option.bind_some]
        simp only
        rw [if_pos (by simpa using hy0), e2, Option.bind_some, exactpplref19_Const.f, Option.bind_some]
      · obtain ⟨z, a2, e2, hz, h3⟩ := n_f h2 st 4 (by omega) (by omega)
        by_cases hz0 : z = 0
        · obtain ⟨k, r, a', e, q1, q2⟩ := ih (by omega) (lo + 1) a2 (by omega) (by omega) h3
          refine ⟨k + 1 + 1, r, a', ?_, q1.weaken (by omega) (bnd_mono n), q2⟩
          simp only [exactpplmake_Src_Diagram.f, exactpplmake_Src_Diagram.j0]
          rw [if_neg hgt, e1, Option.bind_some]
          simp only
          rw [if_neg (by simpa using hy0), e2, Option.bind_some]
          simp only
          have e' : exactpplmake_Src_Diagram.f k L a2 st (lo + 1) hi = some (r, a', st) := e
          rw [if_pos hz0, w64_id (by omega) (by omega), e', Option.bind_some]
        · -- the kids, one by one
          have hw : wd lo = 2 ∨ wd lo = 3 := by unfold wd; omega
          have key : ∀ (c j : Nat) (a : Int) (ds : List S31), wd lo - j ≤ c → j ≤ wd lo → ds.length = j → (∀ d ∈ ds, Dg (lo + 1) hi n d.f0) → Src L a → DgEnd L st lo hi (n + 1) fun k => exactpplmake_Src_Diagram.l0 k lo hi ds (j : Int) L a st := by
            intro c
            induction c with
            | zero =>
              intro j a ds g1 g2 g3 g4 g5
              obtain ⟨j1, j2⟩ := Dg.join g4 (by omega) ⟨h0, by omega⟩ hhi (by omega)
              refine ⟨1, jn lo ds, a, ?_, j2, g5⟩
              simp only [exactpplmake_Src_Diagram.l0]
              rw [width_f lo h0 (by omega), Option.bind_some, if_neg (by unfold wd at g1; omega), j1, Option.bind_some]
            | succ c ihc =>
              intro j a ds g1 g2 g3 g4 g5
              by_cases hj : j < wd lo
              · obtain ⟨k1, r, a', e, q1, q2⟩ := ih (by omega) (lo + 1) a (by omega) (by omega) g5
                obtain ⟨k2, r2, a2', e2', q3, q4⟩ := ihc (j + 1) a' (ds ++ [⟨r⟩]) (by omega) (by omega) (by simp; omega) (fun d hd => (List.mem_append.1 hd).elim (g4 d) (fun e => by rw [List.mem_singleton.1 e]; exact q1)) q2
                refine ⟨k1 + k2 + 1, r2, a2', ?_, q3, q4⟩
                simp only [exactpplmake_Src_Diagram.l0]
                have e' : exactpplmake_Src_Diagram.f (k1 + k2) L a st (lo + 1) hi = some (r, a', st) := mono_le (f := fun k => exactpplmake_Src_Diagram.f k L a st (lo + 1) hi) (fun k => exactpplmake_Src_Diagram.mono L a st (lo + 1) hi k) (show k1 ≤ k1 + k2 by omega) e
                have e2'' := mono_le (f := fun k => exactpplmake_Src_Diagram.l0 k lo hi (ds ++ [⟨r⟩]) ((j + 1 : Nat) : Int) L a' st) (fun k => (exactpplmake_Src_Diagram.mono_l k).2.2 _ _ _ _ _ _ _) (show k2 ≤ k1 + k2 by omega) e2'
                rw [width_f lo h0 (by omega), Option.bind_some, if_pos (by unfold wd at hj; omega), w64_id (x := lo + 1) (by omega) (by omega)]
                rw [e', Option.bind_some]
                simp only
                rw [if_pos (by omega), w64_succ (by omega)]
                exact e2''
              · obtain ⟨j1, j2⟩ := Dg.join g4 (by omega) ⟨h0, by omega⟩ hhi (by omega)
                refine ⟨1, jn lo ds, a, ?_, j2, g5⟩
                simp only [exactpplmake_Src_Diagram.l0]
                rw [width_f lo h0 (by omega), Option.bind_some, if_neg (by unfold wd at hj; omega), j1, Option.bind_some]
          obtain ⟨k, r, a', e, q1, q2⟩ := key 3 0 a2 [] (by omega) (by omega) rfl (by simp) h3
          refine ⟨k + 1 + 1, r, a', ?_, q1, q2⟩
          simp only [exactpplmake_Src_Diagram.f, exactpplmake_Src_Diagram.j0]
          rw [if_neg hgt, e1, Option.bind_some]
          simp only
          rw [if_neg (by simpa using hy0), e2, Option.bind_some]
          simp only
          rw [if_neg hz0]
          exact e
theorem diag_f {L : List Int} {a : Int} (h : Src L a) (st lo hi : Int) (h0 : 0 ≤ lo) (h1 : hi ≤ 5) : ∃ K r a', (∀ k, K ≤ k → exactpplmake_Src_Diagram.f k L a st lo hi = some (r, a', st)) ∧ Dg lo hi 6 r ∧ Src L a' := by
  obtain ⟨k, r, a', e, q1, q2⟩ := diag_k (L := L) st hi (by omega) 6 (by omega) lo a h0 (by omega) h
  exact ⟨k, r, a', fun k' hk => mono_le (f := fun k => exactpplmake_Src_Diagram.f k L a st lo hi) (fun k => exactpplmake_Src_Diagram.mono L a st lo hi k) hk e, q1, q2⟩
theorem Dg.ok {lo hi : Int} {r : List Nd} (h : Dg lo hi 6 r) : ndOk r = true := gr_ok h.gr (by have := h.len; have := bnd_le 6 (by omega); omega)
theorem Dg.len' {lo hi : Int} {r : List Nd} (h : Dg lo hi 6 r) : r.length ≤ 1093 := Nat.le_trans h.len (bnd_le 6 (by omega))
end Go.Proofs.YtopbjginpmdebaaDoor.K
-- rows of numbers that are sorted and compacted in place; ascending lists
namespace Go.Proofs.YtopbjginpmdebaaDoor.K
open Go.RowKit Go.Maps Go.Proofs.YtopbjginpmdebaaDoorW.PrintWords Go.Proofs.YtopbjginpmdebaaDoorW.PrintLast Go.Proofs.YtopbjginpmdebaaDoorW.PrintMore
set_option linter.unusedVariables false
set_option linter.unusedSimpArgs false
/-- what a sort or a compaction in place leaves of the heap -/
theorem put_heap (W : World) (g q : Nat) (ys : List Int) (os : Array Obj) : (∀ k, k < W.heap.size → k ≠ g → (Sort.grow (Sort.putRow (Value.int .i64) (Sort.ahead W q) g 0 ys.toArray) os).heap[k]? = W.heap[k]?) ∧ W.heap.size ≤ (Sort.grow (Sort.putRow (Value.int .i64) (Sort.ahead W q) g 0 ys.toArray) os).heap.size ∧
    ∀ cs t f, W.heap[g]? = some (.cells cs t f) → (Sort.grow (Sort.putRow (Value.int .i64) (Sort.ahead W q) g 0 ys.toArray) os).heap[g]? = some (.cells (Sort.putCells (Value.int .i64) 0 ys.toArray cs) t f) := by
  have hs : (Sort.putRow (Value.int .i64) (Sort.ahead W q) g 0 ys.toArray).heap.size = W.heap.size := by simp [Sort.putRow, Sort.mapBlock, Sort.ahead]
  have hg : ∀ k, k < W.heap.size → (Sort.grow (Sort.putRow (Value.int .i64) (Sort.ahead W q) g 0 ys.toArray) os).heap[k]? = (Sort.putRow (Value.int .i64) (Sort.ahead W q) g 0 ys.toArray).heap[k]? := by
    intro k hk
    show ((Sort.putRow (Value.int .i64) (Sort.ahead W q) g 0 ys.toArray).heap ++ os)[k]? = _
    rw [Array.getElem?_append_left (by rw [hs]; exact hk)]
  refine ⟨fun k hk hne => ?_, ?_, fun cs t f h => ?_⟩
  · rw [hg k hk]
    show (W.heap.modify g _)[k]? = _
    rw [Array.getElem?_modify, if_neg (fun e => hne e.symm)]
  · show _ ≤ ((Sort.putRow (Value.int .i64) (Sort.ahead W q) g 0 ys.toArray).heap ++ os).size
    rw [Array.size_append, hs]; omega
  · have hlt := blk_lt h
    rw [hg g hlt]
    show (W.heap.modify g _)[g]? = _
    rw [Array.getElem?_modify, if_pos rfl, h]; rfl
theorem put_own {W : World} {base g cap : Nat} {zs ys : List Int} (h : W.ownsRow base 3 1 (.slice (some ⟨g, 0, none⟩) zs.length cap) zs.length (encs (Value.int .i64) zs)) (hl : ys.length = zs.length) (q : Nat) (os : Array Obj) :
    (Sort.grow (Sort.putRow (Value.int .i64) (Sort.ahead W q) g 0 ys.toArray) os).ownsRow base 3 1 (.slice (some ⟨g, 0, none⟩) zs.length cap) zs.length (encs (Value.int .i64) ys) := by
  obtain ⟨h1, h2⟩ := h
  refine ⟨by simp [encs, hl], ?_⟩
  rcases h2 with ⟨he, _⟩ | ⟨g', cap', cur, he, hb, hh, hn, hm, hc, ht⟩
  · cases he
  · injection he with e1 _ e3
    injection e1 with e1
    injection e1 with e1 _ _
    subst e1; subst e3
    refine .inr ⟨g, cap, Sort.putCells (Value.int .i64) 0 ys.toArray cur, rfl, hb, (put_heap W g q ys os).2.2 _ _ _ hh, hn, hm, by simp [Sort.putCells, hc], ?_⟩
    apply List.ext_getElem
    · simp [Sort.putCells, encs, hl, hc]; omega
    · intro i i1 i2
      have hi : i < ys.length := by simpa [encs] using i2
      have hic : i < cur.size := by rw [hc]; omega
      simp only [List.getElem_take, Array.getElem_toList, Sort.putCells, Array.getElem_mapIdx, encs, List.getElem_map]
      rw [if_pos ⟨by omega, by simpa using hi⟩]
      simp [hi]
theorem own_holds {W : World} {base g cap : Nat} {zs : List Int} (h : W.ownsRow base 3 1 (.slice (some ⟨g, 0, none⟩) zs.length cap) zs.length (encs (Value.int .i64) zs)) : Sort.Holds (Value.int .i64) W g 0 zs.toArray ∧ g < W.heap.size ∧ zs.length ≤ cap ∧ base ≤ g := by
  obtain ⟨h1, h2⟩ := id h
  rcases h2 with ⟨he, _⟩ | ⟨g', cap', cur, he, hb, hh, hn, hm, hc, ht⟩
  · cases he
  · injection he with e1 _ e3
    injection e1 with e1
    injection e1 with e1 _ _
    subst e1; subst e3
    refine ⟨fun j hj => ?_, blk_lt hh, hn, hb⟩
    have hj' : j < zs.length := by simpa using hj
    have hcj : cur[j]? = some (Value.int .i64 zs[j]) := by
      have : (cur.toList.take (zs.length * 1))[j]? = (encs (Value.int .i64) zs)[j]? := by rw [ht]
      rw [List.getElem?_take, if_pos (by omega)] at this
      rw [← Array.getElem?_toList, this]
      simp [encs, hj']
    rw [Nat.zero_add]
    refine ⟨(blk_cell hh j).trans ?_, blk_frozen hh j⟩
    rw [hcj]; simp [hj']
theorem put_below {w W : World} {g q : Nat} {ys : List Int} {os : Array Obj} (h : Below w.heap.size w W) (hg : w.heap.size ≤ g) : Below w.heap.size w (Sort.grow (Sort.putRow (Value.int .i64) (Sort.ahead W q) g 0 ys.toArray) os) := by
  have hp := put_heap W g q ys os
  exact ⟨h.os, h.tape, h.output, Nat.le_trans h.size hp.2.1, fun k hk => (hp.1 k (Nat.lt_of_lt_of_le hk h.size) (by omega)).trans (h.block k hk)⟩
/-- Sort, then Compact -/
def srt (l : List Int) : List Int := l.mergeSort fun x y => decide (x ≤ y)
def srtc (l : List Int) : List Int := Lib.compact (srt l)
theorem srt_len (l : List Int) : (srt l).length = l.length := List.length_mergeSort l
theorem srt_mem (l : List Int) (x : Int) : x ∈ srt l ↔ x ∈ l := List.mem_mergeSort
theorem srt_le (l : List Int) : (srt l).Pairwise (· ≤ ·) := by
  have h := List.pairwise_mergeSort (le := fun x y : Int => decide (x ≤ y)) (fun a b c h1 h2 => by simp only [decide_eq_true_eq] at *; omega) (fun a b => by simp only [Bool.or_eq_true, decide_eq_true_eq]; omega) l
  exact h.imp fun h => of_decide_eq_true h
/-- of an ascending list one of each stays -/
theorem compact_spec (l : List Int) (h : l.Pairwise (· ≤ ·)) : (Lib.compact l).Pairwise (· < ·) ∧ ∀ x, x ∈ Lib.compact l ↔ x ∈ l := by
  have hle : ∀ i j : Nat, i ≤ j → j < l.length → l.toArray[i]! ≤ l.toArray[j]! := by
    intro i j hij hj
    rcases Nat.lt_or_ge i j with h1 | h1
    · have := (List.pairwise_iff_getElem.1 h) i j (by omega) hj h1
      simpa [hj, (show i < l.length by omega)] using this
    · obtain rfl : i = j := by omega
      exact Int.le_refl _
  have hkeep : ∀ j, Lib.keeps l.toArray j = true → j = 0 ∨ l.toArray[j]! ≠ l.toArray[j - 1]! := fun j hj => of_decide_eq_true hj
  constructor
  · unfold Lib.compact Lib.compactUpTo
    rw [List.pairwise_map, List.pairwise_filter]
    refine (List.pairwise_lt_range (n := l.length)).imp_of_mem fun {i j} hi hj hij hki hkj => ?_
    have hj' := List.mem_range.1 hj
    rcases hkeep j hkj with h1 | h1
    · omega
    · have h2 := hle i (j - 1) (by omega) (by omega)
      have h3 := hle (j - 1) j (by omega) hj'
      omega
  · intro x
    unfold Lib.compact Lib.compactUpTo
    rw [List.mem_map]
    constructor
    · rintro ⟨j, hj, rfl⟩
      have hj' := List.mem_range.1 (List.mem_filter.1 hj).1
      have : l.toArray[j]! = l[j] := by simp [hj']
      rw [this]; exact List.getElem_mem hj'
    · intro hx
      -- the first place that holds x
      have hne : ∃ j, j < l.length ∧ l.toArray[j]! = x := by
        obtain ⟨j, hj, rfl⟩ := List.getElem_of_mem hx
        exact ⟨j, hj, by simp [hj]⟩
      obtain ⟨j0, hj0⟩ := hne
      have key : ∀ m j, j ≤ m → j < l.length → l.toArray[j]! = x → ∃ i, i < l.length ∧ Lib.keeps l.toArray i = true ∧ l.toArray[i]! = x := by
        intro m
        induction m with
        | zero =>
          intro j h1 h2 h3
          obtain rfl : j = 0 := by omega
          exact ⟨0, h2, decide_eq_true (.inl rfl), h3⟩
        | succ m ih =>
          intro j h1 h2 h3
          by_cases h4 : j = 0 ∨ l.toArray[j]! ≠ l.toArray[j - 1]!
          · exact ⟨j, h2, decide_eq_true h4, h3⟩
          · have h5 : l.toArray[j]! = l.toArray[j - 1]! := Classical.byContradiction fun e => h4 (.inr e)
            have h6 : j ≠ 0 := fun e => h4 (.inl e)
            exact ih (j - 1) (by omega) (by omega) (h5.symm.trans h3)
      obtain ⟨i, h1, h2, h3⟩ := key j0 j0 (Nat.le_refl _) hj0.1 hj0.2
      exact ⟨i, List.mem_filter.2 ⟨List.mem_range.2 h1, h2⟩, h3⟩
end Go.Proofs.YtopbjginpmdebaaDoor.K
-- diagram.Sites, diagram.Values: collect and its closures (this text is printed by gen_Lw.py)
namespace Go.Proofs.YtopbjginpmdebaaDoor.K
open Go.RowKit Go.Maps Go.Proofs.YtopbjginpmdebaaDoorW.PrintWords Go.Proofs.YtopbjginpmdebaaDoorW.PrintLast Go.Proofs.YtopbjginpmdebaaDoorW.PrintMore
set_option linter.unusedVariables false
set_option linter.unusedSimpArgs false
/-- a branch's site, a leaf's value -/
def selS (n : Nd) : Option Int := if 0 ≤ n.f0 then some n.f0 else none
def selV (n : Nd) : Option Int := if n.f0 < 0 then some n.f1 else none
set_option maxHeartbeats 8000000 in
set_option maxRecDepth 100000 in
theorem clo64_calls (n : Nd) (A : Option Addr) (c : Nat) (w : World) : Calls Tryd.prog 64 #[.agg #[.int .i64 n.f0, .int .i64 n.f1, .slice A n.f2.length c]] w fun e w' => e = .returned (.tuple #[.int .i64 n.f0, .bool (decide (0 ≤ n.f0))]) ∧ Below w.heap.size w w' := by
  go_enter Tryd.func64, Tryd.ntmps64
  go_wp2
  go_quiet (fail)
  go_wp2
  exact bodyPost_ret (v := .tuple #[.int .i64 n.f0, .bool (decide (0 ≤ n.f0))]) (by simp [results, Tryd.f64, go_sem]) rfl ⟨rfl, below_drew2 ((Below.refl _ w).alloc (Nat.le_refl _) _) _⟩
set_option maxHeartbeats 8000000 in
set_option maxRecDepth 100000 in
theorem clo66_calls (n : Nd) (A : Option Addr) (c : Nat) (w : World) : Calls Tryd.prog 66 #[.agg #[.int .i64 n.f0, .int .i64 n.f1, .slice A n.f2.length c]] w fun e w' => e = .returned (.tuple #[.int .i64 n.f1, .bool (decide (n.f0 < 0))]) ∧ Below w.heap.size w w' := by
  go_enter Tryd.func66, Tryd.ntmps66
  go_wp2
  go_quiet (fail)
  go_wp2
  exact bodyPost_ret (v := .tuple #[.int .i64 n.f1, .bool (decide (n.f0 < 0))]) (by simp [results, Tryd.f66, go_sem]) rfl ⟨rfl, below_drew2 ((Below.refl _ w).alloc (Nat.le_refl _) _) _⟩
set_option maxHeartbeats 16000000 in
set_option maxRecDepth 100000 in
theorem col64_calls (nodes : List Nd) (A : Option Addr) (c : Nat) (w : World) (hC : k60.C w A nodes.length nodes) (hc : nodes.length ≤ c) (hI : ∀ n ∈ nodes, I64 n.f0 ∧ I64 n.f1 ∧ n.f2.length ≤ 1073741824) (hroom : (nodes.length + 1) * 40 ≤ 140737488355328) (htab : PowTab w.heap.size w) :
    Calls Tryd.prog 63 #[.agg #[.slice A nodes.length c], .func (.func 64) #[] #[]] w fun e w' => ∃ v, e = .returned (.tuple #[v, .int .i64 (valE nodes)]) ∧ (Kd.int .i64).R 3 w' w.heap.size (fun _ => True) v (if valE nodes = 0 then srtc (nodes.filterMap selS) else []) ∧ Below w.heap.size w w' := by
  have hb0 : Below w.heap.size w (w.alloc (.cells #[.slice A nodes.length c] 31)) := (Below.refl _ w).alloc (Nat.le_refl _) _
  have hV := validate_calls nodes A c (w.alloc (.cells #[.slice A nodes.length c] 31)) (Kd.C_below hC hb0) hc hI hroom (PowTab.up (htab.on hb0) hb0.size) (fun n hn => Nat.le_trans (redL_kids16 nodes n hn) (by decide))
  have hbx0 := heap_alloc_new w (.cells #[.slice A nodes.length c] 31)
  obtain ⟨N, hN⟩ : ∃ N, N = nodes.length := ⟨_, rfl⟩
  rw [← hN] at hV hc hb0 hbx0 ⊢
  have HB0 := Lib.hid hb0
  have HBX0 := Lib.hid hbx0
  have HN := Lib.hid hN
  have HRM := Lib.hid hroom
  have HC := Lib.hid hC
  have HI := Lib.hid hI
  have hs0 : (w.alloc (.cells #[.slice A N c] 31)).heap.size = w.heap.size + 1 := by simp
  have HS0 := Lib.hid hs0
  clear hI hC hroom htab hb0 hbx0 hN hs0
  by_cases h0 : valE nodes = 0
  · rw [if_pos h0, h0]
    rw [h0] at hV
    clear h0
    go_enter Tryd.func63, Tryd.ntmps63
    go_wp2_with (go_at_call 21; refine hV.mono ?_; clear hV; rintro e w2 ⟨rfl, hb2⟩; have HB2 := Lib.hid (HB0.out.trans (hb2.mono (by have := HS0.out; omega))); have hbx2 := (hb2.block _ (by have := HS0.out; omega)).trans HBX0.out; have b2 := blk_cell hbx2 0; have hlt2 := blk_lt hbx2; clear hb2 hbx2)
    go_loopw [7, 20] (fun v i W => ∃ (k : Nat) (vv : Value), vv = v ∧ i = .int .i64 k ∧ k ≤ N ∧ Below w.heap.size w W ∧ (Kd.int .i64).R 3 W w.heap.size (fun _ => True) vv ((nodes.take k).filterMap selS)) (fun _ i _ => N - (intOf i).toNat)
    case atStart => exact ⟨0, _, rfl, rfl, Nat.zero_le _, HB2.out, Kd.R_nil _ _ _ _ _⟩
    case round =>
      obtain ⟨k, vv, rfl, rfl, hk, hB, hR⟩ := hrel
      obtain ⟨Av, cv, rfl⟩ := Kd.R_slice hR
      obtain ⟨L, hL⟩ : ∃ L, L = (nodes.take k).filterMap selS := ⟨_, rfl⟩
      rw [← hL] at hR ⊢
      have hLl : L.length ≤ k := by rw [hL]; have := List.length_filterMap_le selS (nodes.take k); simp at this; omega
      have HR := Lib.hid hR
      have HB := Lib.hid hB
      have HL := Lib.hid hL
      have hsz := hB.size
      clear hR hB hL
      by_cases hlt : k < N
      · have hkn : k < nodes.length := by have := HN.out; omega
        have hnm : nth nodes k ∈ nodes := by rw [nth_lt hkn]; exact List.getElem_mem hkn
        obtain ⟨ad, A2, c2, rfl, d0, d1, d2, l2, g2⟩ := at_T60 (Kd.C_below HC.out HB.out) (k : Int) (by omega) (by omega)
        rw [Int.toNat_natCast] at d0 d1 d2
        rw [rd_nth] at d0 d1 d2 l2 g2
        have hsucc : nodes.take (k + 1) = nodes.take k ++ [nth nodes (k : Int)] := take_snoc' hkn
        obtain ⟨n, hn⟩ : ∃ n, n = nth nodes (k : Int) := ⟨_, rfl⟩
        rw [← hn] at d0 d1 d2 l2 g2 hnm hsucc
        have hkb : k < 4000000000000 := by have := HRM.out; have := HN.out; omega
        have hki : (k : Int) < (N : Int) := by omega
        have hb1 : Below wr.heap.size wr (wr.alloc (.cells #[.int .i64 n.f0, .int .i64 n.f1, .slice A2 n.f2.length c2] 60)) := (Below.refl _ wr).alloc (Nat.le_refl _) _
        have hA := clo64_calls n A2 c2 (wr.alloc (.cells #[.int .i64 n.f0, .int .i64 n.f1, .slice A2 n.f2.length c2] 60))
        have HB1 := Lib.hid hb1
        have HSC := Lib.hid hsucc
        have HNM := Lib.hid hnm
        clear hb1 hsucc hn hnm g2
        by_cases hch : 0 ≤ n.f0
        · have hd : decide (0 ≤ n.f0) = true := decide_eq_true hch
          have hsel : (nodes.take (k + 1)).filterMap selS = L ++ [n.f0] := by rw [HSC.out, List.filterMap_append, ← HL.out]; simp [selS, hch]
          have HSEL := Lib.hid hsel
          rw [hd] at hA
          clear hd hsel hch
          go_wp2_with (first
            | (go_at_call 64; refine hA.mono ?_; clear hA; rintro e w3 ⟨rfl, hb3⟩; have hb3' := HB1.out.trans (hb3.mono HB1.out.size); have HB3 := Lib.hid hb3'; have HR3 := Lib.hid (Kd.R_below HR.out hb3'); have hs3 := hb3'.size; clear hb3 hb3')
            | (at_builtin; refine Kd.R_append (Kd.int .i64) (w0 := w) (W := w3) w.heap.size rfl (.tmp 31) (.tmp 33) 22 3 (.int .i64 0) 8 rfl Tryd.underlying22 info3 rfl (by decide) (by decide) (.slice Av L.length cv) L (n.f0) [.int .i64 (n.f0)] (fun _ => True) (fun _ => False) (by rfl) (by rfl) rfl (fun _ h => h.elim) (fun j hj => trivial) HR3.out (HB.out.trans (HB3.out.mono hsz)) (by omega) (by omega) ?_; intro v5 w5 hR5 hB5 hg5 hat5; refine Hid.out ?_))
          refine Lib.hid ?_
          have HR5 := Lib.hid hR5
          have HB5 := Lib.hid hB5
          clear hR5 hB5 hg5 hat5
          go_wp2
          go_roundw
          case rel => exact ⟨k + 1, _, rfl, by go_num, hlt, HB5.out, by rw [HSEL.out]; exact HR5.out⟩
          case measure => simp [intOf]; omega
        · have hd : decide (0 ≤ n.f0) = false := decide_eq_false hch
          have hsel : (nodes.take (k + 1)).filterMap selS = L := by rw [HSC.out, List.filterMap_append, ← HL.out]; simp [selS, hch]
          have HSEL := Lib.hid hsel
          rw [hd] at hA
          clear hd hsel hch
          go_wp2_with (go_at_call 64; refine hA.mono ?_; clear hA; rintro e w3 ⟨rfl, hb3⟩; have hb3' := HB1.out.trans (hb3.mono HB1.out.size); have HB3 := Lib.hid hb3'; have HR3 := Lib.hid (Kd.R_below HR.out hb3'); have hs3 := hb3'.size; clear hb3 hb3')
          go_roundw
          case rel => exact ⟨k + 1, _, rfl, by go_num, hlt, HB.out.trans (HB3.out.mono hsz), by rw [HSEL.out]; exact HR3.out⟩
          case measure => simp [intOf]; omega
      · obtain rfl : N = k := by omega
        have hLn : L = nodes.filterMap selS := by rw [HL.out, List.take_of_length_le (by have := HN.out; omega)]
        have HLN := Lib.hid hLn
        have hLb : L.length < 4611686018427387904 := by have := HRM.out; have := HN.out; omega
        have hown : wr.ownsRow w.heap.size 3 1 (.slice Av L.length cv) L.length (encs (Value.int .i64) L) := Kd.own_of_R HR.out
        clear hLn
        rcases hown.2 with ⟨he, hl0⟩ | ⟨g, cap, cur, he, hg, hh, _⟩
        · injection he with e1 e2 e3
          obtain rfl : L = [] := List.length_eq_zero_iff.1 e2
          subst e1
          subst e3
          have hS := Any.slices_Sort_int_none Tryd.lays189 none 0 wr
          have hK := Tryd.slices_Compact_int_empty none 0 wr
          clear hown
          go_wp2_with (first
            | (go_at_call 75; refine hS.mono ?_; rintro e w4 ⟨rfl, rfl⟩)
            | (go_at_call 76; refine hK.mono ?_; rintro e w5 ⟨rfl, rfl⟩))
          refine bodyPost_ret (v := .tuple #[.slice none 0 0, .int .i64 0]) (by simp [results, Tryd.f63, go_sem]) rfl ⟨_, rfl, ?_, HB.out⟩
          rw [← HLN.out, show srtc [] = [] from by simp [srtc, srt, Lib.compact, Lib.compactUpTo]]
          exact Kd.R_nil _ _ _ _ _
        · injection he with e1 _ e3
          subst e1
          subst e3
          obtain ⟨hH, hgl, hcap, _⟩ := own_holds hown
          have hS := Tryd.slices_Sort_int g 0 cv L wr hH hgl hLb
          have hsl := srt_len L
          have HOWN := Lib.hid hown
          have HSL := Lib.hid hsl
          have hK : ∀ (q : Nat) (os : Array Obj), Calls Tryd.prog 76 #[.slice (some ⟨g, 0, none⟩) L.length cv] (Sort.grow (Sort.putRow (Value.int .i64) (Sort.ahead wr q) g 0 (srt L).toArray) os) fun e w' => ∃ v, e = .returned v ∧ (Kd.int .i64).R 3 w' w.heap.size (fun _ => True) v (srtc L) ∧ Below w.heap.size w w' := by
            intro q os
            have h1 := put_own HOWN.out HSL.out q os
            have h1' := h1
            rw [← HSL.out] at h1'
            obtain ⟨k1, k2, k3, k4⟩ := own_holds h1'
            have h2 := Tryd.slices_Compact_int g 0 cv (srt L) _ k1 (by rw [HSL.out]; omega) k3
            rw [HSL.out] at h2
            refine h2.mono ?_
            rintro e w5 ⟨rfl, q2, rfl⟩
            have hcl : (Lib.compact (srt L)).length ≤ L.length := by rw [← HSL.out]; exact Lib.compact_length_le _
            have h3 := put_own (ys := Lib.compact (srt L) ++ List.replicate (L.length - (Lib.compact (srt L)).length) 0) h1' (by rw [HSL.out]; simp; omega) q2 #[]
            rw [HSL.out, Sort.grow_empty] at h3
            have h4 := own_take (m := (Lib.compact (srt L)).length) h3 hcl
            refine ⟨_, rfl, Kd.R_of_own ?_ (fun _ _ => trivial), ?_⟩
            · have e : (encs (Value.int .i64) (Lib.compact (srt L) ++ List.replicate (L.length - (Lib.compact (srt L)).length) 0)).take ((Lib.compact (srt L)).length * 1) = encs (Value.int .i64) (Lib.compact (srt L)) := by
                rw [encs_append, List.take_append_of_le_length (by simp [encs]), List.take_of_length_le (by simp [encs])]
              rw [e] at h4
              exact h4
            · have h5 := put_below (q := q) (ys := srt L) (os := os) HB.out hg
              have h6 := put_below (q := q2) (ys := Lib.compact (srt L) ++ List.replicate (L.length - (Lib.compact (srt L)).length) 0) (os := #[]) h5 hg
              rwa [Sort.grow_empty] at h6
          have HK := Lib.hid hK
          clear hown hH hsl hK hh hgl
          go_wp2_with (first
            | (go_at_call 75; refine hS.mono ?_; clear hS; rintro e w4 ⟨rfl, q4, os4, rfl⟩)
            | (go_at_call 76; refine (HK.out _ _).mono ?_; rintro e w5 ⟨v5, rfl, hR5, hb5⟩))
          refine bodyPost_ret (v := .tuple #[v5, .int .i64 0]) (by simp [results, Tryd.f63, go_sem]) rfl ⟨_, rfl, ?_, hb5⟩
          rw [← HLN.out]
          exact hR5
  · rw [if_neg h0]
    obtain ⟨er, her⟩ : ∃ er, er = valE nodes := ⟨_, rfl⟩
    rw [← her] at hV h0 ⊢
    clear her
    go_enter Tryd.func63, Tryd.ntmps63
    go_wp2_with (go_at_call 21; refine hV.mono ?_; clear hV; rintro e w2 ⟨rfl, hb2⟩; have HB2 := Lib.hid (HB0.out.trans (hb2.mono (by have := HS0.out; omega))); clear hb2)
    exact bodyPost_ret (v := .tuple #[.slice none 0 0, .int .i64 er]) (by simp [results, Tryd.f63, go_sem]) rfl ⟨_, rfl, Kd.R_nil _ _ _ _ _, HB2.out⟩
set_option maxHeartbeats 16000000 in
set_option maxRecDepth 100000 in
theorem col66_calls (nodes : List Nd) (A : Option Addr) (c : Nat) (w : World) (hC : k60.C w A nodes.length nodes) (hc : nodes.length ≤ c) (hI : ∀ n ∈ nodes, I64 n.f0 ∧ I64 n.f1 ∧ n.f2.length ≤ 1073741824) (hroom : (nodes.length + 1) * 40 ≤ 140737488355328) (htab : PowTab w.heap.size w) :
    Calls Tryd.prog 63 #[.agg #[.slice A nodes.length c], .func (.func 66) #[] #[]] w fun e w' => ∃ v, e = .returned (.tuple #[v, .int .i64 (valE nodes)]) ∧ (Kd.int .i64).R 3 w' w.heap.size (fun _ => True) v (if valE nodes = 0 then srtc (nodes.filterMap selV) else []) ∧ Below w.heap.size w w' := by
  have hb0 : Below w.heap.size w (w.alloc (.cells #[.slice A nodes.length c] 31)) := (Below.refl _ w).alloc (Nat.le_refl _) _
  have hV := validate_calls nodes A c (w.alloc (.cells #[.slice A nodes.length c] 31)) (Kd.C_below hC hb0) hc hI hroom (PowTab.up (htab.on hb0) hb0.size) (fun n hn => Nat.le_trans (redL_kids16 nodes n hn) (by decide))
  have hbx0 := heap_alloc_new w (.cells #[.slice A nodes.length c] 31)
  obtain ⟨N, hN⟩ : ∃ N, N = nodes.length := ⟨_, rfl⟩
  rw [← hN] at hV hc hb0 hbx0 ⊢
  have HB0 := Lib.hid hb0
  have HBX0 := Lib.hid hbx0
  have HN := Lib.hid hN
  have HRM := Lib.hid hroom
  have HC := Lib.hid hC
  have HI := Lib.hid hI
  have hs0 : (w.alloc (.cells #[.slice A N c] 31)).heap.size = w.heap.size + 1 := by simp
  have HS0 := Lib.hid hs0
  clear hI hC hroom htab hb0 hbx0 hN hs0
  by_cases h0 : valE nodes = 0
  · rw [if_pos h0, h0]
    rw [h0] at hV
    clear h0
    go_enter Tryd.func63, Tryd.ntmps63
    go_wp2_with (go_at_call 21; refine hV.mono ?_; clear hV; rintro e w2 ⟨rfl, hb2⟩; have HB2 := Lib.hid (HB0.out.trans (hb2.mono (by have := HS0.out; omega))); have hbx2 := (hb2.block _ (by have := HS0.out; omega)).trans HBX0.out; have b2 := blk_cell hbx2 0; have hlt2 := blk_lt hbx2; clear hb2 hbx2)
    go_loopw [7, 20] (fun v i W => ∃ (k : Nat) (vv : Value), vv = v ∧ i = .int .i64 k ∧ k ≤ N ∧ Below w.heap.size w W ∧ (Kd.int .i64).R 3 W w.heap.size (fun _ => True) vv ((nodes.take k).filterMap selV)) (fun _ i _ => N - (intOf i).toNat)
    case atStart => exact ⟨0, _, rfl, rfl, Nat.zero_le _, HB2.out, Kd.R_nil _ _ _ _ _⟩
    case round =>
      obtain ⟨k, vv, rfl, rfl, hk, hB, hR⟩ := hrel
      obtain ⟨Av, cv, rfl⟩ := Kd.R_slice hR
      obtain ⟨L, hL⟩ : ∃ L, L = (nodes.take k).filterMap selV := ⟨_, rfl⟩
      rw [← hL] at hR ⊢
      have hLl : L.length ≤ k := by rw [hL]; have := List.length_filterMap_le selV (nodes.take k); simp at this; omega
      have HR := Lib.hid hR
      have HB := Lib.hid hB
      have HL := Lib.hid hL
      have hsz := hB.size
      clear hR hB hL
      by_cases hlt : k < N
      · have hkn : k < nodes.length := by have := HN.out; omega
        have hnm : nth nodes k ∈ nodes := by rw [nth_lt hkn]; exact List.getElem_mem hkn
        obtain ⟨ad, A2, c2, rfl, d0, d1, d2, l2, g2⟩ := at_T60 (Kd.C_below HC.out HB.out) (k : Int) (by omega) (by omega)
        rw [Int.toNat_natCast] at d0 d1 d2
        rw [rd_nth] at d0 d1 d2 l2 g2
        have hsucc : nodes.take (k + 1) = nodes.take k ++ [nth nodes (k : Int)] := take_snoc' hkn
        obtain ⟨n, hn⟩ : ∃ n, n = nth nodes (k : Int) := ⟨_, rfl⟩
        rw [← hn] at d0 d1 d2 l2 g2 hnm hsucc
        have hkb : k < 4000000000000 := by have := HRM.out; have := HN.out; omega
        have hki : (k : Int) < (N : Int) := by omega
        have hb1 : Below wr.heap.size wr (wr.alloc (.cells #[.int .i64 n.f0, .int .i64 n.f1, .slice A2 n.f2.length c2] 60)) := (Below.refl _ wr).alloc (Nat.le_refl _) _
        have hA := clo66_calls n A2 c2 (wr.alloc (.cells #[.int .i64 n.f0, .int .i64 n.f1, .slice A2 n.f2.length c2] 60))
        have HB1 := Lib.hid hb1
        have HSC := Lib.hid hsucc
        have HNM := Lib.hid hnm
        clear hb1 hsucc hn hnm g2
        by_cases hch : n.f0 < 0
        · have hd : decide (n.f0 < 0) = true := decide_eq_true hch
          have hsel : (nodes.take (k + 1)).filterMap selV = L ++ [n.f1] := by rw [HSC.out, List.filterMap_append, ← HL.out]; simp [selV, hch]
          have HSEL := Lib.hid hsel
          rw [hd] at hA
          clear hd hsel hch
          go_wp2_with (first
            | (go_at_call 66; refine hA.mono ?_; clear hA; rintro e w3 ⟨rfl, hb3⟩; have hb3' := HB1.out.trans (hb3.mono HB1.out.size); have HB3 := Lib.hid hb3'; have HR3 := Lib.hid (Kd.R_below HR.out hb3'); have hs3 := hb3'.size; clear hb3 hb3')
            | (at_builtin; refine Kd.R_append (Kd.int .i64) (w0 := w) (W := w3) w.heap.size rfl (.tmp 31) (.tmp 33) 22 3 (.int .i64 0) 8 rfl Tryd.underlying22 info3 rfl (by decide) (by decide) (.slice Av L.length cv) L (n.f1) [.int .i64 (n.f1)] (fun _ => True) (fun _ => False) (by rfl) (by rfl) rfl (fun _ h => h.elim) (fun j hj => trivial) HR3.out (HB.out.trans (HB3.out.mono hsz)) (by omega) (by omega) ?_; intro v5 w5 hR5 hB5 hg5 hat5; refine Hid.out ?_))
          refine Lib.hid ?_
          have HR5 := Lib.hid hR5
          have HB5 := Lib.hid hB5
          clear hR5 hB5 hg5 hat5
          go_wp2
          go_roundw
          case rel => exact ⟨k + 1, _, rfl, by go_num, hlt, HB5.out, by rw [HSEL.out]; exact HR5.out⟩
          case measure => simp [intOf]; omega
        · have hd : decide (n.f0 < 0) = false := decide_eq_false hch
          have hsel : (nodes.take (k + 1)).filterMap selV = L := by rw [HSC.out, List.filterMap_append, ← HL.out]; simp [selV, hch]
          have HSEL := Lib.hid hsel
          rw [hd] at hA
          clear hd hsel hch
          go_wp2_with (go_at_call 66; refine hA.mono ?_; clear hA; rintro e w3 ⟨rfl, hb3⟩; have hb3' := HB1.out.trans (hb3.mono HB1.out.size); have HB3 := Lib.hid hb3'; have HR3 := Lib.hid (Kd.R_below HR.out hb3'); have hs3 := hb3'.size; clear hb3 hb3')
          go_roundw
          case rel => exact ⟨k + 1, _, rfl, by go_num, hlt, HB.out.trans (HB3.out.mono hsz), by rw [HSEL.out]; exact HR3.out⟩
          case measure => simp [intOf]; omega
      · obtain rfl : N = k := by omega
        have hLn : L = nodes.filterMap selV := by rw [HL.out, List.take_of_length_le (by have := HN.out; omega)]
        have HLN := Lib.hid hLn
        have hLb : L.length < 4611686018427387904 := by have := HRM.out; have := HN.out; omega
        have hown : wr.ownsRow w.heap.size 3 1 (.slice Av L.length cv) L.length (encs (Value.int .i64) L) := Kd.own_of_R HR.out
        clear hLn
        rcases hown.2 with ⟨he, hl0⟩ | ⟨g, cap, cur, he, hg, hh, _⟩
        · injection he with e1 e2 e3
          obtain rfl : L = [] := List.length_eq_zero_iff.1 e2
          subst e1
          subst e3
          have hS := Any.slices_Sort_int_none Tryd.lays189 none 0 wr
          have hK := Tryd.slices_Compact_int_empty none 0 wr
          clear hown
          go_wp2_with (first
            | (go_at_call 75; refine hS.mono ?_; rintro e w4 ⟨rfl, rfl⟩)
            | (go_at_call 76; refine hK.mono ?_; rintro e w5 ⟨rfl, rfl⟩))
          refine bodyPost_ret (v := .tuple #[.slice none 0 0, .int .i64 0]) (by simp [results, Tryd.f63, go_sem]) rfl ⟨_, rfl, ?_, HB.out⟩
          rw [← HLN.out, show srtc [] = [] from by simp [srtc, srt, Lib.compact, Lib.compactUpTo]]
          exact Kd.R_nil _ _ _ _ _
        · injection he with e1 _ e3
          subst e1
          subst e3
          obtain ⟨hH, hgl, hcap, _⟩ := own_holds hown
          have hS := Tryd.slices_Sort_int g 0 cv L wr hH hgl hLb
          have hsl := srt_len L
          have HOWN := Lib.hid hown
          have HSL := Lib.hid hsl
          have hK : ∀ (q : Nat) (os : Array Obj), Calls Tryd.prog 76 #[.slice (some ⟨g, 0, none⟩) L.length cv] (Sort.grow (Sort.putRow (Value.int .i64) (Sort.ahead wr q) g 0 (srt L).toArray) os) fun e w' => ∃ v, e = .returned v ∧ (Kd.int .i64).R 3 w' w.heap.size (fun _ => True) v (srtc L) ∧ Below w.heap.size w w' := by
            intro q os
            have h1 := put_own HOWN.out HSL.out q os
            have h1' := h1
            rw [← HSL.out] at h1'
            obtain ⟨k1, k2, k3, k4⟩ := own_holds h1'
            have h2 := Tryd.slices_Compact_int g 0 cv (srt L) _ k1 (by rw [HSL.out]; omega) k3
            rw [HSL.out] at h2
            refine h2.mono ?_
            rintro e w5 ⟨rfl, q2, rfl⟩
            have hcl : (Lib.compact (srt L)).length ≤ L.length := by rw [← HSL.out]; exact Lib.compact_length_le _
            have h3 := put_own (ys := Lib.compact (srt L) ++ List.replicate (L.length - (Lib.compact (srt L)).length) 0) h1' (by rw [HSL.out]; simp; omega) q2 #[]
            rw [HSL.out, Sort.grow_empty] at h3
            have h4 := own_take (m := (Lib.compact (srt L)).length) h3 hcl
            refine ⟨_, rfl, Kd.R_of_own ?_ (fun _ _ => trivial), ?_⟩
            · have e : (encs (Value.int .i64) (Lib.compact (srt L) ++ List.replicate (L.length - (Lib.compact (srt L)).length) 0)).take ((Lib.compact (srt L)).length * 1) = encs (Value.int .i64) (Lib.compact (srt L)) := by
                rw [encs_append, List.take_append_of_le_length (by simp [encs]), List.take_of_length_le (by simp [encs])]
              rw [e] at h4
              exact h4
            · have h5 := put_below (q := q) (ys := srt L) (os := os) HB.out hg
              have h6 := put_below (q := q2) (ys := Lib.compact (srt L) ++ List.replicate (L.length - (Lib.compact (srt L)).length) 0) (os := #[]) h5 hg
              rwa [Sort.grow_empty] at h6
          have HK := Lib.hid hK
          clear hown hH hsl hK hh hgl
          go_wp2_with (first
            | (go_at_call 75; refine hS.mono ?_; clear hS; rintro e w4 ⟨rfl, q4, os4, rfl⟩)
            | (go_at_call 76; refine (HK.out _ _).mono ?_; rintro e w5 ⟨v5, rfl, hR5, hb5⟩))
          refine bodyPost_ret (v := .tuple #[v5, .int .i64 0]) (by simp [results, Tryd.f63, go_sem]) rfl ⟨_, rfl, ?_, hb5⟩
          rw [← HLN.out]
          exact hR5
  · rw [if_neg h0]
    obtain ⟨er, her⟩ : ∃ er, er = valE nodes := ⟨_, rfl⟩
    rw [← her] at hV h0 ⊢
    clear her
    go_enter Tryd.func63, Tryd.ntmps63
    go_wp2_with (go_at_call 21; refine hV.mono ?_; clear hV; rintro e w2 ⟨rfl, hb2⟩; have HB2 := Lib.hid (HB0.out.trans (hb2.mono (by have := HS0.out; omega))); clear hb2)
    exact bodyPost_ret (v := .tuple #[.slice none 0 0, .int .i64 er]) (by simp [results, Tryd.f63, go_sem]) rfl ⟨_, rfl, Kd.R_nil _ _ _ _ _, HB2.out⟩
end Go.Proofs.YtopbjginpmdebaaDoor.K
-- the contracts of diagram.Sites and diagram.Values, in the form that the printed texts call them
namespace Go.Proofs.YtopbjginpmdebaaDoor.K
open Go.RowKit Go.Maps Go.Proofs.YtopbjginpmdebaaDoorW.PrintWords Go.Proofs.YtopbjginpmdebaaDoorW.PrintLast Go.Proofs.YtopbjginpmdebaaDoorW.PrintMore
set_option linter.unusedVariables false
set_option linter.unusedSimpArgs false
def siL (l : List Nd) : List Int := if valE l = 0 then srtc (l.filterMap selS) else []
def diagram_Sites.f (l : List S60) : Option (List Int × Int) := if ndOk l = true then some (siL l, valE l) else none
set_option maxHeartbeats 8000000 in
set_option maxRecDepth 100000 in
theorem diagram_Sites.calls (A : Option Addr) (c : Nat) (l : List S60) (r1 : List Int) (r2 : Int) (w : World) (hr : Kd.C k60 w A l.length l) (hc : l.length ≤ c) (h : diagram_Sites.f l = some (r1, r2)) (htab : PowTab w.heap.size w) :
    Calls Tryd.prog 37 #[.agg #[.slice A l.length c]] w fun e w' => ∃ v0_ : Value, e = .returned (.tuple #[v0_, .int .i64 r2]) ∧ Kd.R (Kd.int .i64) 3 w' w.heap.size (fun _ => True) v0_ r1 ∧ Below w.heap.size w w' := by
  unfold diagram_Sites.f at h
  by_cases hk : ndOk l = true
  · rw [if_pos hk] at h
    simp only [Option.some.injEq, Prod.mk.injEq] at h
    obtain ⟨h1, h2⟩ := h
    have hb0 : Below w.heap.size w (w.alloc (.cells #[.slice A l.length c] 31)) := (Below.refl _ w).alloc (Nat.le_refl _) _
    have hA := (col64_calls l A c (w.alloc (.cells #[.slice A l.length c] 31)) (Kd.C_below hr hb0) hc (ndOk_I hk) (ndOk_room hk) (PowTab.up (htab.on hb0) hb0.size)).mono (R' := fun e w' => ∃ v, e = .returned (.tuple #[v, .int .i64 r2]) ∧ Kd.R (Kd.int .i64) 3 w' w.heap.size (fun _ => True) v r1 ∧ Below w.heap.size w w') (by
      rintro e w' ⟨v, rfl, hR, hB⟩
      refine ⟨v, by rw [h2], ?_, hb0.trans (hB.mono hb0.size)⟩
      rw [← h1]
      exact Kd.R_lower hR hb0.size)
    obtain ⟨N, hN⟩ : ∃ N, N = l.length := ⟨_, rfl⟩
    rw [← hN] at hA ⊢
    clear hr hc htab hb0 hk h1 h2 hN
    go_enter Tryd.func37, Tryd.ntmps37
    go_wp2_with (go_at_call 63; refine hA.mono ?_; clear hA; rintro e w2 ⟨v, rfl, hR, hB⟩)
    exact bodyPost_ret (v := .tuple #[v, .int .i64 r2]) (by simp [results, Tryd.f37, go_sem]) rfl ⟨v, rfl, hR, hB⟩
  · rw [if_neg hk] at h; cases h
def vaL (l : List Nd) : List Int := if valE l = 0 then srtc (l.filterMap selV) else []
def diagram_Values.f (l : List S60) : Option (List Int × Int) := if ndOk l = true then some (vaL l, valE l) else none
set_option maxHeartbeats 8000000 in
set_option maxRecDepth 100000 in
theorem diagram_Values.calls (A : Option Addr) (c : Nat) (l : List S60) (r1 : List Int) (r2 : Int) (w : World) (hr : Kd.C k60 w A l.length l) (hc : l.length ≤ c) (h : diagram_Values.f l = some (r1, r2)) (htab : PowTab w.heap.size w) :
    Calls Tryd.prog 39 #[.agg #[.slice A l.length c]] w fun e w' => ∃ v0_ : Value, e = .returned (.tuple #[v0_, .int .i64 r2]) ∧ Kd.R (Kd.int .i64) 3 w' w.heap.size (fun _ => True) v0_ r1 ∧ Below w.heap.size w w' := by
  unfold diagram_Values.f at h
  by_cases hk : ndOk l = true
  · rw [if_pos hk] at h
    simp only [Option.some.injEq, Prod.mk.injEq] at h
    obtain ⟨h1, h2⟩ := h
    have hb0 : Below w.heap.size w (w.alloc (.cells #[.slice A l.length c] 31)) := (Below.refl _ w).alloc (Nat.le_refl _) _
    have hA := (col66_calls l A c (w.alloc (.cells #[.slice A l.length c] 31)) (Kd.C_below hr hb0) hc (ndOk_I hk) (ndOk_room hk) (PowTab.up (htab.on hb0) hb0.size)).mono (R' := fun e w' => ∃ v, e = .returned (.tuple #[v, .int .i64 r2]) ∧ Kd.R (Kd.int .i64) 3 w' w.heap.size (fun _ => True) v r1 ∧ Below w.heap.size w w') (by
      rintro e w' ⟨v, rfl, hR, hB⟩
      refine ⟨v, by rw [h2], ?_, hb0.trans (hB.mono hb0.size)⟩
      rw [← h1]
      exact Kd.R_lower hR hb0.size)
    obtain ⟨N, hN⟩ : ∃ N, N = l.length := ⟨_, rfl⟩
    rw [← hN] at hA ⊢
    clear hr hc htab hb0 hk h1 h2 hN
    go_enter Tryd.func39, Tryd.ntmps39
    go_wp2_with (go_at_call 63; refine hA.mono ?_; clear hA; rintro e w2 ⟨v, rfl, hR, hB⟩)
    exact bodyPost_ret (v := .tuple #[v, .int .i64 r2]) (by simp [results, Tryd.f39, go_sem]) rfl ⟨v, rfl, hR, hB⟩
  · rw [if_neg hk] at h; cases h
end Go.Proofs.YtopbjginpmdebaaDoor.K
-- diagrams that are made: restricted, evaluated, their sites
namespace Go.Proofs.YtopbjginpmdebaaDoor.K
open Go.RowKit Go.Maps Go.Proofs.YtopbjginpmdebaaDoorW.PrintWords Go.Proofs.YtopbjginpmdebaaDoorW.PrintLast Go.Proofs.YtopbjginpmdebaaDoorW.PrintMore
set_option linter.unusedVariables false
set_option linter.unusedSimpArgs false
theorem wd_pos (s : Int) : 0 < wd s := by unfold wd; omega
theorem wd_23 (s : Int) : wd s = 2 ∨ wd s = 3 := by unfold wd; omega
theorem Dg.val {lo hi : Int} {d : List Nd} (h : Dg lo hi 6 d) : valE d = 0 := (val_of h.gr (can_cn h.gr h.can) (by have := h.len'; omega)).1
/-- restricted -/
theorem Dg.rs {lo hi : Int} {d : List Nd} (h : Dg lo hi 6 d) {s : Int} {oc : Nat} (hoc : oc < wd s) :
    rsE s oc d = 0 ∧ rsL s oc d = fxR s oc d ∧ Dg lo hi 6 (fxR s oc d) ∧ AllF (fun x => x ≠ s) (fxR s oc d) ∧ (∀ Q : Int → Prop, AllF Q d → AllF (fun x => Q x ∧ x ≠ s) (fxR s oc d)) ∧ ∀ σ, Val wd σ → vl (fxR s oc d) σ = vl d (setA σ s oc) := by
  have hp := gr_pos h.gr
  obtain ⟨h1, h2, h3, h4, h5, h6⟩ := fxR_ok h.shp hp hoc
  have ho : ocB s oc d = true := ocB_iff.2 (fun n hn h1 h2 => ⟨by omega, by rw [h.shp.len n hn h1, h2]; omega⟩)
  have hv := h.val
  refine ⟨by unfold rsE; rw [if_pos hv, if_pos ho], by unfold rsL; rw [if_pos hv, if_pos ho], ⟨h1, h2, h3, Nat.le_trans h4 h.len, fun n hn h0 => (h5 _ h.all n hn h0).1⟩, fun n hn h0 => (h5 (fun _ => True) (fun _ _ _ => trivial) n hn h0).2, h5, h6⟩
theorem Dg.unique {lo hi : Int} {a b : List Nd} (ha : Dg lo hi 6 a) (hb : Dg lo hi 6 b) (h : ∀ σ, Val wd σ → vl a σ = vl b σ) : a = b := dg_unique wd_pos ha.shp hb.shp ha.can hb.can h
/-- an assignment that is made -/
structure Asg (o : List Int) (n : Int) : Prop where
  len : (o.length : Int) = n
  ok : ∀ i : Nat, (i : Int) < n → 0 ≤ rd o (i : Int) ∧ rd o (i : Int) < wd i
theorem Asg.at {o : List Int} {n : Int} (h : Asg o n) {x : Int} (h0 : 0 ≤ x) (h1 : x < n) : 0 ≤ rd o x ∧ rd o x < wd x := by
  have := h.ok x.toNat (by omega)
  rwa [Int.toNat_of_nonneg h0] at this
theorem rd_out {l : List Int} {x : Int} (h : (l.length : Int) ≤ x) : rd l x = 0 := by
  unfold rd
  rw [List.getD_eq_getElem?_getD, List.getElem?_eq_none (by omega)]; rfl
theorem Asg.val {o : List Int} {n : Int} (h : Asg o n) (hn : 0 ≤ n) : Val wd (sg o) := by
  intro s
  unfold sg
  rcases Int.lt_or_le s n with h1 | h1
  · rcases Int.lt_or_le s 0 with h0 | h0
    · rcases Int.lt_or_le 0 n with h2 | h2
      · have h3 := h.at (x := 0) (Int.le_refl _) h2
        have e : rd o s = rd o 0 := by unfold rd; rw [show s.toNat = 0 by omega]; rfl
        have h4 : wd 0 = 2 := rfl
        have h5 := wd_23 s
        rw [e]; omega
      · have e : rd o s = 0 := by
          unfold rd
          have := h.len
          rw [List.getD_eq_getElem?_getD, List.getElem?_eq_none (by omega)]; rfl
        have := wd_pos s
        rw [e]; omega
    · have := h.at h0 h1
      omega
  · have := wd_pos s
    rw [rd_out (by have := h.len; omega)]; omega
theorem Dg.ev {lo hi : Int} {d : List Nd} (h : Dg lo hi 6 d) (hlo : 0 ≤ lo) {o : List Int} {n : Int} (ho : Asg o n) (hn : hi < n) : evR d o = (vl d (sg o), 0) :=
  evR_vl h.shp h.val o (fun m hm h0 => by
    have h1 := h.all m hm h0
    have h2 := ho.at h0 (by omega)
    exact ⟨by have := ho.len; omega, h2.1, h2.2⟩)
/-- which sites -/
theorem siL_mem {d : List Nd} (hv : valE d = 0) (x : Int) : x ∈ siL d ↔ ∃ n ∈ d, 0 ≤ n.f0 ∧ n.f0 = x := by
  unfold siL
  rw [if_pos hv]
  have h2 := (compact_spec (srt (d.filterMap selS)) (srt_le _)).2 x
  unfold srtc
  rw [h2, srt_mem, List.mem_filterMap]
  constructor
  · rintro ⟨n, hn, e⟩
    unfold selS at e
    split at e
    · exact ⟨n, hn, by assumption, by injection e⟩
    · cases e
  · rintro ⟨n, hn, h0, rfl⟩
    exact ⟨n, hn, by unfold selS; rw [if_pos h0]⟩
theorem siL_asc {d : List Nd} (hv : valE d = 0) : (siL d).Pairwise (· < ·) := by
  unfold siL
  rw [if_pos hv]
  exact (compact_spec (srt (d.filterMap selS)) (srt_le _)).1
theorem setA_self (σ : Int → Nat) (s : Int) : setA σ s (σ s) = σ := by
  funext x
  unfold setA
  split
  · rename_i e; rw [e]
  · rfl
theorem Dg.small {lo hi : Int} {d : List Nd} (h : Dg lo hi 6 d) : d.length ≤ 1093 ∧ ∀ n ∈ d, n.f2.length ≤ 16 := ⟨h.len', gr_kids h.gr⟩
end Go.Proofs.YtopbjginpmdebaaDoor.K
-- the plain law of DiagramUnique
namespace Go.Proofs.YtopbjginpmdebaaDoor.Pure
open Go.RowKit Go.Proofs.YtopbjginpmdebaaDoor.K Go.Proofs.YtopbjginpmdebaaDoorW.PrintWords Go.Proofs.YtopbjginpmdebaaDoorW.PrintLast
/-- all assignments for three sites -/
def all3 : List (List Int) := [[0, 0, 0], [0, 0, 1], [0, 1, 0], [0, 1, 1], [0, 2, 0], [0, 2, 1], [1, 0, 0], [1, 0, 1], [1, 1, 0], [1, 1, 1], [1, 2, 0], [1, 2, 1]]
theorem all3_f : exactppllaw19_assignments.f 60 3 = some all3 := by kernel_rfl
theorem all3_mem {a b c : Nat} (ha : a < 2) (hb : b < 3) (hc : c < 2) : ([(a : Int), (b : Int), (c : Int)] : List Int) ∈ all3 := by
  have h1 : a = 0 ∨ a = 1 := by omega
  have h2 : b = 0 ∨ b = 1 ∨ b = 2 := by omega
  have h3 : c = 0 ∨ c = 1 := by omega
  rcases h1 with rfl | rfl <;> rcases h2 with rfl | rfl | rfl <;> rcases h3 with rfl | rfl <;> decide
theorem all3_asg : ∀ o ∈ all3, Asg o 3 := by
  intro o ho
  have key : ∃ a b c : Int, o = [a, b, c] ∧ 0 ≤ a ∧ a < 2 ∧ 0 ≤ b ∧ b < 3 ∧ 0 ≤ c ∧ c < 2 := by
    simp only [all3, List.mem_cons, List.not_mem_nil, or_false] at ho
    rcases ho with rfl | rfl | rfl | rfl | rfl | rfl | rfl | rfl | rfl | rfl | rfl | rfl <;> exact ⟨_, _, _, rfl, by omega, by omega, by omega, by omega, by omega, by omega⟩
  obtain ⟨a, b, c, rfl, h1, h2, h3, h4, h5, h6⟩ := key
  refine ⟨rfl, fun i hi => ?_⟩
  have : i = 0 ∨ i = 1 ∨ i = 2 := by omega
  rcases this with rfl | rfl | rfl
  · exact ⟨h1, by show a < ((wd 0 : Nat) : Int); have : wd 0 = 2 := rfl; omega⟩
  · exact ⟨h3, by show b < ((wd 1 : Nat) : Int); have : wd 1 = 3 := rfl; omega⟩
  · exact ⟨h5, by show c < ((wd 2 : Nat) : Int); have : wd 2 = 2 := rfl; omega⟩
/-- a canonical diagram over three sites -/
structure D3 (d : List Nd) : Prop where
  gr : grB d = true
  shp : GrS wd d
  can : K.Can d
  len : d.length ≤ 20000
  all : AllF (fun x => 0 ≤ x ∧ x ≤ 2) d
theorem D3.of {lo : Int} {d : List Nd} (h : Dg lo 2 6 d) (hl : 0 ≤ lo) : D3 d := ⟨h.gr, h.shp, h.can, by have := h.len'; omega, fun n hn h0 => by have := h.all n hn h0; omega⟩
theorem D3.val {d : List Nd} (h : D3 d) : valE d = 0 := (val_of h.gr (can_cn h.gr h.can) h.len).1
theorem D3.ok {d : List Nd} (h : D3 d) : ndOk d = true := gr_ok h.gr (by have := h.len; omega)
theorem D3.ev {d : List Nd} (h : D3 d) {o : List Int} (ho : Asg o 3) : evR d o = (vl d (sg o), 0) :=
  evR_vl h.shp h.val o (fun m hm h0 => by
    have h1 := h.all m hm h0
    have h2 := ho.at h0 (by omega)
    exact ⟨by have := ho.len; omega, h2.1, h2.2⟩)
/-- the same values: the same diagram -/
theorem D3.eq {a b : List Nd} (ha : D3 a) (hb : D3 b) (h : ∀ o ∈ all3, vl a (sg o) = vl b (sg o)) : a = b := by
  refine dg_unique wd_pos ha.shp hb.shp ha.can hb.can fun σ hσ => ?_
  have hm := h _ (all3_mem (a := σ 0) (b := σ 1) (c := σ 2) (hσ 0) (hσ 1) (hσ 2))
  have key : ∀ d, D3 d → vl d σ = vl d (sg [((σ 0 : Nat) : Int), ((σ 1 : Nat) : Int), ((σ 2 : Nat) : Int)]) := by
    intro d hd
    refine vl_congr hd.shp.fit (gr_pos hd.gr) fun n hn h0 => ?_
    have h1 := hd.all n hn h0
    have h2 : n.f0 = 0 ∨ n.f0 = 1 ∨ n.f0 = 2 := by omega
    rcases h2 with h2 | h2 | h2 <;> rw [h2] <;> simp [sg, rd]
  rw [key a ha, key b hb, hm]
theorem rdL_get {l : List (List Int)} {j : Nat} (h : j < l.length) : rd_L1 l (j : Int) = l[j] := by
  unfold rd_L1
  rw [Int.toNat_natCast, List.getD_eq_getElem?_getD, List.getElem?_eq_getElem h]; rfl
/-- the values so far are the same -/
def sameF (a b : List Nd) (l : List (List Int)) : Bool := l.all fun o => decide (vl a (sg o) = vl b (sg o))
theorem un_l0 {a b : List Nd} (ha : D3 a) (hb : D3 b) : ∀ (m j : Nat), all3.length - j ≤ m → j ≤ all3.length → ∃ K, ∀ k, K ≤ k → exactppllaw19_DiagramUnique.l0 k (sameF a b (all3.take j)) all3 (j : Int) a b = some true := by
  intro m
  have hlen : all3.length = 12 := rfl
  have hend : ∃ K, ∀ k, K ≤ k → exactppllaw19_DiagramUnique.l0 k (sameF a b (all3.take 12)) all3 ((12 : Nat) : Int) a b = some true := by
    have hal := ha.len
    have hka := gr_kids ha.gr
    refine ⟨2000000000 + 1, fun k hk => ?_⟩
    obtain ⟨k, rfl⟩ : ∃ k', k = k' + 1 := ⟨k - 1, by omega⟩
    have hs : sameF a b (all3.take 12) = decide (a = b) := by
      rw [show all3.take 12 = all3 from rfl]
      by_cases hab : a = b
      · rw [decide_eq_true hab, hab]
        unfold sameF
        exact List.all_eq_true.2 fun o _ => decide_eq_true rfl
      · rw [decide_eq_false hab]
        refine Bool.eq_false_iff.2 fun hc => hab (ha.eq hb fun o ho => ?_)
        exact of_decide_eq_true (List.all_eq_true.1 hc o ho)
    simp only [exactppllaw19_DiagramUnique.l0]
    rw [if_neg (by rw [hlen]; omega), same_f _ _ (by omega) 1073741824 (by decide) (fun n hn => Nat.le_trans (hka n hn) (by decide)) k (by omega), Option.bind_some, hs, if_pos (by simp)]
    rfl
  induction m with
  | zero =>
    intro j g1 g2
    obtain rfl : j = 12 := by omega
    exact hend
  | succ m ih =>
    intro j g1 g2
    by_cases hj : j < all3.length
    · obtain ⟨K, hK⟩ := ih (j + 1) (by omega) (by omega)
      have hm := List.getElem_mem hj
      have ho := all3_asg _ hm
      have hol := ho.len
      have hsucc : sameF a b (all3.take (j + 1)) = (sameF a b (all3.take j) && decide (vl a (sg all3[j]) = vl b (sg all3[j]))) := by
        unfold sameF
        rw [List.take_succ_eq_append_getElem hj, List.all_append]
        simp
      refine ⟨K + 1, fun k hk => ?_⟩
      obtain ⟨k, rfl⟩ : ∃ k', k = k' + 1 := ⟨k - 1, by omega⟩
      have hK' := hK k (by omega)
      rw [hsucc] at hK'
      simp only [exactppllaw19_DiagramUnique.l0]
      rw [if_pos (by omega), if_pos (by omega), rdL_get hj, diagram_Eval.f, if_pos ha.ok, if_pos (by omega), ha.ev ho, Option.bind_some, diagram_Eval.f, if_pos hb.ok, if_pos (by omega), hb.ev ho, Option.bind_some]
      simp only
      rw [if_pos trivial, if_pos trivial, w64_succ (by omega)]
      cases hs : sameF a b (all3.take j) with
      | true =>
        rw [if_pos rfl]
        rw [hs, Bool.true_and] at hK'
        rw [show ((vl a (sg all3[j]) == vl b (sg all3[j])) : Bool) = decide (vl a (sg all3[j]) = vl b (sg all3[j])) from rfl]
        exact hK'
      | false =>
        rw [if_neg (by decide)]
        rw [hs, Bool.false_and] at hK'
        exact hK'
    · obtain rfl : j = 12 := by omega
      exact hend
theorem un_j0 {a b : List Nd} (ha : D3 a) (hb : D3 b) : ∃ K, ∀ k, K ≤ k → exactppllaw19_DiagramUnique.j0 k a b = some true := by
  obtain ⟨K, hK⟩ := un_l0 ha hb 12 0 (by decide) (by decide)
  refine ⟨K + 60 + 1, fun k hk => ?_⟩
  obtain ⟨k, rfl⟩ : ∃ k', k = k' + 1 := ⟨k - 1, by omega⟩
  simp only [exactppllaw19_DiagramUnique.j0]
  rw [mono_le (f := fun k => exactppllaw19_assignments.f k 3) (fun k => exactppllaw19_assignments.mono _ k) (show 60 ≤ k by omega) all3_f, Option.bind_some]
  exact hK k (by omega)
/-- the branch of a diagram and itself -/
theorem twice {x : List Nd} (h : Dg 1 2 6 x) : dsOk 0 [⟨x⟩, ⟨x⟩] = true ∧ brE 0 [⟨x⟩, ⟨x⟩] = 0 ∧ D3 (brL 0 [⟨x⟩, ⟨x⟩]) := by
  have hl := h.len'
  have hd : ∀ d ∈ ([⟨x⟩, ⟨x⟩] : List S31), d = ⟨x⟩ := by simp
  have hsum : sumL ([⟨x⟩, ⟨x⟩] : List S31) = x.length + x.length := by simp [sumL]
  have hlow : AllF (fun y => (0 : Int) < y) x := fun n hn h0 => by have := h.all n hn h0; omega
  obtain ⟨h1, h2⟩ := brE_of (sh := wd) (site := 0) (ds := [⟨x⟩, ⟨x⟩]) ⟨by omega, by omega⟩ rfl (by simp) (by simp) (fun d hd' => by rw [hd d hd']; exact ⟨h.val, h.shp, hlow⟩) (by rw [hsum]; omega)
  have hdd : ∀ d ∈ ([⟨x⟩, ⟨x⟩] : List S31), GrS wd d.f0 ∧ d.f0 ≠ [] ∧ AllF (fun y => (0 : Int) < y) d.f0 := fun d hd' => by rw [hd d hd']; exact ⟨h.shp, gr_ne h.gr, hlow⟩
  have hj := jn_ok hdd ⟨by omega, by omega⟩ (by simp) rfl (by simp)
  have ht := jn_tb hdd ⟨by omega, by omega⟩ (by simp) rfl (by simp)
  refine ⟨dsOk_iff.2 ⟨fun d hd' => by rw [hd d hd']; exact h.ok, by omega, by omega, by rw [hsum]; omega, by simp⟩, h1, ?_⟩
  rw [h2]
  refine ⟨hj.2.1, hj.1, hj.2.2.1, by have := hj.2.2.2; rw [hsum] at this; omega, ?_⟩
  exact jn_all (fun d hd' n hn h0 => by rw [hd d hd'] at hn; have := h.all n hn h0; omega) ⟨by omega, by omega⟩ ht.1.red.down ht.2.1
theorem DiagramUnique : exactppllaw19_DiagramUnique.Pure := by
  intro l _ _ hw
  obtain ⟨L, e1, h1⟩ := new_f l (wf_of hw)
  obtain ⟨K1, a, a1, e2, ha, h2⟩ := diag_f h1 0 0 2 (by omega) (by omega)
  obtain ⟨K2, b, a2, e3, hb, h3⟩ := diag_f h2 0 0 2 (by omega) (by omega)
  obtain ⟨x, a3, e4, hx, h4⟩ := n_f h3 0 3 (by omega) (by omega)
  obtain ⟨K3, c, a4, e5, hc, h5⟩ := diag_f h4 0 1 2 (by omega) (by omega)
  obtain ⟨y, a5, e6, hy, h6⟩ := n_f h5 0 2 (by omega) (by omega)
  obtain ⟨t1, t2, t3⟩ := twice hc
  obtain ⟨J1, hJ1⟩ := un_j0 (D3.of ha (Int.le_refl _)) (D3.of hb (Int.le_refl _))
  obtain ⟨J2, hJ2⟩ := un_j0 t3 t3
  obtain ⟨J3, hJ3⟩ := un_j0 t3 (D3.of hc (by omega))
  refine ⟨K1 + K2 + K3 + J1 + J2 + J3, ?_⟩
  unfold exactppllaw19_DiagramUnique.f
  rw [e1, Option.bind_some]
  simp only
  rw [e2 _ (by omega), Option.bind_some]
  simp only
  rw [e3 _ (by omega), Option.bind_some]
  simp only
  rw [e4, Option.bind_some]
  simp only
  by_cases h0 : x = 0
  · rw [if_pos h0, e5 _ (by omega), Option.bind_some]
    simp only
    rw [e6, Option.bind_some]
    simp only
    rw [diagram_Branch.f, if_pos t1, Option.bind_some]
    simp only
    by_cases h7 : y = 0
    · rw [if_pos h7, Option.bind_some]
      exact hJ2 _ (by omega)
    · rw [if_neg h7]
      exact hJ3 _ (by omega)
  · rw [if_neg h0]
    exact hJ1 _ (by omega)
end Go.Proofs.YtopbjginpmdebaaDoor.Pure
namespace Go.Proofs.YtopbjginpmdebaaDoorW.PrintWords
open Go.ChangeShapes Go.WideShapes
theorem sized_ints {H : Type} {enc : TypeId × Value → H} {P : Program} {W : World} {base : Nat} {spare : Nat → Bool} {held : Bool} {t e : TypeId} {k : IntKind} {a : Option Addr} {len cap : Nat} {d : DataW H} {ps : List MemPlace} {ts : List TypeId} {ds : List (DataW H)} {j : Nat}
    (hsz : (DataW.weightsEach P ts ds).all (· ≤ reachBytes) = true) (ht : ts[j]? = some t) (hd : ds[j]? = some d) (hu : P.underlying t = some (.slice e)) (he : P.underlying e = some (.int k)) (hc : P.cellsOf e = 1) {B : Nat} (hB : P.bytesOf e = B)
    (h : DataW.Trod enc P W base spare held t (.slice a len cap) d ps) : len * B ≤ 140737488351232 := by
  obtain ⟨fuel, hf⟩ := h
  rcases open_ints hu he hc hf with ⟨hcs, _⟩ | ⟨x, l, c, zs, hcs, _, hl, _, hz, hx, _, _⟩
  · simp [Value.cells] at hcs
    obtain ⟨rfl, rfl, rfl⟩ := hcs
    simp
  · simp [Value.cells] at hcs
    obtain ⟨rfl, rfl, rfl⟩ := hcs
    obtain ⟨hx, _⟩ := Prod.mk.inj hx
    subst hx
    have z := sized_slice hsz ht hd hu
    rw [hB] at z
    have hl2 : len ≤ zs.length := by
      rw [hz]
      split
      · exact hl
      · exact Nat.le_refl _
    have h1 : (lits (H := H) k (zs.take len)).length + (lits (H := H) k (zs.drop len)).length = zs.length := by
      simp [lits]
      omega
    rw [h1] at z
    exact Nat.le_trans (Nat.mul_le_mul_right _ hl2) z
end Go.Proofs.YtopbjginpmdebaaDoorW.PrintWords
