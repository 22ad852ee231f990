-- By a program of this session
import Derived.Test.YtggelekooacmnaaDoorC0
import Derived.Test.YtggelekooacmnaaDoorC1
import Derived.Test.YtggelekooacmnaaDoorC4
import Derived.Test.YtggelekooacmnaaDoorC5
import Derived.Test.YtggelekooacmnaaDoorC6
import Derived.Test.YtggelekooacmnaaDoorC8
import Derived.Test.YtggelekooacmnaaDoorC12
import Derived.Test.YtggelekooacmnaaDoorC9
namespace Go.Proofs.YtggelekooacmnaaDoor.R
open Go.RowKit Go.Proofs.YtggelekooacmnaaDoorW.PrintWords Go.Proofs.YtggelekooacmnaaDoorW.PrintLast Go.Proofs.YtggelekooacmnaaDoorW.PrintMore
attribute [local go_sem] max2_int min2_int max_two min_two max_three min_three max_four min_four   -- for this text's walks alone
set_option linter.unusedVariables false
set_option linter.unusedSimpArgs false

attribute [local go_sem high] eqA41
/-! ### exactppllaw06_TypesSizes: function 4 -/
mutual
def exactppllaw06_TypesSizes.j0 : Nat → Int → Int → Int → Int → Int → Int → Bool → Option (Bool)
 | 0, _, _, _, _, _, _, _ => none
 | k + 1, x7, x9, x11, x13, x15, x16, x79 => if x79 = true then (some false) else (exactppllaw06_TypesSizes.l0 k x7 x9 x11 x13 x15 x16 1 1 0)
def exactppllaw06_TypesSizes.l0 : Nat → Int → Int → Int → Int → Int → Int → Int → Int → Int → Option (Bool)
 | 0, _, _, _, _, _, _, _, _, _ => none
 | k + 1, x7, x9, x11, x13, x15, x16, x18, x19, x20 => if x20 < x15 then (exactppllaw06_TypesSizes.l0 k x7 x9 x11 x13 x15 x16 (wrap64 (x18 + (wrap64 (x19 * x11)))) (wrap64 (x19 * x11)) (wrap64 (x20 + 1))) else (if x13 = (wrap64 (x7 * x9)) then (if x16 = x18 then ((exactppllaw06_awake.f k).bind fun t339 => (some t339)) else (some false)) else (some false))
end
def exactppllaw06_TypesSizes.f (k : Nat) (l0 : List Int) : Option (Bool) := (exactpplmake_New.f l0).bind fun bt286 => ((exactpplmake_Src_Type.f k bt286.1 bt286.2.1 bt286.2.2 1).bind fun bt290 => ((exactpplmake_Src_Type.f k bt286.1 bt290.2.2.2.2.2.1 bt290.2.2.2.2.2.2 2).bind fun bt299 => ((exactpplmake_Src_Type.f k bt286.1 bt299.2.2.2.2.2.1 bt299.2.2.2.2.2.2 1).bind fun bt308 => ((types_Size.f k bt290.1 bt290.2.1 bt290.2.2.1 bt290.2.2.2.1 bt290.2.2.2.2.1).bind fun bt320 => ((types_Size.f k bt299.1 bt299.2.1 bt299.2.2.1 bt299.2.2.2.1 bt299.2.2.2.2.1).bind fun bt322 => ((types_Size.f k bt308.1 bt308.2.1 bt308.2.2.1 bt308.2.2.2.1 bt308.2.2.2.2.1).bind fun bt324 => ((types_Size.f k 5 0 0 0 (([(⟨bt290.1, bt290.2.1, bt290.2.2.1, bt290.2.2.2.1, bt290.2.2.2.2.1⟩ : S24), (⟨bt299.1, bt299.2.1, bt299.2.2.1, bt299.2.2.2.1, bt299.2.2.2.2.1⟩ : S24)] : List (S24)))).bind fun bt329 => ((exactpplmake_Src_Range.f bt286.1 bt308.2.2.2.2.2.1 bt308.2.2.2.2.2.2 1 4).bind fun bt331 => ((types_Size.f k 6 0 0 bt331.1 (([(⟨bt308.1, bt308.2.1, bt308.2.2.1, bt308.2.2.2.1, bt308.2.2.2.2.1⟩ : S24)] : List (S24)))).bind fun bt337 => (if bt320.2 = 0 then (if bt322.2 = 0 then (if bt324.2 = 0 then (if bt329.2 = 0 then (exactppllaw06_TypesSizes.j0 k bt320.1 bt322.1 bt324.1 bt329.1 bt331.1 bt337.1 (bt337.2 != 0)) else (exactppllaw06_TypesSizes.j0 k bt320.1 bt322.1 bt324.1 bt329.1 bt331.1 bt337.1 true)) else (exactppllaw06_TypesSizes.j0 k bt320.1 bt322.1 bt324.1 bt329.1 bt331.1 bt337.1 true)) else (exactppllaw06_TypesSizes.j0 k bt320.1 bt322.1 bt324.1 bt329.1 bt331.1 bt337.1 true)) else (exactppllaw06_TypesSizes.j0 k bt320.1 bt322.1 bt324.1 bt329.1 bt331.1 bt337.1 true)))))))))))
theorem exactppllaw06_TypesSizes.mono_l : ∀ k, (∀ y0 y1 y2 y3 y4 y5 y6, LeO (exactppllaw06_TypesSizes.j0 k y0 y1 y2 y3 y4 y5 y6) (exactppllaw06_TypesSizes.j0 (k + 1) y0 y1 y2 y3 y4 y5 y6)) ∧ (∀ y0 y1 y2 y3 y4 y5 y6 y7 y8, LeO (exactppllaw06_TypesSizes.l0 k y0 y1 y2 y3 y4 y5 y6 y7 y8) (exactppllaw06_TypesSizes.l0 (k + 1) y0 y1 y2 y3 y4 y5 y6 y7 y8))
 | 0 => ⟨fun _ _ _ _ _ _ _ r h => by simp [exactppllaw06_TypesSizes.j0] at h, fun _ _ _ _ _ _ _ _ _ r h => by simp [exactppllaw06_TypesSizes.l0] at h⟩
 | k + 1 => by
  obtain ⟨ih0, ih1⟩ := exactppllaw06_TypesSizes.mono_l k
  refine ⟨?_, ?_⟩
  ·intro y0 y1 y2 y3 y4 y5 y6
   unfold exactppllaw06_TypesSizes.j0
   repeat' first
   | (with_reducible exact ih0 _ _ _ _ _ _ _)
   | (with_reducible exact ih1 _ _ _ _ _ _ _ _ _)
   | (with_reducible exact exactppllaw06_awake.mono _)
   | (with_reducible exact exactpplmake_Src_Type.mono _ _ _ _ _)
   | (with_reducible exact types_Size.mono _ _ _ _ _ _)
   | (with_reducible exact LeO.refl _)
   | (with_reducible exact LeO.none _)
   | (with_reducible refine LeO.ite ?_ ?_)
   | (with_reducible refine LeO.bind ?_ (fun _ => ?_))
   | exact ih0 _ _ _ _ _ _ _
   | exact ih1 _ _ _ _ _ _ _ _ _
   | exact exactppllaw06_awake.mono _
   | exact exactpplmake_Src_Type.mono _ _ _ _ _
   | exact types_Size.mono _ _ _ _ _ _
   | exact LeO.none _
   | refine LeO.ite ?_ ?_
   | refine LeO.bind ?_ (fun _ => ?_)
  ·intro y0 y1 y2 y3 y4 y5 y6 y7 y8
   unfold exactppllaw06_TypesSizes.l0
   repeat' first
   | (with_reducible exact ih0 _ _ _ _ _ _ _)
   | (with_reducible exact ih1 _ _ _ _ _ _ _ _ _)
   | (with_reducible exact exactppllaw06_awake.mono _)
   | (with_reducible exact exactpplmake_Src_Type.mono _ _ _ _ _)
   | (with_reducible exact types_Size.mono _ _ _ _ _ _)
   | (with_reducible exact LeO.refl _)
   | (with_reducible exact LeO.none _)
   | (with_reducible refine LeO.ite ?_ ?_)
   | (with_reducible refine LeO.bind ?_ (fun _ => ?_))
   | exact ih0 _ _ _ _ _ _ _
   | exact ih1 _ _ _ _ _ _ _ _ _
   | exact exactppllaw06_awake.mono _
   | exact exactpplmake_Src_Type.mono _ _ _ _ _
   | exact types_Size.mono _ _ _ _ _ _
   | exact LeO.none _
   | refine LeO.ite ?_ ?_
   | refine LeO.bind ?_ (fun _ => ?_)
theorem exactppllaw06_TypesSizes.mono : ∀ a0 k, LeO (exactppllaw06_TypesSizes.f k a0) (exactppllaw06_TypesSizes.f (k + 1) a0) := by
 intro a0 k
 obtain ⟨ih0, ih1⟩ := exactppllaw06_TypesSizes.mono_l k
 unfold exactppllaw06_TypesSizes.f
 repeat' first
   | (with_reducible exact ih0 _ _ _ _ _ _ _)
   | (with_reducible exact ih1 _ _ _ _ _ _ _ _ _)
   | (with_reducible exact exactppllaw06_awake.mono _)
   | (with_reducible exact exactpplmake_Src_Type.mono _ _ _ _ _)
   | (with_reducible exact types_Size.mono _ _ _ _ _ _)
   | (with_reducible exact LeO.refl _)
   | (with_reducible exact LeO.none _)
   | (with_reducible refine LeO.ite ?_ ?_)
   | (with_reducible refine LeO.bind ?_ (fun _ => ?_))
   | exact ih0 _ _ _ _ _ _ _
   | exact ih1 _ _ _ _ _ _ _ _ _
   | exact exactppllaw06_awake.mono _
   | exact exactpplmake_Src_Type.mono _ _ _ _ _
   | exact types_Size.mono _ _ _ _ _ _
   | exact LeO.none _
   | refine LeO.ite ?_ ?_
   | refine LeO.bind ?_ (fun _ => ?_)
set_option maxHeartbeats 8000000 in
set_option maxRecDepth 100000 in
theorem exactppllaw06_TypesSizes.calls (k : Nat) (A0 : Option Addr) (c0 : Nat) (l0 : List Int) (r : Bool) (w : World) (hr0 : Kd.C (Kd.int .i64) w A0 l0.length l0) (hc0 : l0.length ≤ c0) (h : exactppllaw06_TypesSizes.f k l0 = some r) :
  Calls Tryd.prog 4 #[.slice A0 l0.length c0] w fun e w' => e = .returned (.bool r) ∧ Below w.heap.size w w' := by
 have hu24 := Tryd.underlying24
 have HR0 := Aside0.mk hr0
 have HC0 := Aside0.mk hc0
 clear hr0 hc0
 have HB := Aside0.mk (Below.refl w.heap.size w)
 have H : ((exactpplmake_New.f l0).bind fun bt286 => ((exactpplmake_Src_Type.f k bt286.1 bt286.2.1 bt286.2.2 1).bind fun bt290 => ((exactpplmake_Src_Type.f k bt286.1 bt290.2.2.2.2.2.1 bt290.2.2.2.2.2.2 2).bind fun bt299 => ((exactpplmake_Src_Type.f k bt286.1 bt299.2.2.2.2.2.1 bt299.2.2.2.2.2.2 1).bind fun bt308 => ((types_Size.f k bt290.1 bt290.2.1 bt290.2.2.1 bt290.2.2.2.1 bt290.2.2.2.2.1).bind fun bt320 => ((types_Size.f k bt299.1 bt299.2.1 bt299.2.2.1 bt299.2.2.2.1 bt299.2.2.2.2.1).bind fun bt322 => ((types_Size.f k bt308.1 bt308.2.1 bt308.2.2.1 bt308.2.2.2.1 bt308.2.2.2.2.1).bind fun bt324 => ((types_Size.f k 5 0 0 0 (([(⟨bt290.1, bt290.2.1, bt290.2.2.1, bt290.2.2.2.1, bt290.2.2.2.2.1⟩ : S24), (⟨bt299.1, bt299.2.1, bt299.2.2.1, bt299.2.2.2.1, bt299.2.2.2.2.1⟩ : S24)] : List (S24)))).bind fun bt329 => ((exactpplmake_Src_Range.f bt286.1 bt308.2.2.2.2.2.1 bt308.2.2.2.2.2.2 1 4).bind fun bt331 => ((types_Size.f k 6 0 0 bt331.1 (([(⟨bt308.1, bt308.2.1, bt308.2.2.1, bt308.2.2.2.1, bt308.2.2.2.2.1⟩ : S24)] : List (S24)))).bind fun bt337 => (if bt320.2 = 0 then (if bt322.2 = 0 then (if bt324.2 = 0 then (if bt329.2 = 0 then (exactppllaw06_TypesSizes.j0 k bt320.1 bt322.1 bt324.1 bt329.1 bt331.1 bt337.1 (bt337.2 != 0)) else (exactppllaw06_TypesSizes.j0 k bt320.1 bt322.1 bt324.1 bt329.1 bt331.1 bt337.1 true)) else (exactppllaw06_TypesSizes.j0 k bt320.1 bt322.1 bt324.1 bt329.1 bt331.1 bt337.1 true)) else (exactppllaw06_TypesSizes.j0 k bt320.1 bt322.1 bt324.1 bt329.1 bt331.1 bt337.1 true)) else (exactppllaw06_TypesSizes.j0 k bt320.1 bt322.1 bt324.1 bt329.1 bt331.1 bt337.1 true)))))))))))) = some r := h
 clear h
 replace H := Option.bind_eq_some_iff.mp H
 obtain ⟨⟨t286, t287, t288⟩, A20, H⟩ := H
 replace H : ((exactpplmake_Src_Type.f k t286 t287 t288 1).bind fun bt290 => ((exactpplmake_Src_Type.f k t286 bt290.2.2.2.2.2.1 bt290.2.2.2.2.2.2 2).bind fun bt299 => ((exactpplmake_Src_Type.f k t286 bt299.2.2.2.2.2.1 bt299.2.2.2.2.2.2 1).bind fun bt308 => ((types_Size.f k bt290.1 bt290.2.1 bt290.2.2.1 bt290.2.2.2.1 bt290.2.2.2.2.1).bind fun bt320 => ((types_Size.f k bt299.1 bt299.2.1 bt299.2.2.1 bt299.2.2.2.1 bt299.2.2.2.2.1).bind fun bt322 => ((types_Size.f k bt308.1 bt308.2.1 bt308.2.2.1 bt308.2.2.2.1 bt308.2.2.2.2.1).bind fun bt324 => ((types_Size.f k 5 0 0 0 (([(⟨bt290.1, bt290.2.1, bt290.2.2.1, bt290.2.2.2.1, bt290.2.2.2.2.1⟩ : S24), (⟨bt299.1, bt299.2.1, bt299.2.2.1, bt299.2.2.2.1, bt299.2.2.2.2.1⟩ : S24)] : List (S24)))).bind fun bt329 => ((exactpplmake_Src_Range.f t286 bt308.2.2.2.2.2.1 bt308.2.2.2.2.2.2 1 4).bind fun bt331 => ((types_Size.f k 6 0 0 bt331.1 (([(⟨bt308.1, bt308.2.1, bt308.2.2.1, bt308.2.2.2.1, bt308.2.2.2.2.1⟩ : S24)] : List (S24)))).bind fun bt337 => (if bt320.2 = 0 then (if bt322.2 = 0 then (if bt324.2 = 0 then (if bt329.2 = 0 then (exactppllaw06_TypesSizes.j0 k bt320.1 bt322.1 bt324.1 bt329.1 bt331.1 bt337.1 (bt337.2 != 0)) else (exactppllaw06_TypesSizes.j0 k bt320.1 bt322.1 bt324.1 bt329.1 bt331.1 bt337.1 true)) else (exactppllaw06_TypesSizes.j0 k bt320.1 bt322.1 bt324.1 bt329.1 bt331.1 bt337.1 true)) else (exactppllaw06_TypesSizes.j0 k bt320.1 bt322.1 bt324.1 bt329.1 bt331.1 bt337.1 true)) else (exactppllaw06_TypesSizes.j0 k bt320.1 bt322.1 bt324.1 bt329.1 bt331.1 bt337.1 true))))))))))) = some r := H
 have A2 := Aside0.mk A20
 clear A20
 replace H := Option.bind_eq_some_iff.mp H
 obtain ⟨⟨t290, t291, t292, t293, t294, t297, t298⟩, A30, H⟩ := H
 replace H : ((exactpplmake_Src_Type.f k t286 t297 t298 2).bind fun bt299 => ((exactpplmake_Src_Type.f k t286 bt299.2.2.2.2.2.1 bt299.2.2.2.2.2.2 1).bind fun bt308 => ((types_Size.f k t290 t291 t292 t293 t294).bind fun bt320 => ((types_Size.f k bt299.1 bt299.2.1 bt299.2.2.1 bt299.2.2.2.1 bt299.2.2.2.2.1).bind fun bt322 => ((types_Size.f k bt308.1 bt308.2.1 bt308.2.2.1 bt308.2.2.2.1 bt308.2.2.2.2.1).bind fun bt324 => ((types_Size.f k 5 0 0 0 (([(⟨t290, t291, t292, t293, t294⟩ : S24), (⟨bt299.1, bt299.2.1, bt299.2.2.1, bt299.2.2.2.1, bt299.2.2.2.2.1⟩ : S24)] : List (S24)))).bind fun bt329 => ((exactpplmake_Src_Range.f t286 bt308.2.2.2.2.2.1 bt308.2.2.2.2.2.2 1 4).bind fun bt331 => ((types_Size.f k 6 0 0 bt331.1 (([(⟨bt308.1, bt308.2.1, bt308.2.2.1, bt308.2.2.2.1, bt308.2.2.2.2.1⟩ : S24)] : List (S24)))).bind fun bt337 => (if bt320.2 = 0 then (if bt322.2 = 0 then (if bt324.2 = 0 then (if bt329.2 = 0 then (exactppllaw06_TypesSizes.j0 k bt320.1 bt322.1 bt324.1 bt329.1 bt331.1 bt337.1 (bt337.2 != 0)) else (exactppllaw06_TypesSizes.j0 k bt320.1 bt322.1 bt324.1 bt329.1 bt331.1 bt337.1 true)) else (exactppllaw06_TypesSizes.j0 k bt320.1 bt322.1 bt324.1 bt329.1 bt331.1 bt337.1 true)) else (exactppllaw06_TypesSizes.j0 k bt320.1 bt322.1 bt324.1 bt329.1 bt331.1 bt337.1 true)) else (exactppllaw06_TypesSizes.j0 k bt320.1 bt322.1 bt324.1 bt329.1 bt331.1 bt337.1 true)))))))))) = some r := H
 have A3 := Aside0.mk A30
 clear A30
 replace H := Option.bind_eq_some_iff.mp H
 obtain ⟨⟨t299, t300, t301, t302, t303, t306, t307⟩, A40, H⟩ := H
 replace H : ((exactpplmake_Src_Type.f k t286 t306 t307 1).bind fun bt308 => ((types_Size.f k t290 t291 t292 t293 t294).bind fun bt320 => ((types_Size.f k t299 t300 t301 t302 t303).bind fun bt322 => ((types_Size.f k bt308.1 bt308.2.1 bt308.2.2.1 bt308.2.2.2.1 bt308.2.2.2.2.1).bind fun bt324 => ((types_Size.f k 5 0 0 0 (([(⟨t290, t291, t292, t293, t294⟩ : S24), (⟨t299, t300, t301, t302, t303⟩ : S24)] : List (S24)))).bind fun bt329 => ((exactpplmake_Src_Range.f t286 bt308.2.2.2.2.2.1 bt308.2.2.2.2.2.2 1 4).bind fun bt331 => ((types_Size.f k 6 0 0 bt331.1 (([(⟨bt308.1, bt308.2.1, bt308.2.2.1, bt308.2.2.2.1, bt308.2.2.2.2.1⟩ : S24)] : List (S24)))).bind fun bt337 => (if bt320.2 = 0 then (if bt322.2 = 0 then (if bt324.2 = 0 then (if bt329.2 = 0 then (exactppllaw06_TypesSizes.j0 k bt320.1 bt322.1 bt324.1 bt329.1 bt331.1 bt337.1 (bt337.2 != 0)) else (exactppllaw06_TypesSizes.j0 k bt320.1 bt322.1 bt324.1 bt329.1 bt331.1 bt337.1 true)) else (exactppllaw06_TypesSizes.j0 k bt320.1 bt322.1 bt324.1 bt329.1 bt331.1 bt337.1 true)) else (exactppllaw06_TypesSizes.j0 k bt320.1 bt322.1 bt324.1 bt329.1 bt331.1 bt337.1 true)) else (exactppllaw06_TypesSizes.j0 k bt320.1 bt322.1 bt324.1 bt329.1 bt331.1 bt337.1 true))))))))) = some r := H
 have A4 := Aside0.mk A40
 clear A40
 replace H := Option.bind_eq_some_iff.mp H
 obtain ⟨⟨t308, t309, t310, t311, t312, t315, t316⟩, A50, H⟩ := H
 replace H : ((types_Size.f k t290 t291 t292 t293 t294).bind fun bt320 => ((types_Size.f k t299 t300 t301 t302 t303).bind fun bt322 => ((types_Size.f k t308 t309 t310 t311 t312).bind fun bt324 => ((types_Size.f k 5 0 0 0 (([(⟨t290, t291, t292, t293, t294⟩ : S24), (⟨t299, t300, t301, t302, t303⟩ : S24)] : List (S24)))).bind fun bt329 => ((exactpplmake_Src_Range.f t286 t315 t316 1 4).bind fun bt331 => ((types_Size.f k 6 0 0 bt331.1 (([(⟨t308, t309, t310, t311, t312⟩ : S24)] : List (S24)))).bind fun bt337 => (if bt320.2 = 0 then (if bt322.2 = 0 then (if bt324.2 = 0 then (if bt329.2 = 0 then (exactppllaw06_TypesSizes.j0 k bt320.1 bt322.1 bt324.1 bt329.1 bt331.1 bt337.1 (bt337.2 != 0)) else (exactppllaw06_TypesSizes.j0 k bt320.1 bt322.1 bt324.1 bt329.1 bt331.1 bt337.1 true)) else (exactppllaw06_TypesSizes.j0 k bt320.1 bt322.1 bt324.1 bt329.1 bt331.1 bt337.1 true)) else (exactppllaw06_TypesSizes.j0 k bt320.1 bt322.1 bt324.1 bt329.1 bt331.1 bt337.1 true)) else (exactppllaw06_TypesSizes.j0 k bt320.1 bt322.1 bt324.1 bt329.1 bt331.1 bt337.1 true)))))))) = some r := H
 have A5 := Aside0.mk A50
 clear A50
 replace H := Option.bind_eq_some_iff.mp H
 obtain ⟨⟨t320, t321⟩, A60, H⟩ := H
 replace H : ((types_Size.f k t299 t300 t301 t302 t303).bind fun bt322 => ((types_Size.f k t308 t309 t310 t311 t312).bind fun bt324 => ((types_Size.f k 5 0 0 0 (([(⟨t290, t291, t292, t293, t294⟩ : S24), (⟨t299, t300, t301, t302, t303⟩ : S24)] : List (S24)))).bind fun bt329 => ((exactpplmake_Src_Range.f t286 t315 t316 1 4).bind fun bt331 => ((types_Size.f k 6 0 0 bt331.1 (([(⟨t308, t309, t310, t311, t312⟩ : S24)] : List (S24)))).bind fun bt337 => (if t321 = 0 then (if bt322.2 = 0 then (if bt324.2 = 0 then (if bt329.2 = 0 then (exactppllaw06_TypesSizes.j0 k t320 bt322.1 bt324.1 bt329.1 bt331.1 bt337.1 (bt337.2 != 0)) else (exactppllaw06_TypesSizes.j0 k t320 bt322.1 bt324.1 bt329.1 bt331.1 bt337.1 true)) else (exactppllaw06_TypesSizes.j0 k t320 bt322.1 bt324.1 bt329.1 bt331.1 bt337.1 true)) else (exactppllaw06_TypesSizes.j0 k t320 bt322.1 bt324.1 bt329.1 bt331.1 bt337.1 true)) else (exactppllaw06_TypesSizes.j0 k t320 bt322.1 bt324.1 bt329.1 bt331.1 bt337.1 true))))))) = some r := H
 have A6 := Aside0.mk A60
 clear A60
 replace H := Option.bind_eq_some_iff.mp H
 obtain ⟨⟨t322, t323⟩, A70, H⟩ := H
 replace H : ((types_Size.f k t308 t309 t310 t311 t312).bind fun bt324 => ((types_Size.f k 5 0 0 0 (([(⟨t290, t291, t292, t293, t294⟩ : S24), (⟨t299, t300, t301, t302, t303⟩ : S24)] : List (S24)))).bind fun bt329 => ((exactpplmake_Src_Range.f t286 t315 t316 1 4).bind fun bt331 => ((types_Size.f k 6 0 0 bt331.1 (([(⟨t308, t309, t310, t311, t312⟩ : S24)] : List (S24)))).bind fun bt337 => (if t321 = 0 then (if t323 = 0 then (if bt324.2 = 0 then (if bt329.2 = 0 then (exactppllaw06_TypesSizes.j0 k t320 t322 bt324.1 bt329.1 bt331.1 bt337.1 (bt337.2 != 0)) else (exactppllaw06_TypesSizes.j0 k t320 t322 bt324.1 bt329.1 bt331.1 bt337.1 true)) else (exactppllaw06_TypesSizes.j0 k t320 t322 bt324.1 bt329.1 bt331.1 bt337.1 true)) else (exactppllaw06_TypesSizes.j0 k t320 t322 bt324.1 bt329.1 bt331.1 bt337.1 true)) else (exactppllaw06_TypesSizes.j0 k t320 t322 bt324.1 bt329.1 bt331.1 bt337.1 true)))))) = some r := H
 have A7 := Aside0.mk A70
 clear A70
 replace H := Option.bind_eq_some_iff.mp H
 obtain ⟨⟨t324, t325⟩, A80, H⟩ := H
 replace H : ((types_Size.f k 5 0 0 0 (([(⟨t290, t291, t292, t293, t294⟩ : S24), (⟨t299, t300, t301, t302, t303⟩ : S24)] : List (S24)))).bind fun bt329 => ((exactpplmake_Src_Range.f t286 t315 t316 1 4).bind fun bt331 => ((types_Size.f k 6 0 0 bt331.1 (([(⟨t308, t309, t310, t311, t312⟩ : S24)] : List (S24)))).bind fun bt337 => (if t321 = 0 then (if t323 = 0 then (if t325 = 0 then (if bt329.2 = 0 then (exactppllaw06_TypesSizes.j0 k t320 t322 t324 bt329.1 bt331.1 bt337.1 (bt337.2 != 0)) else (exactppllaw06_TypesSizes.j0 k t320 t322 t324 bt329.1 bt331.1 bt337.1 true)) else (exactppllaw06_TypesSizes.j0 k t320 t322 t324 bt329.1 bt331.1 bt337.1 true)) else (exactppllaw06_TypesSizes.j0 k t320 t322 t324 bt329.1 bt331.1 bt337.1 true)) else (exactppllaw06_TypesSizes.j0 k t320 t322 t324 bt329.1 bt331.1 bt337.1 true))))) = some r := H
 have A8 := Aside0.mk A80
 clear A80
 obtain ⟨y326, hy326⟩ : ∃ y_ : List (S24), y_ = (([(⟨t290, t291, t292, t293, t294⟩ : S24), (⟨t299, t300, t301, t302, t303⟩ : S24)] : List (S24))) := ⟨_, rfl⟩
 replace H : ((types_Size.f k 5 0 0 0 y326).bind fun bt329 => ((exactpplmake_Src_Range.f t286 t315 t316 1 4).bind fun bt331 => ((types_Size.f k 6 0 0 bt331.1 (([(⟨t308, t309, t310, t311, t312⟩ : S24)] : List (S24)))).bind fun bt337 => (if t321 = 0 then (if t323 = 0 then (if t325 = 0 then (if bt329.2 = 0 then (exactppllaw06_TypesSizes.j0 k t320 t322 t324 bt329.1 bt331.1 bt337.1 (bt337.2 != 0)) else (exactppllaw06_TypesSizes.j0 k t320 t322 t324 bt329.1 bt331.1 bt337.1 true)) else (exactppllaw06_TypesSizes.j0 k t320 t322 t324 bt329.1 bt331.1 bt337.1 true)) else (exactppllaw06_TypesSizes.j0 k t320 t322 t324 bt329.1 bt331.1 bt337.1 true)) else (exactppllaw06_TypesSizes.j0 k t320 t322 t324 bt329.1 bt331.1 bt337.1 true))))) = some r := by first | (rw [hy326]; with_reducible exact H) | (have H2_ := (Option.bind_some _ _).symm.trans H; rw [hy326]; with_reducible exact H2_) | (have H2_ := (Option.bind_some _ _).symm.trans H; with_reducible exact H2_) | with_reducible exact H | (rw [hy326]; exact H) | exact H
 have Ny326 := Aside0.mk hy326
 clear hy326
 replace H := Option.bind_eq_some_iff.mp H
 obtain ⟨⟨t329, t330⟩, A90, H⟩ := H
 replace H : ((exactpplmake_Src_Range.f t286 t315 t316 1 4).bind fun bt331 => ((types_Size.f k 6 0 0 bt331.1 (([(⟨t308, t309, t310, t311, t312⟩ : S24)] : List (S24)))).bind fun bt337 => (if t321 = 0 then (if t323 = 0 then (if t325 = 0 then (if t330 = 0 then (exactppllaw06_TypesSizes.j0 k t320 t322 t324 t329 bt331.1 bt337.1 (bt337.2 != 0)) else (exactppllaw06_TypesSizes.j0 k t320 t322 t324 t329 bt331.1 bt337.1 true)) else (exactppllaw06_TypesSizes.j0 k t320 t322 t324 t329 bt331.1 bt337.1 true)) else (exactppllaw06_TypesSizes.j0 k t320 t322 t324 t329 bt331.1 bt337.1 true)) else (exactppllaw06_TypesSizes.j0 k t320 t322 t324 t329 bt331.1 bt337.1 true)))) = some r := H
 have A9 := Aside0.mk A90
 clear A90
 replace H := Option.bind_eq_some_iff.mp H
 obtain ⟨⟨t331, t332, t333⟩, A100, H⟩ := H
 replace H : ((types_Size.f k 6 0 0 t331 (([(⟨t308, t309, t310, t311, t312⟩ : S24)] : List (S24)))).bind fun bt337 => (if t321 = 0 then (if t323 = 0 then (if t325 = 0 then (if t330 = 0 then (exactppllaw06_TypesSizes.j0 k t320 t322 t324 t329 t331 bt337.1 (bt337.2 != 0)) else (exactppllaw06_TypesSizes.j0 k t320 t322 t324 t329 t331 bt337.1 true)) else (exactppllaw06_TypesSizes.j0 k t320 t322 t324 t329 t331 bt337.1 true)) else (exactppllaw06_TypesSizes.j0 k t320 t322 t324 t329 t331 bt337.1 true)) else (exactppllaw06_TypesSizes.j0 k t320 t322 t324 t329 t331 bt337.1 true))) = some r := H
 have A10 := Aside0.mk A100
 clear A100
 obtain ⟨y334, hy334⟩ : ∃ y_ : List (S24), y_ = (([(⟨t308, t309, t310, t311, t312⟩ : S24)] : List (S24))) := ⟨_, rfl⟩
 replace H : ((types_Size.f k 6 0 0 t331 y334).bind fun bt337 => (if t321 = 0 then (if t323 = 0 then (if t325 = 0 then (if t330 = 0 then (exactppllaw06_TypesSizes.j0 k t320 t322 t324 t329 t331 bt337.1 (bt337.2 != 0)) else (exactppllaw06_TypesSizes.j0 k t320 t322 t324 t329 t331 bt337.1 true)) else (exactppllaw06_TypesSizes.j0 k t320 t322 t324 t329 t331 bt337.1 true)) else (exactppllaw06_TypesSizes.j0 k t320 t322 t324 t329 t331 bt337.1 true)) else (exactppllaw06_TypesSizes.j0 k t320 t322 t324 t329 t331 bt337.1 true))) = some r := by first | (rw [hy334]; with_reducible exact H) | (have H2_ := (Option.bind_some _ _).symm.trans H; rw [hy334]; with_reducible exact H2_) | (have H2_ := (Option.bind_some _ _).symm.trans H; with_reducible exact H2_) | with_reducible exact H | (rw [hy334]; exact H) | exact H
 have Ny334 := Aside0.mk hy334
 clear hy334
 replace H := Option.bind_eq_some_iff.mp H
 obtain ⟨⟨t337, t338⟩, A110, H⟩ := H
 replace H : (if t321 = 0 then (if t323 = 0 then (if t325 = 0 then (if t330 = 0 then (exactppllaw06_TypesSizes.j0 k t320 t322 t324 t329 t331 t337 (t338 != 0)) else (exactppllaw06_TypesSizes.j0 k t320 t322 t324 t329 t331 t337 true)) else (exactppllaw06_TypesSizes.j0 k t320 t322 t324 t329 t331 t337 true)) else (exactppllaw06_TypesSizes.j0 k t320 t322 t324 t329 t331 t337 true)) else (exactppllaw06_TypesSizes.j0 k t320 t322 t324 t329 t331 t337 true)) = some r := H
 have A11 := Aside0.mk A110
 clear A110
 have HC12 := Aside0.mk H
 clear H
 go_enter Tryd.func4, Tryd.ntmps4
 go_upto_region 9 with (first | ((with_reducible refine gate_callee (f := 14) rfl ?_); refine goesL_ (some 22) rfl rfl Tryd.func14 (by kernel_rfl) rfl #[.slice A0 l0.length c0] rfl (by (try simp only [List.map_toArray, List.map_cons, List.map_nil]); first | done | rfl | (simp only [List.length_drop, List.length_take]; rfl)) ?_; (with_reducible refine (exactpplmake_New.calls _ _ l0 t286 t287 t288 w _ ?side1 ?side2 ?side3 A2.out).mono ?_); (case side1 => repeat (first | (with_reducible first | exact HB.out | apply below_alloc | apply pw_below_drewN | apply below_drew1) | exact HB.out)); (case side2 => exact HR0.out); (case side3 => exact HC0.out); rintro e w13 ⟨g289, rfl, hi, hb, hb2⟩; refine ⟨_, rfl, ?_⟩; have HI289 := Aside0.mk (hi); replace HB := Aside0.mk (hb); (try clear hb); (try clear hb2); (try clear hk); (try clear hi)) | ((with_reducible refine gate_callee (f := 15) rfl ?_); refine goesL_ (some 24) rfl rfl Tryd.func15 (by kernel_rfl) rfl #[.pointer (some ⟨g289, 0, none⟩), .int .i64 1] rfl (by (try simp only [List.map_toArray, List.map_cons, List.map_nil]); first | done | rfl | (simp only [List.length_drop, List.length_take]; rfl)) ?_; (with_reducible refine (exactpplmake_Src_Type.calls k g289 t286 t287 t288 1 t290 t291 t292 t293 t294 t297 t298 w _ ?side1 ?side2 A3.out).mono ?_); (case side1 => repeat (first | (with_reducible first | exact HI289.out | apply IsS63.alloc | apply IsS63.drewN | apply IsS63.drew | apply IsS63.set_1 | apply IsS63.set_2) | exact HI289.out)); (case side2 => repeat (first | (with_reducible first | exact HB.out | apply below_alloc | apply pw_below_drewN | apply below_drew1 | refine below_set ?_ (IsS63.ge HI289.out)) | exact HB.out)); rintro e w14 ⟨v295, rfl, ho0, hi, hb, hk⟩; refine ⟨_, rfl, ?_⟩; have HO296 := Aside0.mk (Kd.N_lower (Kd.N_mono (ok' := fun k_ => k_ ≠ g289) ho0 (fun k_ hk_ => (IsS63.fresh si63_ k_ hk_))) (below_size bl63_)); replace HB := Aside0.mk (hb); replace HI289 := Aside0.mk (hi); (try clear hb); (try clear hb2); (try clear hk); (try clear hi); (try clear ho0)) | ((with_reducible refine gate_callee (f := 15) rfl ?_); refine goesL_ (some 26) rfl rfl Tryd.func15 (by kernel_rfl) rfl #[.pointer (some ⟨g289, 0, none⟩), .int .i64 2] rfl (by (try simp only [List.map_toArray, List.map_cons, List.map_nil]); first | done | rfl | (simp only [List.length_drop, List.length_take]; rfl)) ?_; (with_reducible refine (exactpplmake_Src_Type.calls k g289 t286 t297 t298 2 t299 t300 t301 t302 t303 t306 t307 w _ ?side1 ?side2 A4.out).mono ?_); (case side1 => repeat (first | (with_reducible first | exact HI289.out | apply IsS63.alloc | apply IsS63.drewN | apply IsS63.drew | apply IsS63.set_1 | apply IsS63.set_2) | exact HI289.out)); (case side2 => repeat (first | (with_reducible first | exact HB.out | apply below_alloc | apply pw_below_drewN | apply below_drew1 | refine below_set ?_ (IsS63.ge HI289.out)) | exact HB.out)); rintro e w15 ⟨v304, rfl, ho0, hi, hb, hk⟩; refine ⟨_, rfl, ?_⟩; have HO305 := Aside0.mk (Kd.N_lower (Kd.N_mono (ok' := fun k_ => some k_ ≠ (v295 : Value).ownBlock ∧ k_ ≠ g289) ho0 (fun k_ hk_ => ⟨(Kd.fresh' (Kd.N_lt (pN_ HO296.out)) k_ hk_), (IsS63.fresh si63_ k_ hk_)⟩)) (below_size bl63_)); replace HO296 := Aside0.mk (Kd.N_mono (Kd.N_told (Kd.N_oldK (Kd.N_mono (ok := fun k_ => k_ ≠ g289) (pN_ HO296.out) (fun k_ hk_ => (⟨hk_, hk_⟩ : _ ∧ k_ ≠ g289))) hk) (by first | exact Kd.N_base ho0 | exact Kd.R_base ho0)) (fun _ h_ => h_.1)); replace HB := Aside0.mk (hb); replace HI289 := Aside0.mk (hi); (try clear hb); (try clear hb2); (try clear hk); (try clear hi); (try clear ho0)) | ((with_reducible refine gate_callee (f := 15) rfl ?_); refine goesL_ (some 28) rfl rfl Tryd.func15 (by kernel_rfl) rfl #[.pointer (some ⟨g289, 0, none⟩), .int .i64 1] rfl (by (try simp only [List.map_toArray, List.map_cons, List.map_nil]); first | done | rfl | (simp only [List.length_drop, List.length_take]; rfl)) ?_; (with_reducible refine (exactpplmake_Src_Type.calls k g289 t286 t306 t307 1 t308 t309 t310 t311 t312 t315 t316 w _ ?side1 ?side2 A5.out).mono ?_); (case side1 => repeat (first | (with_reducible first | exact HI289.out | apply IsS63.alloc | apply IsS63.drewN | apply IsS63.drew | apply IsS63.set_1 | apply IsS63.set_2) | exact HI289.out)); (case side2 => repeat (first | (with_reducible first | exact HB.out | apply below_alloc | apply pw_below_drewN | apply below_drew1 | refine below_set ?_ (IsS63.ge HI289.out)) | exact HB.out)); rintro e w16 ⟨v313, rfl, ho0, hi, hb, hk⟩; refine ⟨_, rfl, ?_⟩; have HO314 := Aside0.mk (Kd.N_lower (Kd.N_mono (ok' := fun k_ => some k_ ≠ (v295 : Value).ownBlock ∧ some k_ ≠ (v304 : Value).ownBlock ∧ k_ ≠ g289) ho0 (fun k_ hk_ => ⟨(Kd.fresh' (Kd.N_lt (pN_ HO296.out)) k_ hk_), (Kd.fresh' (Kd.N_lt (pN_ HO305.out)) k_ hk_), (IsS63.fresh si63_ k_ hk_)⟩)) (below_size bl63_)); replace HO296 := Aside0.mk (Kd.N_mono (Kd.N_told (Kd.N_oldK (Kd.N_mono (ok := fun k_ => (k_ ≠ g289 ∧ some k_ ≠ (v304 : Value).ownBlock)) (pN_ HO296.out) (fun k_ hk_ => (⟨hk_, hk_.1⟩ : _ ∧ k_ ≠ g289))) hk) (by first | exact Kd.N_base ho0 | exact Kd.R_base ho0)) (fun _ h_ => h_.1)); replace HO305 := Aside0.mk (Kd.N_mono (Kd.N_told (Kd.N_oldK (Kd.N_mono (ok := fun k_ => (some k_ ≠ (v295 : Value).ownBlock ∧ k_ ≠ g289)) (pN_ HO305.out) (fun k_ hk_ => (⟨hk_, hk_.2⟩ : _ ∧ k_ ≠ g289))) hk) (by first | exact Kd.N_base ho0 | exact Kd.R_base ho0)) (fun _ h_ => h_.1)); replace HB := Aside0.mk (hb); replace HI289 := Aside0.mk (hi); (try clear hb); (try clear hb2); (try clear hk); (try clear hi); (try clear ho0)) | ((with_reducible refine gate_dst (N := 4) rfl ?_); refine box_event ?hg (N := 4) ?hd (cs := #[.int .i64 0, .int .i64 0, .int .i64 0, .int .i64 0, .slice none 0 0]) (t := 24) ?hr ?_; (case hd => rfl); (case hg => rfl); (case hr => first | (go_simp; done) | (go_simp; rfl)); intro gb317 hg w17 hbox hb; have BK317 := Aside0.mk (hbox); have GW317 : Aside0 (w.heap.size ≤ gb317) := gw_ hg (below_size bl63_); have GE317 := GW317; have NB289_317 := Aside0.mk ((by rw [hg]; exact Nat.ne_of_lt (IsS63.lt (show IsS63 w _ g289 t286 t315 t316 from si63_)) : g289 ≠ gb317)); have NB317_289 := Aside0.mk ((by rw [hg]; exact Nat.ne_of_gt (IsS63.lt (show IsS63 w _ g289 t286 t315 t316 from si63_)) : gb317 ≠ g289)); replace HO296 := Aside0.mk (Kd.N_below (Kd.N_elderB (pN_ HO296.out) gb317 (Nat.le_of_eq hg.symm)) hb); replace HO305 := Aside0.mk (Kd.N_below (Kd.N_elderB (pN_ HO305.out) gb317 (Nat.le_of_eq hg.symm)) hb); replace HO314 := Aside0.mk (Kd.N_below (Kd.N_elderB (pN_ HO314.out) gb317 (Nat.le_of_eq hg.symm)) hb); replace HI289 := Aside0.mk (IsS63.below si63_ hb); replace HB := Aside0.mk (below_step bl63_ hb); clear hb hbox hg) | ((with_reducible refine gate_dst (N := 5) rfl ?_); refine box_event ?hg (N := 5) ?hd (cs := #[.int .i64 0, .int .i64 0, .int .i64 0, .int .i64 0, .slice none 0 0]) (t := 24) ?hr ?_; (case hd => rfl); (case hg => rfl); (case hr => first | (go_simp; done) | (go_simp; rfl)); intro gb318 hg w18 hbox hb; have BK318 := Aside0.mk (hbox); have GW318 : Aside0 (w.heap.size ≤ gb318) := gw_ hg (below_size bl63_); have GE318 := GW318; have NB317_318 := Aside0.mk ((by rw [hg]; exact Nat.ne_of_lt (blk_lt (g := gb317) (o := .cells #[.int .i64 0, .int .i64 0, .int .i64 0, .int .i64 0, .slice none 0 0] 24 (0, 0)) bk_) : gb317 ≠ gb318)); have NB318_317 := Aside0.mk ((by rw [hg]; exact Nat.ne_of_gt (blk_lt (g := gb317) (o := .cells #[.int .i64 0, .int .i64 0, .int .i64 0, .int .i64 0, .slice none 0 0] 24 (0, 0)) bk_) : gb318 ≠ gb317)); have NB289_318 := Aside0.mk ((by rw [hg]; exact Nat.ne_of_lt (IsS63.lt (show IsS63 w _ g289 t286 t315 t316 from si63_)) : g289 ≠ gb318)); have NB318_289 := Aside0.mk ((by rw [hg]; exact Nat.ne_of_gt (IsS63.lt (show IsS63 w _ g289 t286 t315 t316 from si63_)) : gb318 ≠ g289)); replace HO296 := Aside0.mk (Kd.N_below (Kd.N_elderB (pN_ HO296.out) gb318 (Nat.le_of_eq hg.symm)) hb); replace HO305 := Aside0.mk (Kd.N_below (Kd.N_elderB (pN_ HO305.out) gb318 (Nat.le_of_eq hg.symm)) hb); replace HO314 := Aside0.mk (Kd.N_below (Kd.N_elderB (pN_ HO314.out) gb318 (Nat.le_of_eq hg.symm)) hb); replace HI289 := Aside0.mk (IsS63.below si63_ hb); replace BK317 := Aside0.mk (blk_below (g := gb317) (o := .cells #[.int .i64 0, .int .i64 0, .int .i64 0, .int .i64 0, .slice none 0 0] 24 (0, 0)) bk_ hb); replace HB := Aside0.mk (below_step bl63_ hb); clear hb hbox hg) | ((with_reducible refine gate_dst (N := 6) rfl ?_); refine box_event ?hg (N := 6) ?hd (cs := #[.int .i64 0, .int .i64 0, .int .i64 0, .int .i64 0, .slice none 0 0]) (t := 24) ?hr ?_; (case hd => rfl); (case hg => rfl); (case hr => first | (go_simp; done) | (go_simp; rfl)); intro gb319 hg w19 hbox hb; have BK319 := Aside0.mk (hbox); have GW319 : Aside0 (w.heap.size ≤ gb319) := gw_ hg (below_size bl63_); have GE319 := GW319; have NB317_319 := Aside0.mk ((by rw [hg]; exact Nat.ne_of_lt (blk_lt (g := gb317) (o := .cells #[.int .i64 0, .int .i64 0, .int .i64 0, .int .i64 0, .slice none 0 0] 24 (0, 0)) bk_) : gb317 ≠ gb319)); have NB319_317 := Aside0.mk ((by rw [hg]; exact Nat.ne_of_gt (blk_lt (g := gb317) (o := .cells #[.int .i64 0, .int .i64 0, .int .i64 0, .int .i64 0, .slice none 0 0] 24 (0, 0)) bk_) : gb319 ≠ gb317)); have NB318_319 := Aside0.mk ((by rw [hg]; exact Nat.ne_of_lt (blk_lt (g := gb318) (o := .cells #[.int .i64 0, .int .i64 0, .int .i64 0, .int .i64 0, .slice none 0 0] 24 (0, 0)) bk_) : gb318 ≠ gb319)); have NB319_318 := Aside0.mk ((by rw [hg]; exact Nat.ne_of_gt (blk_lt (g := gb318) (o := .cells #[.int .i64 0, .int .i64 0, .int .i64 0, .int .i64 0, .slice none 0 0] 24 (0, 0)) bk_) : gb319 ≠ gb318)); have NB289_319 := Aside0.mk ((by rw [hg]; exact Nat.ne_of_lt (IsS63.lt (show IsS63 w _ g289 t286 t315 t316 from si63_)) : g289 ≠ gb319)); have NB319_289 := Aside0.mk ((by rw [hg]; exact Nat.ne_of_gt (IsS63.lt (show IsS63 w _ g289 t286 t315 t316 from si63_)) : gb319 ≠ g289)); replace HO296 := Aside0.mk (Kd.N_below (Kd.N_elderB (pN_ HO296.out) gb319 (Nat.le_of_eq hg.symm)) hb); replace HO305 := Aside0.mk (Kd.N_below (Kd.N_elderB (pN_ HO305.out) gb319 (Nat.le_of_eq hg.symm)) hb); replace HO314 := Aside0.mk (Kd.N_below (Kd.N_elderB (pN_ HO314.out) gb319 (Nat.le_of_eq hg.symm)) hb); replace HI289 := Aside0.mk (IsS63.below si63_ hb); replace BK317 := Aside0.mk (blk_below (g := gb317) (o := .cells #[.int .i64 0, .int .i64 0, .int .i64 0, .int .i64 0, .slice none 0 0] 24 (0, 0)) bk_ hb); replace BK318 := Aside0.mk (blk_below (g := gb318) (o := .cells #[.int .i64 0, .int .i64 0, .int .i64 0, .int .i64 0, .slice none 0 0] 24 (0, 0)) bk_ hb); replace HB := Aside0.mk (below_step bl63_ hb); clear hb hbox hg; have hnb20 := NB317_318.out; have hnc20 := NB318_317.out; have hnb21 := NB317_319.out; have hnc21 := NB319_317.out; have hnb22 := NB317_289.out; have hnc22 := NB289_317.out; obtain ⟨hcz23_0, hcz23_1, hcz23_2, hcz23_3, hcz23_4, hfz23_0, hfz23_1, hfz23_2, hfz23_3, hfz23_4⟩ := cf5_ BK317.out; obtain ⟨Ao24, co24, eo24⟩ := Kd.N_slice HO296.out; subst eo24; have hnb25 := NB318_319.out; have hnc25 := NB319_318.out; have hnb26 := NB318_289.out; have hnc26 := NB289_318.out; obtain ⟨hcz27_0, hcz27_1, hcz27_2, hcz27_3, hcz27_4, hfz27_0, hfz27_1, hfz27_2, hfz27_3, hfz27_4⟩ := cf5_ BK318.out; obtain ⟨Ao28, co28, eo28⟩ := Kd.N_slice HO305.out; subst eo28; have hnb29 := NB319_289.out; have hnc29 := NB289_319.out; obtain ⟨hcz30_0, hcz30_1, hcz30_2, hcz30_3, hcz30_4, hfz30_0, hfz30_1, hfz30_2, hfz30_3, hfz30_4⟩ := cf5_ BK319.out; obtain ⟨Ao31, co31, eo31⟩ := Kd.N_slice HO314.out; subst eo31) | ((with_reducible refine gate_callee (f := 16) rfl ?_); refine goesL_ (some 31) rfl rfl Tryd.func16 (by kernel_rfl) rfl #[.agg #[.int .i64 t290, .int .i64 t291, .int .i64 t292, .int .i64 t293, .slice Ao24 t294.length co24]] rfl (by (try simp only [List.map_toArray, List.map_cons, List.map_nil]); first | done | rfl | (simp only [List.length_drop, List.length_take]; rfl)) ?_; (with_reducible refine (types_Size.calls k t290 t291 t292 t293 _ _ t294 t320 t321 _ ?side1 ?side2 A6.out).mono ?_); (case side1 => refine (Kd.N_reads' (e := 24) (base := w.heap.size) (ok := fun k_ => (((((k_ ≠ g289 ∧ some k_ ≠ (.slice Ao28 t303.length co28 : Value).ownBlock) ∧ some k_ ≠ (.slice Ao31 t312.length co31 : Value).ownBlock) ∧ k_ ≠ gb317) ∧ k_ ≠ gb318) ∧ k_ ≠ gb319)) (n := t294.length) (c := co24) ?_).2.2; exact (by (with_reducible repeat (first | apply Kd.N_alloc | apply Kd.N_drewN | apply Kd.N_drew)); exact (Kd.N_mono (Kd.N_mono (Kd.N_mono (Kd.N_far (p := ⟨gb319, 4, none⟩) (Kd.N_far (p := ⟨gb319, 3, none⟩) (Kd.N_far (p := ⟨gb319, 2, none⟩) (Kd.N_far (p := ⟨gb319, 1, none⟩) (Kd.N_far (p := ⟨gb319, 0, none⟩) (Kd.N_far (p := ⟨gb318, 4, none⟩) (Kd.N_far (p := ⟨gb318, 3, none⟩) (Kd.N_far (p := ⟨gb318, 2, none⟩) (Kd.N_far (p := ⟨gb318, 1, none⟩) (Kd.N_far (p := ⟨gb318, 0, none⟩) (Kd.N_far (p := ⟨gb317, 4, none⟩) (Kd.N_far (p := ⟨gb317, 3, none⟩) (Kd.N_far (p := ⟨gb317, 2, none⟩) (Kd.N_far (p := ⟨gb317, 1, none⟩) (Kd.N_far (p := ⟨gb317, 0, none⟩) (Kd.N_mono (Kd.N_mono (Kd.N_mono HO296.out (fun k_ hk => (⟨hk, by first | exact hk.1.1.2 | exact hk.1 | exact hk.2 | exact hk.1.1 | exact hk.1.2⟩ : _ ∧ k_ ≠ gb317))) (fun k_ hk => (⟨hk, by first | exact hk.1.1.2 | exact hk.1 | exact hk.2 | exact hk.1.1 | exact hk.1.2⟩ : _ ∧ k_ ≠ gb318))) (fun k_ hk => (⟨hk, by first | exact hk.1.1.2 | exact hk.1 | exact hk.2 | exact hk.1.1 | exact hk.1.2⟩ : _ ∧ k_ ≠ gb319))) (fun _ hk => hk.1.1.2) (.int .i64 t290)) (fun _ hk => hk.1.1.2) (.int .i64 t291)) (fun _ hk => hk.1.1.2) (.int .i64 t292)) (fun _ hk => hk.1.1.2) (.int .i64 t293)) (fun _ hk => hk.1.1.2) (.slice Ao24 t294.length co24)) (fun _ hk => hk.1.2) (.int .i64 t299)) (fun _ hk => hk.1.2) (.int .i64 t300)) (fun _ hk => hk.1.2) (.int .i64 t301)) (fun _ hk => hk.1.2) (.int .i64 t302)) (fun _ hk => hk.1.2) (.slice Ao28 t303.length co28)) (fun _ hk => hk.2) (.int .i64 t308)) (fun _ hk => hk.2) (.int .i64 t309)) (fun _ hk => hk.2) (.int .i64 t310)) (fun _ hk => hk.2) (.int .i64 t311)) (fun _ hk => hk.2) (.slice Ao31 t312.length co31)) (fun _ h_ => h_.1)) (fun _ h_ => h_.1)) (fun _ h_ => h_.1)))); (case side2 => exact (Kd.N_reads' HO296.out).2.1); rintro e w32 ⟨rfl, hb⟩; refine ⟨_, rfl, ?_⟩; replace HO296 := Aside0.mk (Kd.N_below (by (with_reducible repeat (first | apply Kd.N_alloc | apply Kd.N_drewN | apply Kd.N_drew)); exact (Kd.N_mono (Kd.N_mono (Kd.N_mono (Kd.N_far (p := ⟨gb319, 4, none⟩) (Kd.N_far (p := ⟨gb319, 3, none⟩) (Kd.N_far (p := ⟨gb319, 2, none⟩) (Kd.N_far (p := ⟨gb319, 1, none⟩) (Kd.N_far (p := ⟨gb319, 0, none⟩) (Kd.N_far (p := ⟨gb318, 4, none⟩) (Kd.N_far (p := ⟨gb318, 3, none⟩) (Kd.N_far (p := ⟨gb318, 2, none⟩) (Kd.N_far (p := ⟨gb318, 1, none⟩) (Kd.N_far (p := ⟨gb318, 0, none⟩) (Kd.N_far (p := ⟨gb317, 4, none⟩) (Kd.N_far (p := ⟨gb317, 3, none⟩) (Kd.N_far (p := ⟨gb317, 2, none⟩) (Kd.N_far (p := ⟨gb317, 1, none⟩) (Kd.N_far (p := ⟨gb317, 0, none⟩) (Kd.N_mono (Kd.N_mono (Kd.N_mono HO296.out (fun k_ hk => (⟨hk, by first | exact hk.1.1.2 | exact hk.1 | exact hk.2 | exact hk.1.1 | exact hk.1.2⟩ : _ ∧ k_ ≠ gb317))) (fun k_ hk => (⟨hk, by first | exact hk.1.1.2 | exact hk.1 | exact hk.2 | exact hk.1.1 | exact hk.1.2⟩ : _ ∧ k_ ≠ gb318))) (fun k_ hk => (⟨hk, by first | exact hk.1.1.2 | exact hk.1 | exact hk.2 | exact hk.1.1 | exact hk.1.2⟩ : _ ∧ k_ ≠ gb319))) (fun _ hk => hk.1.1.2) (.int .i64 t290)) (fun _ hk => hk.1.1.2) (.int .i64 t291)) (fun _ hk => hk.1.1.2) (.int .i64 t292)) (fun _ hk => hk.1.1.2) (.int .i64 t293)) (fun _ hk => hk.1.1.2) (.slice Ao24 t294.length co24)) (fun _ hk => hk.1.2) (.int .i64 t299)) (fun _ hk => hk.1.2) (.int .i64 t300)) (fun _ hk => hk.1.2) (.int .i64 t301)) (fun _ hk => hk.1.2) (.int .i64 t302)) (fun _ hk => hk.1.2) (.slice Ao28 t303.length co28)) (fun _ hk => hk.2) (.int .i64 t308)) (fun _ hk => hk.2) (.int .i64 t309)) (fun _ hk => hk.2) (.int .i64 t310)) (fun _ hk => hk.2) (.int .i64 t311)) (fun _ hk => hk.2) (.slice Ao31 t312.length co31)) (fun _ h_ => h_.1)) (fun _ h_ => h_.1)) (fun _ h_ => h_.1))) hb); replace HO305 := Aside0.mk (Kd.N_below (by (with_reducible repeat (first | apply Kd.N_alloc | apply Kd.N_drewN | apply Kd.N_drew)); exact (Kd.N_mono (Kd.N_mono (Kd.N_mono (Kd.N_far (p := ⟨gb319, 4, none⟩) (Kd.N_far (p := ⟨gb319, 3, none⟩) (Kd.N_far (p := ⟨gb319, 2, none⟩) (Kd.N_far (p := ⟨gb319, 1, none⟩) (Kd.N_far (p := ⟨gb319, 0, none⟩) (Kd.N_far (p := ⟨gb318, 4, none⟩) (Kd.N_far (p := ⟨gb318, 3, none⟩) (Kd.N_far (p := ⟨gb318, 2, none⟩) (Kd.N_far (p := ⟨gb318, 1, none⟩) (Kd.N_far (p := ⟨gb318, 0, none⟩) (Kd.N_far (p := ⟨gb317, 4, none⟩) (Kd.N_far (p := ⟨gb317, 3, none⟩) (Kd.N_far (p := ⟨gb317, 2, none⟩) (Kd.N_far (p := ⟨gb317, 1, none⟩) (Kd.N_far (p := ⟨gb317, 0, none⟩) (Kd.N_mono (Kd.N_mono (Kd.N_mono HO305.out (fun k_ hk => (⟨hk, by first | exact hk.1.1.2 | exact hk.1 | exact hk.2 | exact hk.1.1 | exact hk.1.2⟩ : _ ∧ k_ ≠ gb317))) (fun k_ hk => (⟨hk, by first | exact hk.1.1.2 | exact hk.1 | exact hk.2 | exact hk.1.1 | exact hk.1.2⟩ : _ ∧ k_ ≠ gb318))) (fun k_ hk => (⟨hk, by first | exact hk.1.1.2 | exact hk.1 | exact hk.2 | exact hk.1.1 | exact hk.1.2⟩ : _ ∧ k_ ≠ gb319))) (fun _ hk => hk.1.1.2) (.int .i64 t290)) (fun _ hk => hk.1.1.2) (.int .i64 t291)) (fun _ hk => hk.1.1.2) (.int .i64 t292)) (fun _ hk => hk.1.1.2) (.int .i64 t293)) (fun _ hk => hk.1.1.2) (.slice Ao24 t294.length co24)) (fun _ hk => hk.1.2) (.int .i64 t299)) (fun _ hk => hk.1.2) (.int .i64 t300)) (fun _ hk => hk.1.2) (.int .i64 t301)) (fun _ hk => hk.1.2) (.int .i64 t302)) (fun _ hk => hk.1.2) (.slice Ao28 t303.length co28)) (fun _ hk => hk.2) (.int .i64 t308)) (fun _ hk => hk.2) (.int .i64 t309)) (fun _ hk => hk.2) (.int .i64 t310)) (fun _ hk => hk.2) (.int .i64 t311)) (fun _ hk => hk.2) (.slice Ao31 t312.length co31)) (fun _ h_ => h_.1)) (fun _ h_ => h_.1)) (fun _ h_ => h_.1))) hb); replace HO314 := Aside0.mk (Kd.N_below (by (with_reducible repeat (first | apply Kd.N_alloc | apply Kd.N_drewN | apply Kd.N_drew)); exact (Kd.N_mono (Kd.N_mono (Kd.N_mono (Kd.N_far (p := ⟨gb319, 4, none⟩) (Kd.N_far (p := ⟨gb319, 3, none⟩) (Kd.N_far (p := ⟨gb319, 2, none⟩) (Kd.N_far (p := ⟨gb319, 1, none⟩) (Kd.N_far (p := ⟨gb319, 0, none⟩) (Kd.N_far (p := ⟨gb318, 4, none⟩) (Kd.N_far (p := ⟨gb318, 3, none⟩) (Kd.N_far (p := ⟨gb318, 2, none⟩) (Kd.N_far (p := ⟨gb318, 1, none⟩) (Kd.N_far (p := ⟨gb318, 0, none⟩) (Kd.N_far (p := ⟨gb317, 4, none⟩) (Kd.N_far (p := ⟨gb317, 3, none⟩) (Kd.N_far (p := ⟨gb317, 2, none⟩) (Kd.N_far (p := ⟨gb317, 1, none⟩) (Kd.N_far (p := ⟨gb317, 0, none⟩) (Kd.N_mono (Kd.N_mono (Kd.N_mono HO314.out (fun k_ hk => (⟨hk, by first | exact hk.1.1.2 | exact hk.1 | exact hk.2 | exact hk.1.1 | exact hk.1.2⟩ : _ ∧ k_ ≠ gb317))) (fun k_ hk => (⟨hk, by first | exact hk.1.1.2 | exact hk.1 | exact hk.2 | exact hk.1.1 | exact hk.1.2⟩ : _ ∧ k_ ≠ gb318))) (fun k_ hk => (⟨hk, by first | exact hk.1.1.2 | exact hk.1 | exact hk.2 | exact hk.1.1 | exact hk.1.2⟩ : _ ∧ k_ ≠ gb319))) (fun _ hk => hk.1.1.2) (.int .i64 t290)) (fun _ hk => hk.1.1.2) (.int .i64 t291)) (fun _ hk => hk.1.1.2) (.int .i64 t292)) (fun _ hk => hk.1.1.2) (.int .i64 t293)) (fun _ hk => hk.1.1.2) (.slice Ao24 t294.length co24)) (fun _ hk => hk.1.2) (.int .i64 t299)) (fun _ hk => hk.1.2) (.int .i64 t300)) (fun _ hk => hk.1.2) (.int .i64 t301)) (fun _ hk => hk.1.2) (.int .i64 t302)) (fun _ hk => hk.1.2) (.slice Ao28 t303.length co28)) (fun _ hk => hk.2) (.int .i64 t308)) (fun _ hk => hk.2) (.int .i64 t309)) (fun _ hk => hk.2) (.int .i64 t310)) (fun _ hk => hk.2) (.int .i64 t311)) (fun _ hk => hk.2) (.slice Ao31 t312.length co31)) (fun _ h_ => h_.1)) (fun _ h_ => h_.1)) (fun _ h_ => h_.1))) hb); replace HI289 := Aside0.mk (IsS63.below (show IsS63 w (((((((((((((((w19.setCell ⟨gb317, 0, none⟩ (.int .i64 t290)).setCell ⟨gb317, 1, none⟩ (.int .i64 t291)).setCell ⟨gb317, 2, none⟩ (.int .i64 t292)).setCell ⟨gb317, 3, none⟩ (.int .i64 t293)).setCell ⟨gb317, 4, none⟩ (.slice Ao24 t294.length co24)).setCell ⟨gb318, 0, none⟩ (.int .i64 t299)).setCell ⟨gb318, 1, none⟩ (.int .i64 t300)).setCell ⟨gb318, 2, none⟩ (.int .i64 t301)).setCell ⟨gb318, 3, none⟩ (.int .i64 t302)).setCell ⟨gb318, 4, none⟩ (.slice Ao28 t303.length co28)).setCell ⟨gb319, 0, none⟩ (.int .i64 t308)).setCell ⟨gb319, 1, none⟩ (.int .i64 t309)).setCell ⟨gb319, 2, none⟩ (.int .i64 t310)).setCell ⟨gb319, 3, none⟩ (.int .i64 t311)).setCell ⟨gb319, 4, none⟩ (.slice Ao31 t312.length co31)) g289 t286 t315 t316 from si63_) hb); replace BK317 := Aside0.mk (blk_below (g := gb317) (o := .cells #[.int .i64 t290, .int .i64 t291, .int .i64 t292, .int .i64 t293, .slice Ao24 t294.length co24] 24 (0, 0)) (by (with_reducible repeat (first | refine blk_drewN ?_ _ | refine blk_drew ?_ | refine blk_alloc ?_ _)); refine blk_far ?_ NB317_319.out _; (with_reducible repeat (first | refine blk_drewN ?_ _ | refine blk_drew ?_ | refine blk_alloc ?_ _)); refine blk_far ?_ NB317_319.out _; (with_reducible repeat (first | refine blk_drewN ?_ _ | refine blk_drew ?_ | refine blk_alloc ?_ _)); refine blk_far ?_ NB317_319.out _; (with_reducible repeat (first | refine blk_drewN ?_ _ | refine blk_drew ?_ | refine blk_alloc ?_ _)); refine blk_far ?_ NB317_319.out _; (with_reducible repeat (first | refine blk_drewN ?_ _ | refine blk_drew ?_ | refine blk_alloc ?_ _)); refine blk_far ?_ NB317_319.out _; (with_reducible repeat (first | refine blk_drewN ?_ _ | refine blk_drew ?_ | refine blk_alloc ?_ _)); refine blk_far ?_ NB317_318.out _; (with_reducible repeat (first | refine blk_drewN ?_ _ | refine blk_drew ?_ | refine blk_alloc ?_ _)); refine blk_far ?_ NB317_318.out _; (with_reducible repeat (first | refine blk_drewN ?_ _ | refine blk_drew ?_ | refine blk_alloc ?_ _)); refine blk_far ?_ NB317_318.out _; (with_reducible repeat (first | refine blk_drewN ?_ _ | refine blk_drew ?_ | refine blk_alloc ?_ _)); refine blk_far ?_ NB317_318.out _; (with_reducible repeat (first | refine blk_drewN ?_ _ | refine blk_drew ?_ | refine blk_alloc ?_ _)); refine blk_far ?_ NB317_318.out _; (with_reducible repeat (first | refine blk_drewN ?_ _ | refine blk_drew ?_ | refine blk_alloc ?_ _)); refine blk_put (cs := #[.int .i64 t290, .int .i64 t291, .int .i64 t292, .int .i64 t293, .slice none 0 0]) ?_ 4 _ rfl; (with_reducible repeat (first | refine blk_drewN ?_ _ | refine blk_drew ?_ | refine blk_alloc ?_ _)); refine blk_put (cs := #[.int .i64 t290, .int .i64 t291, .int .i64 t292, .int .i64 0, .slice none 0 0]) ?_ 3 _ rfl; (with_reducible repeat (first | refine blk_drewN ?_ _ | refine blk_drew ?_ | refine blk_alloc ?_ _)); refine blk_put (cs := #[.int .i64 t290, .int .i64 t291, .int .i64 0, .int .i64 0, .slice none 0 0]) ?_ 2 _ rfl; (with_reducible repeat (first | refine blk_drewN ?_ _ | refine blk_drew ?_ | refine blk_alloc ?_ _)); refine blk_put (cs := #[.int .i64 t290, .int .i64 0, .int .i64 0, .int .i64 0, .slice none 0 0]) ?_ 1 _ rfl; (with_reducible repeat (first | refine blk_drewN ?_ _ | refine blk_drew ?_ | refine blk_alloc ?_ _)); refine blk_put (cs := #[.int .i64 0, .int .i64 0, .int .i64 0, .int .i64 0, .slice none 0 0]) ?_ 0 _ rfl; (with_reducible repeat (first | refine blk_drewN ?_ _ | refine blk_drew ?_ | refine blk_alloc ?_ _)); exact BK317.out) hb); replace BK318 := Aside0.mk (blk_below (g := gb318) (o := .cells #[.int .i64 t299, .int .i64 t300, .int .i64 t301, .int .i64 t302, .slice Ao28 t303.length co28] 24 (0, 0)) (by (with_reducible repeat (first | refine blk_drewN ?_ _ | refine blk_drew ?_ | refine blk_alloc ?_ _)); refine blk_far ?_ NB318_319.out _; (with_reducible repeat (first | refine blk_drewN ?_ _ | refine blk_drew ?_ | refine blk_alloc ?_ _)); refine blk_far ?_ NB318_319.out _; (with_reducible repeat (first | refine blk_drewN ?_ _ | refine blk_drew ?_ | refine blk_alloc ?_ _)); refine blk_far ?_ NB318_319.out _; (with_reducible repeat (first | refine blk_drewN ?_ _ | refine blk_drew ?_ | refine blk_alloc ?_ _)); refine blk_far ?_ NB318_319.out _; (with_reducible repeat (first | refine blk_drewN ?_ _ | refine blk_drew ?_ | refine blk_alloc ?_ _)); refine blk_far ?_ NB318_319.out _; (with_reducible repeat (first | refine blk_drewN ?_ _ | refine blk_drew ?_ | refine blk_alloc ?_ _)); refine blk_put (cs := #[.int .i64 t299, .int .i64 t300, .int .i64 t301, .int .i64 t302, .slice none 0 0]) ?_ 4 _ rfl; (with_reducible repeat (first | refine blk_drewN ?_ _ | refine blk_drew ?_ | refine blk_alloc ?_ _)); refine blk_put (cs := #[.int .i64 t299, .int .i64 t300, .int .i64 t301, .int .i64 0, .slice none 0 0]) ?_ 3 _ rfl; (with_reducible repeat (first | refine blk_drewN ?_ _ | refine blk_drew ?_ | refine blk_alloc ?_ _)); refine blk_put (cs := #[.int .i64 t299, .int .i64 t300, .int .i64 0, .int .i64 0, .slice none 0 0]) ?_ 2 _ rfl; (with_reducible repeat (first | refine blk_drewN ?_ _ | refine blk_drew ?_ | refine blk_alloc ?_ _)); refine blk_put (cs := #[.int .i64 t299, .int .i64 0, .int .i64 0, .int .i64 0, .slice none 0 0]) ?_ 1 _ rfl; (with_reducible repeat (first | refine blk_drewN ?_ _ | refine blk_drew ?_ | refine blk_alloc ?_ _)); refine blk_put (cs := #[.int .i64 0, .int .i64 0, .int .i64 0, .int .i64 0, .slice none 0 0]) ?_ 0 _ rfl; (with_reducible repeat (first | refine blk_drewN ?_ _ | refine blk_drew ?_ | refine blk_alloc ?_ _)); refine blk_far ?_ NB318_317.out _; (with_reducible repeat (first | refine blk_drewN ?_ _ | refine blk_drew ?_ | refine blk_alloc ?_ _)); refine blk_far ?_ NB318_317.out _; (with_reducible repeat (first | refine blk_drewN ?_ _ | refine blk_drew ?_ | refine blk_alloc ?_ _)); refine blk_far ?_ NB318_317.out _; (with_reducible repeat (first | refine blk_drewN ?_ _ | refine blk_drew ?_ | refine blk_alloc ?_ _)); refine blk_far ?_ NB318_317.out _; (with_reducible repeat (first | refine blk_drewN ?_ _ | refine blk_drew ?_ | refine blk_alloc ?_ _)); refine blk_far ?_ NB318_317.out _; (with_reducible repeat (first | refine blk_drewN ?_ _ | refine blk_drew ?_ | refine blk_alloc ?_ _)); exact BK318.out) hb); replace BK319 := Aside0.mk (blk_below (g := gb319) (o := .cells #[.int .i64 t308, .int .i64 t309, .int .i64 t310, .int .i64 t311, .slice Ao31 t312.length co31] 24 (0, 0)) (by (with_reducible repeat (first | refine blk_drewN ?_ _ | refine blk_drew ?_ | refine blk_alloc ?_ _)); refine blk_put (cs := #[.int .i64 t308, .int .i64 t309, .int .i64 t310, .int .i64 t311, .slice none 0 0]) ?_ 4 _ rfl; (with_reducible repeat (first | refine blk_drewN ?_ _ | refine blk_drew ?_ | refine blk_alloc ?_ _)); refine blk_put (cs := #[.int .i64 t308, .int .i64 t309, .int .i64 t310, .int .i64 0, .slice none 0 0]) ?_ 3 _ rfl; (with_reducible repeat (first | refine blk_drewN ?_ _ | refine blk_drew ?_ | refine blk_alloc ?_ _)); refine blk_put (cs := #[.int .i64 t308, .int .i64 t309, .int .i64 0, .int .i64 0, .slice none 0 0]) ?_ 2 _ rfl; (with_reducible repeat (first | refine blk_drewN ?_ _ | refine blk_drew ?_ | refine blk_alloc ?_ _)); refine blk_put (cs := #[.int .i64 t308, .int .i64 0, .int .i64 0, .int .i64 0, .slice none 0 0]) ?_ 1 _ rfl; (with_reducible repeat (first | refine blk_drewN ?_ _ | refine blk_drew ?_ | refine blk_alloc ?_ _)); refine blk_put (cs := #[.int .i64 0, .int .i64 0, .int .i64 0, .int .i64 0, .slice none 0 0]) ?_ 0 _ rfl; (with_reducible repeat (first | refine blk_drewN ?_ _ | refine blk_drew ?_ | refine blk_alloc ?_ _)); refine blk_far ?_ NB319_318.out _; (with_reducible repeat (first | refine blk_drewN ?_ _ | refine blk_drew ?_ | refine blk_alloc ?_ _)); refine blk_far ?_ NB319_318.out _; (with_reducible repeat (first | refine blk_drewN ?_ _ | refine blk_drew ?_ | refine blk_alloc ?_ _)); refine blk_far ?_ NB319_318.out _; (with_reducible repeat (first | refine blk_drewN ?_ _ | refine blk_drew ?_ | refine blk_alloc ?_ _)); refine blk_far ?_ NB319_318.out _; (with_reducible repeat (first | refine blk_drewN ?_ _ | refine blk_drew ?_ | refine blk_alloc ?_ _)); refine blk_far ?_ NB319_318.out _; (with_reducible repeat (first | refine blk_drewN ?_ _ | refine blk_drew ?_ | refine blk_alloc ?_ _)); refine blk_far ?_ NB319_317.out _; (with_reducible repeat (first | refine blk_drewN ?_ _ | refine blk_drew ?_ | refine blk_alloc ?_ _)); refine blk_far ?_ NB319_317.out _; (with_reducible repeat (first | refine blk_drewN ?_ _ | refine blk_drew ?_ | refine blk_alloc ?_ _)); refine blk_far ?_ NB319_317.out _; (with_reducible repeat (first | refine blk_drewN ?_ _ | refine blk_drew ?_ | refine blk_alloc ?_ _)); refine blk_far ?_ NB319_317.out _; (with_reducible repeat (first | refine blk_drewN ?_ _ | refine blk_drew ?_ | refine blk_alloc ?_ _)); refine blk_far ?_ NB319_317.out _; (with_reducible repeat (first | refine blk_drewN ?_ _ | refine blk_drew ?_ | refine blk_alloc ?_ _)); exact BK319.out) hb); replace HB := Aside0.mk (below_step bl63_ hb); (try clear hb); (try clear hb2); (try clear hk); (try clear hi); obtain ⟨hcz33_0, hcz33_1, hcz33_2, hcz33_3, hcz33_4, hfz33_0, hfz33_1, hfz33_2, hfz33_3, hfz33_4⟩ := cf5_ BK318.out) | ((with_reducible refine gate_callee (f := 16) rfl ?_); refine goesL_ (some 36) rfl rfl Tryd.func16 (by kernel_rfl) rfl #[.agg #[.int .i64 t299, .int .i64 t300, .int .i64 t301, .int .i64 t302, .slice Ao28 t303.length co28]] rfl (by (try simp only [List.map_toArray, List.map_cons, List.map_nil]); first | done | rfl | (simp only [List.length_drop, List.length_take]; rfl)) ?_; (with_reducible refine (types_Size.calls k t299 t300 t301 t302 _ _ t303 t322 t323 _ ?side1 ?side2 A7.out).mono ?_); (case side1 => repeat (first | exact (Kd.N_reads' HO305.out).2.2 | (with_reducible refine Kd.C_alloc ?_ _) | (with_reducible refine Kd.C_drewN ?_ _) | (with_reducible refine Kd.C_drew ?_))); (case side2 => exact (Kd.N_reads' HO305.out).2.1); rintro e w34 ⟨rfl, hb⟩; refine ⟨_, rfl, ?_⟩; replace HO296 := Aside0.mk (Kd.N_below (pN_ HO296.out) hb); replace HO305 := Aside0.mk (Kd.N_below (pN_ HO305.out) hb); replace HO314 := Aside0.mk (Kd.N_below (pN_ HO314.out) hb); replace HI289 := Aside0.mk (IsS63.below si63_ hb); replace BK317 := Aside0.mk (blk_below (g := gb317) (o := .cells #[.int .i64 t290, .int .i64 t291, .int .i64 t292, .int .i64 t293, .slice Ao24 t294.length co24] 24 (0, 0)) bk_ hb); replace BK318 := Aside0.mk (blk_below (g := gb318) (o := .cells #[.int .i64 t299, .int .i64 t300, .int .i64 t301, .int .i64 t302, .slice Ao28 t303.length co28] 24 (0, 0)) bk_ hb); replace BK319 := Aside0.mk (blk_below (g := gb319) (o := .cells #[.int .i64 t308, .int .i64 t309, .int .i64 t310, .int .i64 t311, .slice Ao31 t312.length co31] 24 (0, 0)) bk_ hb); replace HB := Aside0.mk (below_step bl63_ hb); (try clear hb); (try clear hb2); (try clear hk); (try clear hi); obtain ⟨hcz35_0, hcz35_1, hcz35_2, hcz35_3, hcz35_4, hfz35_0, hfz35_1, hfz35_2, hfz35_3, hfz35_4⟩ := cf5_ BK319.out) | ((with_reducible refine gate_callee (f := 16) rfl ?_); refine goesL_ (some 41) rfl rfl Tryd.func16 (by kernel_rfl) rfl #[.agg #[.int .i64 t308, .int .i64 t309, .int .i64 t310, .int .i64 t311, .slice Ao31 t312.length co31]] rfl (by (try simp only [List.map_toArray, List.map_cons, List.map_nil]); first | done | rfl | (simp only [List.length_drop, List.length_take]; rfl)) ?_; (with_reducible refine (types_Size.calls k t308 t309 t310 t311 _ _ t312 t324 t325 _ ?side1 ?side2 A8.out).mono ?_); (case side1 => repeat (first | exact (Kd.N_reads' HO314.out).2.2 | (with_reducible refine Kd.C_alloc ?_ _) | (with_reducible refine Kd.C_drewN ?_ _) | (with_reducible refine Kd.C_drew ?_))); (case side2 => exact (Kd.N_reads' HO314.out).2.1); rintro e w36 ⟨rfl, hb⟩; refine ⟨_, rfl, ?_⟩; replace HO296 := Aside0.mk (Kd.N_below (pN_ HO296.out) hb); replace HO305 := Aside0.mk (Kd.N_below (pN_ HO305.out) hb); replace HO314 := Aside0.mk (Kd.N_below (pN_ HO314.out) hb); replace HI289 := Aside0.mk (IsS63.below si63_ hb); replace BK317 := Aside0.mk (blk_below (g := gb317) (o := .cells #[.int .i64 t290, .int .i64 t291, .int .i64 t292, .int .i64 t293, .slice Ao24 t294.length co24] 24 (0, 0)) bk_ hb); replace BK318 := Aside0.mk (blk_below (g := gb318) (o := .cells #[.int .i64 t299, .int .i64 t300, .int .i64 t301, .int .i64 t302, .slice Ao28 t303.length co28] 24 (0, 0)) bk_ hb); replace BK319 := Aside0.mk (blk_below (g := gb319) (o := .cells #[.int .i64 t308, .int .i64 t309, .int .i64 t310, .int .i64 t311, .slice Ao31 t312.length co31] 24 (0, 0)) bk_ hb); replace HB := Aside0.mk (below_step bl63_ hb); (try clear hb); (try clear hb2); (try clear hk); (try clear hi); obtain ⟨hcz37_0, hcz37_1, hcz37_2, hcz37_3, hcz37_4, hfz37_0, hfz37_1, hfz37_2, hfz37_3, hfz37_4⟩ := cf5_ BK317.out; obtain ⟨hcz38_0, hcz38_1, hcz38_2, hcz38_3, hcz38_4, hfz38_0, hfz38_1, hfz38_2, hfz38_3, hfz38_4⟩ := cf5_ BK318.out) | ((with_reducible refine gate_dst (N := 47) rfl ?_); refine Kd.N_lit k24 _ 24 ?hg (N' := 47) ?hd (xs := ([(⟨t290, t291, t292, t293, t294⟩ : S24), (⟨t299, t300, t301, t302, t303⟩ : S24)] : List (S24))) (inner := [.int .i64 t290, .int .i64 t291, .int .i64 t292, .int .i64 t293, .slice Ao24 t294.length co24, .int .i64 t299, .int .i64 t300, .int .i64 t301, .int .i64 t302, .slice Ao28 t303.length co28]) (ok := (fun k_ => some k_ ≠ (.slice Ao31 t312.length co31 : Value).ownBlock ∧ k_ ≠ gb317 ∧ k_ ≠ gb318 ∧ k_ ≠ gb319 ∧ k_ ≠ g289)) (okp := (fun k_ => some k_ ≠ (.slice Ao31 t312.length co31 : Value).ownBlock ∧ k_ ≠ gb317 ∧ k_ ≠ gb318 ∧ k_ ≠ gb319 ∧ k_ ≠ g289)) ?hr ?hp (fun _ hk => hk) ((show ∀ k_, w36.heap.size ≤ k_ → (fun k_ => some k_ ≠ (.slice Ao31 t312.length co31 : Value).ownBlock ∧ k_ ≠ gb317 ∧ k_ ≠ gb318 ∧ k_ ≠ gb319 ∧ k_ ≠ g289) k_ from fun k_ hk => ⟨Kd.fresh' (Kd.N_lt (pN_ HO314.out)) k_ hk, Kd.freshB (g := gb317) (o := .cells #[.int .i64 t290, .int .i64 t291, .int .i64 t292, .int .i64 t293, .slice Ao24 t294.length co24] 24 (0, 0)) bk_ k_ hk, Kd.freshB (g := gb318) (o := .cells #[.int .i64 t299, .int .i64 t300, .int .i64 t301, .int .i64 t302, .slice Ao28 t303.length co28] 24 (0, 0)) bk_ k_ hk, Kd.freshB (g := gb319) (o := .cells #[.int .i64 t308, .int .i64 t309, .int .i64 t310, .int .i64 t311, .slice Ao31 t312.length co31] 24 (0, 0)) bk_ k_ hk, IsS63.fresh si63_ k_ hk⟩) _ (Nat.le_refl _)) (Below.refl _ _) (Nat.le_refl _) (by simp) ?_; (case hd => rfl); (case hg => rfl); (case hr => first | (go_simp; done) | (go_simp; rfl)); (case hp => exact (Reps.c5 (show Kd.FK k24 _ _ (⟨t290, t291, t292, t293, t294⟩ : S24) [.int .i64 t290, .int .i64 t291, .int .i64 t292, .int .i64 t293, .slice Ao24 t294.length co24] from (k24_mkF _ _ (⟨t290, t291, t292, t293, t294⟩ : S24) (Kd.N_reads' (Kd.N_mono (ok' := (fun k_ => some k_ ≠ (.slice Ao31 t312.length co31 : Value).ownBlock ∧ k_ ≠ gb317 ∧ k_ ≠ gb318 ∧ k_ ≠ gb319 ∧ k_ ≠ g289)) (HO296.out) (fun k_ hk => ⟨hk.1.1.1.2, ⟨hk.1.1.2, ⟨hk.1.2, ⟨hk.2, hk.1.1.1.1.1⟩⟩⟩⟩))).2.1 (Kd.N_F (Kd.N_mono (ok' := (fun k_ => some k_ ≠ (.slice Ao31 t312.length co31 : Value).ownBlock ∧ k_ ≠ gb317 ∧ k_ ≠ gb318 ∧ k_ ≠ gb319 ∧ k_ ≠ g289)) (HO296.out) (fun k_ hk => ⟨hk.1.1.1.2, ⟨hk.1.1.2, ⟨hk.1.2, ⟨hk.2, hk.1.1.1.1.1⟩⟩⟩⟩))))) (Reps.c5 (show Kd.FK k24 _ _ (⟨t299, t300, t301, t302, t303⟩ : S24) [.int .i64 t299, .int .i64 t300, .int .i64 t301, .int .i64 t302, .slice Ao28 t303.length co28] from (k24_mkF _ _ (⟨t299, t300, t301, t302, t303⟩ : S24) (Kd.N_reads' (Kd.N_mono (ok' := (fun k_ => some k_ ≠ (.slice Ao31 t312.length co31 : Value).ownBlock ∧ k_ ≠ gb317 ∧ k_ ≠ gb318 ∧ k_ ≠ gb319 ∧ k_ ≠ g289)) (HO305.out) (fun k_ hk => ⟨hk.1.1.1.2, ⟨hk.1.1.2, ⟨hk.1.2, ⟨hk.2, hk.1.1.1.1.2⟩⟩⟩⟩))).2.1 (Kd.N_F (Kd.N_mono (ok' := (fun k_ => some k_ ≠ (.slice Ao31 t312.length co31 : Value).ownBlock ∧ k_ ≠ gb317 ∧ k_ ≠ gb318 ∧ k_ ≠ gb319 ∧ k_ ≠ g289)) (HO305.out) (fun k_ hk => ⟨hk.1.1.1.2, ⟨hk.1.1.2, ⟨hk.1.2, ⟨hk.2, hk.1.1.1.1.2⟩⟩⟩⟩))))) (Reps.none _ _)))); intro v327 w39 ho40 hb hg_ hnew_; clear hg_ hnew_; (first | rw [← Ny326.out] at ho40 | (simp only [Int.reduceToNat] at ho40; rw [← Ny326.out] at ho40)); have HO328 := Aside0.mk (Kd.N_lower ho40 (below_size bl63_)); replace HO296 := Aside0.mk (Kd.N_elder' (pN_ HO296.out) (by first | exact Kd.N_base ho40 | exact Kd.R_base ho40) hb); replace HO305 := Aside0.mk (Kd.N_elder' (pN_ HO305.out) (by first | exact Kd.N_base ho40 | exact Kd.R_base ho40) hb); replace HO314 := Aside0.mk (Kd.N_elder' (pN_ HO314.out) (by first | exact Kd.N_base ho40 | exact Kd.R_base ho40) hb); replace HI289 := Aside0.mk (IsS63.below si63_ hb); replace BK317 := Aside0.mk (blk_below (g := gb317) (o := .cells #[.int .i64 t290, .int .i64 t291, .int .i64 t292, .int .i64 t293, .slice Ao24 t294.length co24] 24 (0, 0)) bk_ hb); replace BK318 := Aside0.mk (blk_below (g := gb318) (o := .cells #[.int .i64 t299, .int .i64 t300, .int .i64 t301, .int .i64 t302, .slice Ao28 t303.length co28] 24 (0, 0)) bk_ hb); replace BK319 := Aside0.mk (blk_below (g := gb319) (o := .cells #[.int .i64 t308, .int .i64 t309, .int .i64 t310, .int .i64 t311, .slice Ao31 t312.length co31] 24 (0, 0)) bk_ hb); replace HB := Aside0.mk (below_step bl63_ hb); clear hb ho40; obtain ⟨Ao41, co41, eo41⟩ := Kd.N_slice HO328.out; subst eo41) | ((with_reducible refine gate_callee (f := 16) rfl ?_); refine goesL_ (some 49) rfl rfl Tryd.func16 (by kernel_rfl) rfl #[.agg #[.int .i64 5, .int .i64 0, .int .i64 0, .int .i64 0, .slice Ao41 y326.length co41]] rfl (by (try simp only [List.map_toArray, List.map_cons, List.map_nil]); first | done | rfl | (simp only [List.length_drop, List.length_take]; rfl)) ?_; (with_reducible refine (types_Size.calls k 5 0 0 0 _ _ y326 t329 t330 _ ?side1 ?side2 A9.out).mono ?_); (case side1 => repeat (first | exact (Kd.N_reads' HO328.out).2.2 | (with_reducible refine Kd.C_alloc ?_ _) | (with_reducible refine Kd.C_drewN ?_ _) | (with_reducible refine Kd.C_drew ?_))); (case side2 => exact (Kd.N_reads' HO328.out).2.1); rintro e w42 ⟨rfl, hb⟩; refine ⟨_, rfl, ?_⟩; replace HO296 := Aside0.mk (Kd.N_below (pN_ HO296.out) hb); replace HO305 := Aside0.mk (Kd.N_below (pN_ HO305.out) hb); replace HO314 := Aside0.mk (Kd.N_below (pN_ HO314.out) hb); replace HO328 := Aside0.mk (Kd.N_below (pN_ HO328.out) hb); replace HI289 := Aside0.mk (IsS63.below si63_ hb); replace BK317 := Aside0.mk (blk_below (g := gb317) (o := .cells #[.int .i64 t290, .int .i64 t291, .int .i64 t292, .int .i64 t293, .slice Ao24 t294.length co24] 24 (0, 0)) bk_ hb); replace BK318 := Aside0.mk (blk_below (g := gb318) (o := .cells #[.int .i64 t299, .int .i64 t300, .int .i64 t301, .int .i64 t302, .slice Ao28 t303.length co28] 24 (0, 0)) bk_ hb); replace BK319 := Aside0.mk (blk_below (g := gb319) (o := .cells #[.int .i64 t308, .int .i64 t309, .int .i64 t310, .int .i64 t311, .slice Ao31 t312.length co31] 24 (0, 0)) bk_ hb); replace HB := Aside0.mk (below_step bl63_ hb); (try clear hb); (try clear hb2); (try clear hk); (try clear hi)) | ((with_reducible refine gate_callee (f := 17) rfl ?_); refine goesL_ (some 53) rfl rfl Tryd.func17 (by kernel_rfl) rfl #[.pointer (some ⟨g289, 0, none⟩), .int .i64 1, .int .i64 4] rfl (by (try simp only [List.map_toArray, List.map_cons, List.map_nil]); first | done | rfl | (simp only [List.length_drop, List.length_take]; rfl)) ?_; (with_reducible refine (exactpplmake_Src_Range.calls g289 t286 t315 t316 1 4 t331 t332 t333 w _ ?side1 ?side2 A10.out).mono ?_); (case side1 => repeat (first | (with_reducible first | exact HI289.out | apply IsS63.alloc | apply IsS63.drewN | apply IsS63.drew | apply IsS63.set_1 | apply IsS63.set_2 | refine IsS63.far ?_ NB289_317.out _ | refine IsS63.far ?_ NB289_318.out _ | refine IsS63.far ?_ NB289_319.out _) | exact HI289.out)); (case side2 => repeat (first | (with_reducible first | exact HB.out | apply below_alloc | apply pw_below_drewN | apply below_drew1 | refine below_set ?_ (IsS63.ge HI289.out) | refine below_set ?_ GE317.out | refine below_set ?_ GE318.out | refine below_set ?_ GE319.out) | exact HB.out)); rintro e w43 ⟨rfl, hi, hb, hk⟩; refine ⟨_, rfl, ?_⟩; replace HO296 := Aside0.mk (Kd.N_mono (Kd.N_keep (Kd.N_mono (ok := fun k_ => ((((((k_ ≠ g289 ∧ some k_ ≠ (.slice Ao28 t303.length co28 : Value).ownBlock) ∧ some k_ ≠ (.slice Ao31 t312.length co31 : Value).ownBlock) ∧ k_ ≠ gb317) ∧ k_ ≠ gb318) ∧ k_ ≠ gb319) ∧ some k_ ≠ (.slice Ao41 y326.length co41 : Value).ownBlock)) (pN_ HO296.out) (fun k_ hk_ => (⟨hk_, hk_.1.1.1.1.1.1⟩ : _ ∧ k_ ≠ g289))) hk (fun _ h => h.2)) (fun _ h => h.1)); replace HO305 := Aside0.mk (Kd.N_mono (Kd.N_keep (Kd.N_mono (ok := fun k_ => ((((((some k_ ≠ (.slice Ao24 t294.length co24 : Value).ownBlock ∧ k_ ≠ g289) ∧ some k_ ≠ (.slice Ao31 t312.length co31 : Value).ownBlock) ∧ k_ ≠ gb317) ∧ k_ ≠ gb318) ∧ k_ ≠ gb319) ∧ some k_ ≠ (.slice Ao41 y326.length co41 : Value).ownBlock)) (pN_ HO305.out) (fun k_ hk_ => (⟨hk_, hk_.1.1.1.1.1.2⟩ : _ ∧ k_ ≠ g289))) hk (fun _ h => h.2)) (fun _ h => h.1)); replace HO314 := Aside0.mk (Kd.N_mono (Kd.N_keep (Kd.N_mono (ok := fun k_ => (((((some k_ ≠ (.slice Ao24 t294.length co24 : Value).ownBlock ∧ (some k_ ≠ (.slice Ao28 t303.length co28 : Value).ownBlock ∧ k_ ≠ g289)) ∧ k_ ≠ gb317) ∧ k_ ≠ gb318) ∧ k_ ≠ gb319) ∧ some k_ ≠ (.slice Ao41 y326.length co41 : Value).ownBlock)) (pN_ HO314.out) (fun k_ hk_ => (⟨hk_, hk_.1.1.1.1.2.2⟩ : _ ∧ k_ ≠ g289))) hk (fun _ h => h.2)) (fun _ h => h.1)); replace BK317 := Aside0.mk (KeepBut.blk hk (g' := gb317) (o := .cells #[.int .i64 t290, .int .i64 t291, .int .i64 t292, .int .i64 t293, .slice Ao24 t294.length co24] 24 (0, 0)) bk_ NB317_289.out (by simp)); replace BK318 := Aside0.mk (KeepBut.blk hk (g' := gb318) (o := .cells #[.int .i64 t299, .int .i64 t300, .int .i64 t301, .int .i64 t302, .slice Ao28 t303.length co28] 24 (0, 0)) bk_ NB318_289.out (by simp)); replace BK319 := Aside0.mk (KeepBut.blk hk (g' := gb319) (o := .cells #[.int .i64 t308, .int .i64 t309, .int .i64 t310, .int .i64 t311, .slice Ao31 t312.length co31] 24 (0, 0)) bk_ NB319_289.out (by simp)); replace HO328 := Aside0.mk (Kd.N_mono (Kd.N_keep (Kd.N_mono (ok := fun k_ => (some k_ ≠ (.slice Ao31 t312.length co31 : Value).ownBlock ∧ (k_ ≠ gb317 ∧ (k_ ≠ gb318 ∧ (k_ ≠ gb319 ∧ k_ ≠ g289))))) (pN_ HO328.out) (fun k_ hk_ => (⟨hk_, hk_.2.2.2.2⟩ : _ ∧ k_ ≠ g289))) hk (fun _ h => h.2)) (fun _ h => h.1)); replace HB := Aside0.mk (hb); replace HI289 := Aside0.mk (hi); (try clear hb); (try clear hb2); (try clear hk); (try clear hi); obtain ⟨hcz44_0, hcz44_1, hcz44_2, hcz44_3, hcz44_4, hfz44_0, hfz44_1, hfz44_2, hfz44_3, hfz44_4⟩ := cf5_ BK319.out) | ((with_reducible refine gate_dst (N := 57) rfl ?_); refine Kd.N_lit k24 _ 24 ?hg (N' := 57) ?hd (xs := ([(⟨t308, t309, t310, t311, t312⟩ : S24)] : List (S24))) (inner := [.int .i64 t308, .int .i64 t309, .int .i64 t310, .int .i64 t311, .slice Ao31 t312.length co31]) (ok := (fun k_ => some k_ ≠ (.slice Ao24 t294.length co24 : Value).ownBlock ∧ some k_ ≠ (.slice Ao28 t303.length co28 : Value).ownBlock ∧ some k_ ≠ (.slice Ao41 y326.length co41 : Value).ownBlock ∧ k_ ≠ gb317 ∧ k_ ≠ gb318 ∧ k_ ≠ gb319 ∧ k_ ≠ g289)) (okp := (fun k_ => some k_ ≠ (.slice Ao24 t294.length co24 : Value).ownBlock ∧ some k_ ≠ (.slice Ao28 t303.length co28 : Value).ownBlock ∧ some k_ ≠ (.slice Ao41 y326.length co41 : Value).ownBlock ∧ k_ ≠ gb317 ∧ k_ ≠ gb318 ∧ k_ ≠ gb319 ∧ k_ ≠ g289)) ?hr ?hp (fun _ hk => hk) ((show ∀ k_, w43.heap.size ≤ k_ → (fun k_ => some k_ ≠ (.slice Ao24 t294.length co24 : Value).ownBlock ∧ some k_ ≠ (.slice Ao28 t303.length co28 : Value).ownBlock ∧ some k_ ≠ (.slice Ao41 y326.length co41 : Value).ownBlock ∧ k_ ≠ gb317 ∧ k_ ≠ gb318 ∧ k_ ≠ gb319 ∧ k_ ≠ g289) k_ from fun k_ hk => ⟨Kd.fresh' (Kd.N_lt (pN_ HO296.out)) k_ hk, Kd.fresh' (Kd.N_lt (pN_ HO305.out)) k_ hk, Kd.fresh' (Kd.N_lt (pN_ HO328.out)) k_ hk, Kd.freshB (g := gb317) (o := .cells #[.int .i64 t290, .int .i64 t291, .int .i64 t292, .int .i64 t293, .slice Ao24 t294.length co24] 24 (0, 0)) bk_ k_ hk, Kd.freshB (g := gb318) (o := .cells #[.int .i64 t299, .int .i64 t300, .int .i64 t301, .int .i64 t302, .slice Ao28 t303.length co28] 24 (0, 0)) bk_ k_ hk, Kd.freshB (g := gb319) (o := .cells #[.int .i64 t308, .int .i64 t309, .int .i64 t310, .int .i64 t311, .slice Ao31 t312.length co31] 24 (0, 0)) bk_ k_ hk, IsS63.fresh si63_ k_ hk⟩) _ (Nat.le_refl _)) (Below.refl _ _) (Nat.le_refl _) (by simp) ?_; (case hd => rfl); (case hg => rfl); (case hr => first | (go_simp; done) | (go_simp; rfl)); (case hp => exact (Reps.c5 (show Kd.FK k24 _ _ (⟨t308, t309, t310, t311, t312⟩ : S24) [.int .i64 t308, .int .i64 t309, .int .i64 t310, .int .i64 t311, .slice Ao31 t312.length co31] from (k24_mkF _ _ (⟨t308, t309, t310, t311, t312⟩ : S24) (Kd.N_reads' (Kd.N_mono (ok' := (fun k_ => some k_ ≠ (.slice Ao24 t294.length co24 : Value).ownBlock ∧ some k_ ≠ (.slice Ao28 t303.length co28 : Value).ownBlock ∧ some k_ ≠ (.slice Ao41 y326.length co41 : Value).ownBlock ∧ k_ ≠ gb317 ∧ k_ ≠ gb318 ∧ k_ ≠ gb319 ∧ k_ ≠ g289)) (HO314.out) (fun k_ hk => ⟨hk.1.1.1.1.1, ⟨hk.1.1.1.1.2.1, ⟨hk.2, ⟨hk.1.1.1.2, ⟨hk.1.1.2, ⟨hk.1.2, hk.1.1.1.1.2.2⟩⟩⟩⟩⟩⟩))).2.1 (Kd.N_F (Kd.N_mono (ok' := (fun k_ => some k_ ≠ (.slice Ao24 t294.length co24 : Value).ownBlock ∧ some k_ ≠ (.slice Ao28 t303.length co28 : Value).ownBlock ∧ some k_ ≠ (.slice Ao41 y326.length co41 : Value).ownBlock ∧ k_ ≠ gb317 ∧ k_ ≠ gb318 ∧ k_ ≠ gb319 ∧ k_ ≠ g289)) (HO314.out) (fun k_ hk => ⟨hk.1.1.1.1.1, ⟨hk.1.1.1.1.2.1, ⟨hk.2, ⟨hk.1.1.1.2, ⟨hk.1.1.2, ⟨hk.1.2, hk.1.1.1.1.2.2⟩⟩⟩⟩⟩⟩))))) (Reps.none _ _))); intro v335 w45 ho46 hb hg_ hnew_; clear hg_ hnew_; (first | rw [← Ny334.out] at ho46 | (simp only [Int.reduceToNat] at ho46; rw [← Ny334.out] at ho46)); have HO336 := Aside0.mk (Kd.N_lower ho46 (below_size bl63_)); replace HO296 := Aside0.mk (Kd.N_elder' (pN_ HO296.out) (by first | exact Kd.N_base ho46 | exact Kd.R_base ho46) hb); replace HO305 := Aside0.mk (Kd.N_elder' (pN_ HO305.out) (by first | exact Kd.N_base ho46 | exact Kd.R_base ho46) hb); replace HO314 := Aside0.mk (Kd.N_elder' (pN_ HO314.out) (by first | exact Kd.N_base ho46 | exact Kd.R_base ho46) hb); replace HO328 := Aside0.mk (Kd.N_elder' (pN_ HO328.out) (by first | exact Kd.N_base ho46 | exact Kd.R_base ho46) hb); replace HI289 := Aside0.mk (IsS63.below si63_ hb); replace BK317 := Aside0.mk (blk_below (g := gb317) (o := .cells #[.int .i64 t290, .int .i64 t291, .int .i64 t292, .int .i64 t293, .slice Ao24 t294.length co24] 24 (0, 0)) bk_ hb); replace BK318 := Aside0.mk (blk_below (g := gb318) (o := .cells #[.int .i64 t299, .int .i64 t300, .int .i64 t301, .int .i64 t302, .slice Ao28 t303.length co28] 24 (0, 0)) bk_ hb); replace BK319 := Aside0.mk (blk_below (g := gb319) (o := .cells #[.int .i64 t308, .int .i64 t309, .int .i64 t310, .int .i64 t311, .slice Ao31 t312.length co31] 24 (0, 0)) bk_ hb); replace HB := Aside0.mk (below_step bl63_ hb); clear hb ho46; obtain ⟨Ao47, co47, eo47⟩ := Kd.N_slice HO336.out; subst eo47) | ((with_reducible refine gate_callee (f := 16) rfl ?_); refine goesL_ (some 59) rfl rfl Tryd.func16 (by kernel_rfl) rfl #[.agg #[.int .i64 6, .int .i64 0, .int .i64 0, .int .i64 t331, .slice Ao47 y334.length co47]] rfl (by (try simp only [List.map_toArray, List.map_cons, List.map_nil]); first | done | rfl | (simp only [List.length_drop, List.length_take]; rfl)) ?_; (with_reducible refine (types_Size.calls k 6 0 0 t331 _ _ y334 t337 t338 _ ?side1 ?side2 A11.out).mono ?_); (case side1 => repeat (first | exact (Kd.N_reads' HO336.out).2.2 | (with_reducible refine Kd.C_alloc ?_ _) | (with_reducible refine Kd.C_drewN ?_ _) | (with_reducible refine Kd.C_drew ?_))); (case side2 => exact (Kd.N_reads' HO336.out).2.1); rintro e w48 ⟨rfl, hb⟩; refine ⟨_, rfl, ?_⟩; replace HO296 := Aside0.mk (Kd.N_below (pN_ HO296.out) hb); replace HO305 := Aside0.mk (Kd.N_below (pN_ HO305.out) hb); replace HO314 := Aside0.mk (Kd.N_below (pN_ HO314.out) hb); replace HO328 := Aside0.mk (Kd.N_below (pN_ HO328.out) hb); replace HO336 := Aside0.mk (Kd.N_below (pN_ HO336.out) hb); replace HI289 := Aside0.mk (IsS63.below si63_ hb); replace BK317 := Aside0.mk (blk_below (g := gb317) (o := .cells #[.int .i64 t290, .int .i64 t291, .int .i64 t292, .int .i64 t293, .slice Ao24 t294.length co24] 24 (0, 0)) bk_ hb); replace BK318 := Aside0.mk (blk_below (g := gb318) (o := .cells #[.int .i64 t299, .int .i64 t300, .int .i64 t301, .int .i64 t302, .slice Ao28 t303.length co28] 24 (0, 0)) bk_ hb); replace BK319 := Aside0.mk (blk_below (g := gb319) (o := .cells #[.int .i64 t308, .int .i64 t309, .int .i64 t310, .int .i64 t311, .slice Ao31 t312.length co31] 24 (0, 0)) bk_ hb); replace HB := Aside0.mk (below_step bl63_ hb); (try clear hb); (try clear hb2); (try clear hk); (try clear hi)))
 (try simp only [Act.put, List.setIfInBounds_toArray, List.set_cons_zero, List.set_cons_succ])
 go_cut [79] (fun v79 wc => ∃ (kq : Nat) (x79_11 : Bool), v79 = .bool x79_11 ∧ Aside0 (exactppllaw06_TypesSizes.j0 kq t320 t322 t324 t329 t331 t337 x79_11 = some r) ∧ Aside0 (kq ≤ k) ∧ Aside0 (Kd.N k24 24 wc w.heap.size (fun k_ => some k_ ≠ ((.slice Ao28 t303.length co28) : Value).ownBlock ∧ some k_ ≠ ((.slice Ao31 t312.length co31) : Value).ownBlock ∧ k_ ≠ gb317 ∧ k_ ≠ gb318 ∧ k_ ≠ gb319) (.slice Ao24 t294.length co24) t294) ∧ Aside0 (Kd.N k24 24 wc w.heap.size (fun k_ => some k_ ≠ ((.slice Ao24 t294.length co24) : Value).ownBlock ∧ some k_ ≠ ((.slice Ao31 t312.length co31) : Value).ownBlock ∧ k_ ≠ gb317 ∧ k_ ≠ gb318 ∧ k_ ≠ gb319) (.slice Ao28 t303.length co28) t303) ∧ Aside0 (Kd.N k24 24 wc w.heap.size (fun k_ => some k_ ≠ ((.slice Ao24 t294.length co24) : Value).ownBlock ∧ some k_ ≠ ((.slice Ao28 t303.length co28) : Value).ownBlock ∧ k_ ≠ gb317 ∧ k_ ≠ gb318 ∧ k_ ≠ gb319) (.slice Ao31 t312.length co31) t312) ∧ Aside0 (wc.heap[gb317]? = some (.cells #[.int .i64 t290, .int .i64 t291, .int .i64 t292, .int .i64 t293, (.slice Ao24 t294.length co24)] 24 (0, 0))) ∧ Aside0 (wc.heap[gb318]? = some (.cells #[.int .i64 t299, .int .i64 t300, .int .i64 t301, .int .i64 t302, (.slice Ao28 t303.length co28)] 24 (0, 0))) ∧ Aside0 (wc.heap[gb319]? = some (.cells #[.int .i64 t308, .int .i64 t309, .int .i64 t310, .int .i64 t311, (.slice Ao31 t312.length co31)] 24 (0, 0))) ∧ Aside0 (Below w.heap.size w wc))
 case first =>
  have H := HC12.out
  clear HC12
  by_cases c49 : t321 = 0
  ·rw [if_pos c49] at H
   have c49b0 : (t321 == 0) = true := beq_iff_eq.mpr c49
   have c49b1 : (t321 != 0) = false := bne_eq_false_iff_eq.mpr c49
   clear c49
   (first | rw [c49b0] | (simp only [i64_w, i32_w]; rw [c49b0]) | skip)
   by_cases c50 : t323 = 0
   ·rw [if_pos c50] at H
    have c50b0 : (t323 == 0) = true := beq_iff_eq.mpr c50
    have c50b1 : (t323 != 0) = false := bne_eq_false_iff_eq.mpr c50
    clear c50
    by_cases c51 : t325 = 0
    ·rw [if_pos c51] at H
     have c51b0 : (t325 == 0) = true := beq_iff_eq.mpr c51
     have c51b1 : (t325 != 0) = false := bne_eq_false_iff_eq.mpr c51
     clear c51
     by_cases c52 : t330 = 0
     ·rw [if_pos c52] at H
      have c52b0 : (t330 == 0) = true := beq_iff_eq.mpr c52
      have c52b1 : (t330 != 0) = false := bne_eq_false_iff_eq.mpr c52
      clear c52
      have H' := Aside0.mk H
      clear H
      go_wp2
      go_meet
      case rel => exact ⟨_, ((t338 != 0)), rs_, H', ⟨by first | omega | exact Nat.le_refl _⟩, ⟨by (with_reducible repeat (first | apply Kd.N_alloc | apply Kd.N_drewN | apply Kd.N_drew)); exact Kd.N_mono HO296.out (fun _ hk => ⟨hk.1.1.1.1.1.1.2, ⟨hk.1.1.1.1.1.2, ⟨hk.1.1.1.1.2, ⟨hk.1.1.1.2, hk.1.1.2⟩⟩⟩⟩)⟩, ⟨by (with_reducible repeat (first | apply Kd.N_alloc | apply Kd.N_drewN | apply Kd.N_drew)); exact Kd.N_mono HO305.out (fun _ hk => ⟨hk.1.1.1.1.1.1.1, ⟨hk.1.1.1.1.1.2, ⟨hk.1.1.1.1.2, ⟨hk.1.1.1.2, hk.1.1.2⟩⟩⟩⟩)⟩, ⟨by (with_reducible repeat (first | apply Kd.N_alloc | apply Kd.N_drewN | apply Kd.N_drew)); exact Kd.N_mono HO314.out (fun _ hk => ⟨hk.1.1.1.1.1.1, ⟨hk.1.1.1.1.1.2.1, ⟨hk.1.1.1.1.2, ⟨hk.1.1.1.2, hk.1.1.2⟩⟩⟩⟩)⟩, ⟨bk_⟩, ⟨bk_⟩, ⟨bk_⟩, ⟨bl63_⟩⟩
     ·rw [if_neg c52] at H
      have c52b0 : (t330 == 0) = false := beq_eq_false_iff_ne.mpr c52
      have c52b1 : (t330 != 0) = true := bne_iff_ne.mpr c52
      have H' := Aside0.mk H
      clear H
      go_wp2
      go_meet
      case rel => exact ⟨_, (true), rs_, H', ⟨by first | omega | exact Nat.le_refl _⟩, ⟨by (with_reducible repeat (first | apply Kd.N_alloc | apply Kd.N_drewN | apply Kd.N_drew)); exact Kd.N_mono HO296.out (fun _ hk => ⟨hk.1.1.1.1.1.1.2, ⟨hk.1.1.1.1.1.2, ⟨hk.1.1.1.1.2, ⟨hk.1.1.1.2, hk.1.1.2⟩⟩⟩⟩)⟩, ⟨by (with_reducible repeat (first | apply Kd.N_alloc | apply Kd.N_drewN | apply Kd.N_drew)); exact Kd.N_mono HO305.out (fun _ hk => ⟨hk.1.1.1.1.1.1.1, ⟨hk.1.1.1.1.1.2, ⟨hk.1.1.1.1.2, ⟨hk.1.1.1.2, hk.1.1.2⟩⟩⟩⟩)⟩, ⟨by (with_reducible repeat (first | apply Kd.N_alloc | apply Kd.N_drewN | apply Kd.N_drew)); exact Kd.N_mono HO314.out (fun _ hk => ⟨hk.1.1.1.1.1.1, ⟨hk.1.1.1.1.1.2.1, ⟨hk.1.1.1.1.2, ⟨hk.1.1.1.2, hk.1.1.2⟩⟩⟩⟩)⟩, ⟨bk_⟩, ⟨bk_⟩, ⟨bk_⟩, ⟨bl63_⟩⟩
    ·rw [if_neg c51] at H
     have c51b0 : (t325 == 0) = false := beq_eq_false_iff_ne.mpr c51
     have c51b1 : (t325 != 0) = true := bne_iff_ne.mpr c51
     have H' := Aside0.mk H
     clear H
     go_wp2
     go_meet
     case rel => exact ⟨_, (true), rs_, H', ⟨by first | omega | exact Nat.le_refl _⟩, ⟨by (with_reducible repeat (first | apply Kd.N_alloc | apply Kd.N_drewN | apply Kd.N_drew)); exact Kd.N_mono HO296.out (fun _ hk => ⟨hk.1.1.1.1.1.1.2, ⟨hk.1.1.1.1.1.2, ⟨hk.1.1.1.1.2, ⟨hk.1.1.1.2, hk.1.1.2⟩⟩⟩⟩)⟩, ⟨by (with_reducible repeat (first | apply Kd.N_alloc | apply Kd.N_drewN | apply Kd.N_drew)); exact Kd.N_mono HO305.out (fun _ hk => ⟨hk.1.1.1.1.1.1.1, ⟨hk.1.1.1.1.1.2, ⟨hk.1.1.1.1.2, ⟨hk.1.1.1.2, hk.1.1.2⟩⟩⟩⟩)⟩, ⟨by (with_reducible repeat (first | apply Kd.N_alloc | apply Kd.N_drewN | apply Kd.N_drew)); exact Kd.N_mono HO314.out (fun _ hk => ⟨hk.1.1.1.1.1.1, ⟨hk.1.1.1.1.1.2.1, ⟨hk.1.1.1.1.2, ⟨hk.1.1.1.2, hk.1.1.2⟩⟩⟩⟩)⟩, ⟨bk_⟩, ⟨bk_⟩, ⟨bk_⟩, ⟨bl63_⟩⟩
   ·rw [if_neg c50] at H
    have c50b0 : (t323 == 0) = false := beq_eq_false_iff_ne.mpr c50
    have c50b1 : (t323 != 0) = true := bne_iff_ne.mpr c50
    have H' := Aside0.mk H
    clear H
    go_wp2
    go_meet
    case rel => exact ⟨_, (true), rs_, H', ⟨by first | omega | exact Nat.le_refl _⟩, ⟨by (with_reducible repeat (first | apply Kd.N_alloc | apply Kd.N_drewN | apply Kd.N_drew)); exact Kd.N_mono HO296.out (fun _ hk => ⟨hk.1.1.1.1.1.1.2, ⟨hk.1.1.1.1.1.2, ⟨hk.1.1.1.1.2, ⟨hk.1.1.1.2, hk.1.1.2⟩⟩⟩⟩)⟩, ⟨by (with_reducible repeat (first | apply Kd.N_alloc | apply Kd.N_drewN | apply Kd.N_drew)); exact Kd.N_mono HO305.out (fun _ hk => ⟨hk.1.1.1.1.1.1.1, ⟨hk.1.1.1.1.1.2, ⟨hk.1.1.1.1.2, ⟨hk.1.1.1.2, hk.1.1.2⟩⟩⟩⟩)⟩, ⟨by (with_reducible repeat (first | apply Kd.N_alloc | apply Kd.N_drewN | apply Kd.N_drew)); exact Kd.N_mono HO314.out (fun _ hk => ⟨hk.1.1.1.1.1.1, ⟨hk.1.1.1.1.1.2.1, ⟨hk.1.1.1.1.2, ⟨hk.1.1.1.2, hk.1.1.2⟩⟩⟩⟩)⟩, ⟨bk_⟩, ⟨bk_⟩, ⟨bk_⟩, ⟨bl63_⟩⟩
  ·rw [if_neg c49] at H
   have c49b0 : (t321 == 0) = false := beq_eq_false_iff_ne.mpr c49
   have c49b1 : (t321 != 0) = true := bne_iff_ne.mpr c49
   (first | rw [c49b0] | (simp only [i64_w, i32_w]; rw [c49b0]) | skip)
   have H' := Aside0.mk H
   clear H
   go_wp2
   go_meet
   case rel => exact ⟨_, (true), rs_, H', ⟨by first | omega | exact Nat.le_refl _⟩, ⟨by (with_reducible repeat (first | apply Kd.N_alloc | apply Kd.N_drewN | apply Kd.N_drew)); exact Kd.N_mono HO296.out (fun _ hk => ⟨hk.1.1.1.1.1.1.2, ⟨hk.1.1.1.1.1.2, ⟨hk.1.1.1.1.2, ⟨hk.1.1.1.2, hk.1.1.2⟩⟩⟩⟩)⟩, ⟨by (with_reducible repeat (first | apply Kd.N_alloc | apply Kd.N_drewN | apply Kd.N_drew)); exact Kd.N_mono HO305.out (fun _ hk => ⟨hk.1.1.1.1.1.1.1, ⟨hk.1.1.1.1.1.2, ⟨hk.1.1.1.1.2, ⟨hk.1.1.1.2, hk.1.1.2⟩⟩⟩⟩)⟩, ⟨by (with_reducible repeat (first | apply Kd.N_alloc | apply Kd.N_drewN | apply Kd.N_drew)); exact Kd.N_mono HO314.out (fun _ hk => ⟨hk.1.1.1.1.1.1, ⟨hk.1.1.1.1.1.2.1, ⟨hk.1.1.1.1.2, ⟨hk.1.1.1.2, hk.1.1.2⟩⟩⟩⟩)⟩, ⟨bk_⟩, ⟨bk_⟩, ⟨bk_⟩, ⟨bl63_⟩⟩
 case rest =>
  clear HC12
  try clear c1
  try clear c2
  try clear p2
  try clear c4
  try clear c5
  try clear c14
  try clear c15
  try clear c16
  try clear c17
  try clear c20
  try clear c21
  try clear c22
  try clear c25
  try clear c26
  try clear c29
  try clear c49
  try clear c49b0
  try clear c49b1
  try clear c50
  try clear c50b0
  try clear c50b1
  try clear c51
  try clear c51b0
  try clear c51b1
  try clear c52
  try clear c52b0
  try clear c52b1
  try clear hcz23_0 hcz23_1 hcz23_2 hcz23_3 hcz23_4 hfz23_0 hfz23_1 hfz23_2 hfz23_3 hfz23_4
  try clear hcz27_0 hcz27_1 hcz27_2 hcz27_3 hcz27_4 hfz27_0 hfz27_1 hfz27_2 hfz27_3 hfz27_4
  try clear hcz30_0 hcz30_1 hcz30_2 hcz30_3 hcz30_4 hfz30_0 hfz30_1 hfz30_2 hfz30_3 hfz30_4
  try clear hcz33_0 hcz33_1 hcz33_2 hcz33_3 hcz33_4 hfz33_0 hfz33_1 hfz33_2 hfz33_3 hfz33_4
  try clear hcz35_0 hcz35_1 hcz35_2 hcz35_3 hcz35_4 hfz35_0 hfz35_1 hfz35_2 hfz35_3 hfz35_4
  try clear hcz37_0 hcz37_1 hcz37_2 hcz37_3 hcz37_4 hfz37_0 hfz37_1 hfz37_2 hfz37_3 hfz37_4
  try clear hcz38_0 hcz38_1 hcz38_2 hcz38_3 hcz38_4 hfz38_0 hfz38_1 hfz38_2 hfz38_3 hfz38_4
  try clear hcz44_0 hcz44_1 hcz44_2 hcz44_3 hcz44_4 hfz44_0 hfz44_1 hfz44_2 hfz44_3 hfz44_4
  obtain ⟨kq, x79_11, rfl, HA, HJ11, HO_318004, HO_319004, HO_320004, BK317, BK318, BK319, HB⟩ := hcut
  cases kq with
  | zero => exact absurd HA.out (by simp [exactppllaw06_TypesSizes.j0])
  | succ kj11 =>
   have H := HA.out
   clear HA
   simp only [exactppllaw06_TypesSizes.j0] at H
   by_cases c53 : x79_11 = true
   ·subst c53
    have H1 : (some false) = some r := by rw [if_pos rfl] at H; exact H
    clear H
    have H := H1
    clear H1
    obtain rfl := Option.some.inj H
    go_wp2
    go_ret
    exact ⟨re_, bl63_⟩
   ·replace c53 := Bool.eq_false_iff.mpr c53
    subst c53
    have H1 : (exactppllaw06_TypesSizes.l0 kj11 t320 t322 t324 t329 t331 t337 1 1 0) = some r := by rw [if_neg (show ¬ (false = true) by decide)] at H; exact H
    clear H
    have H := H1
    clear H1
    have H' := Aside0.mk H
    clear H
    go_wp2
    go_loopg [18, 19, 20] kj11 (fun kq v18 v19 v20 w' => ∃ (x18_2 : Int) (x19_2 : Int) (x20_2 : Int), v18 = .int .i64 x18_2 ∧ v19 = .int .i64 x19_2 ∧ v20 = .int .i64 x20_2 ∧ Aside0 (exactppllaw06_TypesSizes.l0 kq t320 t322 t324 t329 t331 t337 x18_2 x19_2 x20_2 = some r) ∧ Aside0 (kq ≤ kj11) ∧ Aside0 (Kd.N k24 24 w' w.heap.size (fun k_ => some k_ ≠ ((.slice Ao28 t303.length co28) : Value).ownBlock ∧ some k_ ≠ ((.slice Ao31 t312.length co31) : Value).ownBlock ∧ k_ ≠ gb317 ∧ k_ ≠ gb318 ∧ k_ ≠ gb319) (.slice Ao24 t294.length co24) t294) ∧ Aside0 (Kd.N k24 24 w' w.heap.size (fun k_ => some k_ ≠ ((.slice Ao24 t294.length co24) : Value).ownBlock ∧ some k_ ≠ ((.slice Ao31 t312.length co31) : Value).ownBlock ∧ k_ ≠ gb317 ∧ k_ ≠ gb318 ∧ k_ ≠ gb319) (.slice Ao28 t303.length co28) t303) ∧ Aside0 (Kd.N k24 24 w' w.heap.size (fun k_ => some k_ ≠ ((.slice Ao24 t294.length co24) : Value).ownBlock ∧ some k_ ≠ ((.slice Ao28 t303.length co28) : Value).ownBlock ∧ k_ ≠ gb317 ∧ k_ ≠ gb318 ∧ k_ ≠ gb319) (.slice Ao31 t312.length co31) t312) ∧ Aside0 (w'.heap[gb317]? = some (.cells #[.int .i64 t290, .int .i64 t291, .int .i64 t292, .int .i64 t293, (.slice Ao24 t294.length co24)] 24 (0, 0))) ∧ Aside0 (w'.heap[gb318]? = some (.cells #[.int .i64 t299, .int .i64 t300, .int .i64 t301, .int .i64 t302, (.slice Ao28 t303.length co28)] 24 (0, 0))) ∧ Aside0 (w'.heap[gb319]? = some (.cells #[.int .i64 t308, .int .i64 t309, .int .i64 t310, .int .i64 t311, (.slice Ao31 t312.length co31)] 24 (0, 0))) ∧ Aside0 (Below w.heap.size w w'))
    case atStart => exact ⟨(1), (1), (0), rs_, rs_, rs_, H', ⟨Nat.le_refl _⟩, ⟨pN_ HO_318004.out⟩, ⟨pN_ HO_319004.out⟩, ⟨pN_ HO_320004.out⟩, ⟨bk_⟩, ⟨bk_⟩, ⟨bk_⟩, ⟨bl63_⟩⟩
    case round =>
     clear H'
     try clear c1
     try clear c2
     try clear p2
     try clear c4
     try clear c5
     try clear c14
     try clear c15
     try clear c16
     try clear c17
     try clear c20
     try clear c21
     try clear c22
     try clear c25
     try clear c26
     try clear c29
     try clear c49
     try clear c49b0
     try clear c49b1
     try clear c50
     try clear c50b0
     try clear c50b1
     try clear c51
     try clear c51b0
     try clear c51b1
     try clear c52
     try clear c52b0
     try clear c52b1
     try clear c53
     try clear hcz23_0 hcz23_1 hcz23_2 hcz23_3 hcz23_4 hfz23_0 hfz23_1 hfz23_2 hfz23_3 hfz23_4
     try clear hcz27_0 hcz27_1 hcz27_2 hcz27_3 hcz27_4 hfz27_0 hfz27_1 hfz27_2 hfz27_3 hfz27_4
     try clear hcz30_0 hcz30_1 hcz30_2 hcz30_3 hcz30_4 hfz30_0 hfz30_1 hfz30_2 hfz30_3 hfz30_4
     try clear hcz33_0 hcz33_1 hcz33_2 hcz33_3 hcz33_4 hfz33_0 hfz33_1 hfz33_2 hfz33_3 hfz33_4
     try clear hcz35_0 hcz35_1 hcz35_2 hcz35_3 hcz35_4 hfz35_0 hfz35_1 hfz35_2 hfz35_3 hfz35_4
     try clear hcz37_0 hcz37_1 hcz37_2 hcz37_3 hcz37_4 hfz37_0 hfz37_1 hfz37_2 hfz37_3 hfz37_4
     try clear hcz38_0 hcz38_1 hcz38_2 hcz38_3 hcz38_4 hfz38_0 hfz38_1 hfz38_2 hfz38_3 hfz38_4
     try clear hcz44_0 hcz44_1 hcz44_2 hcz44_3 hcz44_4 hfz44_0 hfz44_1 hfz44_2 hfz44_3 hfz44_4
     try clear p2
     obtain ⟨x18_2, x19_2, x20_2, rfl, rfl, rfl, HA, HK2, HO_318004, HO_319004, HO_320004, BK317, BK318, BK319, HB⟩ := hrel
     cases gk with
     | zero => exact absurd HA.out (by simp [exactppllaw06_TypesSizes.l0])
     | succ k2 =>
      have H := HA.out
      clear HA
      simp only [exactppllaw06_TypesSizes.l0] at H
      by_cases c54 : x20_2 < t331
      ·rw [if_pos c54] at H
       have c54b0 : decide (x20_2 < t331) = true := decide_eq_true c54
       clear c54
       have H' := Aside0.mk H
       clear H
       go_wp2
       go_roundg k2
       case measure => have := HJ11.out; have := HK2.out; omega
       case rel => exact ⟨(wrap64 (x18_2 + (wrap64 (x19_2 * t324)))), (wrap64 (x19_2 * t324)), (wrap64 (x20_2 + 1)), rs_, rs_, rs_, H', ⟨by have := HJ11.out; have := HK2.out; omega⟩, ⟨pN_ HO_318004.out⟩, ⟨pN_ HO_319004.out⟩, ⟨pN_ HO_320004.out⟩, ⟨bk_⟩, ⟨bk_⟩, ⟨bk_⟩, ⟨bl63_⟩⟩
      ·rw [if_neg c54] at H
       have c54b0 : decide (x20_2 < t331) = false := decide_eq_false c54
       clear c54
       by_cases c55 : t329 = (wrap64 (t320 * t322))
       ·rw [if_pos c55] at H
        have c55b0 : (t329 == (wrap64 (t320 * t322))) = true := beq_iff_eq.mpr c55
        have c55b1 : (t329 != (wrap64 (t320 * t322))) = false := bne_eq_false_iff_eq.mpr c55
        clear c55
        by_cases c56 : t337 = x18_2
        ·rw [if_pos c56] at H
         have c56b0 : (t337 == x18_2) = true := beq_iff_eq.mpr c56
         have c56b1 : (t337 != x18_2) = false := bne_eq_false_iff_eq.mpr c56
         clear c56
         replace H := Option.bind_eq_some_iff.mp H
         obtain ⟨t339, A570, H⟩ := H
         replace H : (some t339) = some r := H
         have A57 := Aside0.mk A570
         clear A570
         obtain rfl := Option.some.inj H
         go_wp2_with (first | (go_at_call 13; (with_reducible refine (exactppllaw06_awake.calls k2  t339 _ A57.out).mono ?_); rintro e w58 ⟨rfl, hb⟩; replace HO_318004 := Aside0.mk (Kd.N_below (pN_ HO_318004.out) hb); replace HO_319004 := Aside0.mk (Kd.N_below (pN_ HO_319004.out) hb); replace HO_320004 := Aside0.mk (Kd.N_below (pN_ HO_320004.out) hb); replace BK317 := Aside0.mk (blk_below (g := gb317) (o := .cells #[.int .i64 t290, .int .i64 t291, .int .i64 t292, .int .i64 t293, .slice Ao24 t294.length co24] 24 (0, 0)) bk_ hb); replace BK318 := Aside0.mk (blk_below (g := gb318) (o := .cells #[.int .i64 t299, .int .i64 t300, .int .i64 t301, .int .i64 t302, .slice Ao28 t303.length co28] 24 (0, 0)) bk_ hb); replace BK319 := Aside0.mk (blk_below (g := gb319) (o := .cells #[.int .i64 t308, .int .i64 t309, .int .i64 t310, .int .i64 t311, .slice Ao31 t312.length co31] 24 (0, 0)) bk_ hb); replace HB := Aside0.mk (below_step bl63_ hb); (try clear hb); (try clear hb2); (try clear hk); (try clear hi)))
         go_ret
         exact ⟨re_, bl63_⟩
        ·rw [if_neg c56] at H
         have c56b0 : (t337 == x18_2) = false := beq_eq_false_iff_ne.mpr c56
         have c56b1 : (t337 != x18_2) = true := bne_iff_ne.mpr c56
         obtain rfl := Option.some.inj H
         go_wp2
         go_ret
         exact ⟨re_, bl63_⟩
       ·rw [if_neg c55] at H
        have c55b0 : (t329 == (wrap64 (t320 * t322))) = false := beq_eq_false_iff_ne.mpr c55
        have c55b1 : (t329 != (wrap64 (t320 * t322))) = true := bne_iff_ne.mpr c55
        obtain rfl := Option.some.inj H
        go_wp2
        go_ret
        exact ⟨re_, bl63_⟩

/-- THE ONE PURE STATEMENT of exactppllaw06_TypesSizes: yours. -/
def exactppllaw06_TypesSizes.Pure : Prop := ∀ (l0 : List Int), l0.length ≤ maxLen → l0.length * 8 ≤ 140737488351232 → (∀ x ∈ l0, (Lit.int .i64 x).wf = true) → ∃ k, exactppllaw06_TypesSizes.f k l0 = some true
theorem exactppllaw06_TypesSizes.walk (P : exactppllaw06_TypesSizes.Pure) (a0 : Option Addr) (len0 cap0 : Nat) (z0 : List Int) (w : World) (w0 : (a0 = none ∧ len0 = 0 ∧ cap0 = 0 ∧ z0 = []) ∨ ∃ x, a0 = some x ∧ len0 ≤ cap0 ∧ cap0 ≤ maxLen ∧ z0.length = cap0 ∧ (∀ i, i < z0.length → w.cell? (x.add i) = some (.int .i64 (z0.getD i 0))) ∧ ∀ n ∈ z0, (Lit.int .i64 n).wf = true) (y0 : len0 * 8 ≤ 140737488351232) :
  Calls Tryd.prog 4 #[.slice a0 len0 cap0] w fun e w' => e = .returned (.bool true) ∧ Below w.heap.size w w' := by
 obtain ⟨l0, rfl, hr0, hm0, hw0, hc0⟩ := ReadsInt.ofRowC w0
 obtain ⟨k, h⟩ := P l0 hm0 y0 hw0
 refine (exactppllaw06_TypesSizes.calls k _ _ l0 true w (Kd.C_of_reads (d := (0 : Int)) (h1 := fun _ => rfl) hr0) hc0 h).mono ?_
 rintro e w' ⟨rfl, hd⟩
 exact ⟨rfl, hd⟩

/-! ### types_Cells: function 18 -/
def types_Cells.f (k : Nat) (a0_0 : Int) (a0_1 : Int) (a0_2 : Int) (a0_3 : Int) (l0_4 : List (S24)) : Option ((List (S41)) × Int) := (types_Validate.f k a0_0 a0_1 a0_2 a0_3 l0_4).bind fun t341 => (if t341 = 0 then ((types_cells.f k a0_0 a0_1 a0_2 a0_3 l0_4).bind fun t342 => (some (t342, 0))) else (some (([] : List (S41)), t341)))
theorem types_Cells.mono : ∀ a0 a1 a2 a3 a4 k, LeO (types_Cells.f k a0 a1 a2 a3 a4) (types_Cells.f (k + 1) a0 a1 a2 a3 a4) := by
 intro a0 a1 a2 a3 a4 k
 unfold types_Cells.f
 repeat' first
   | (with_reducible exact types_Validate.mono _ _ _ _ _ _)
   | (with_reducible exact types_cells.mono _ _ _ _ _ _)
   | (with_reducible exact LeO.refl _)
   | (with_reducible exact LeO.none _)
   | (with_reducible refine LeO.ite ?_ ?_)
   | (with_reducible refine LeO.bind ?_ (fun _ => ?_))
   | exact types_Validate.mono _ _ _ _ _ _
   | exact types_cells.mono _ _ _ _ _ _
   | exact LeO.none _
   | refine LeO.ite ?_ ?_
   | refine LeO.bind ?_ (fun _ => ?_)
set_option maxHeartbeats 8000000 in
set_option maxRecDepth 100000 in
theorem types_Cells.calls (k : Nat) (a0_0 : Int) (a0_1 : Int) (a0_2 : Int) (a0_3 : Int) (A0_4 : Option Addr) (c0_4 : Nat) (l0_4 : List (S24)) (r1 : List (S41)) (r2 : Int) (w : World) (hr0_4 : Kd.C k24 w A0_4 l0_4.length l0_4) (hc0_4 : l0_4.length ≤ c0_4) (h : types_Cells.f k a0_0 a0_1 a0_2 a0_3 l0_4 = some (r1, r2)) :
  Calls Tryd.prog 18 #[.agg #[.int .i64 a0_0, .int .i64 a0_1, .int .i64 a0_2, .int .i64 a0_3, .slice A0_4 l0_4.length c0_4]] w fun e w' => ∃ v0_ : Value, e = .returned (.tuple #[v0_, .int .i64 r2]) ∧ Kd.R k41 41 w' w.heap.size (fun _ => True) v0_ r1 ∧ Below w.heap.size w w' := by
 have hu24 := Tryd.underlying24
 have HR0_4 := Aside0.mk hr0_4
 have HC0_4 := Aside0.mk hc0_4
 clear hr0_4 hc0_4
 have HB := Aside0.mk (Below.refl w.heap.size w)
 have H : ((types_Validate.f k a0_0 a0_1 a0_2 a0_3 l0_4).bind fun t341 => (if t341 = 0 then ((types_cells.f k a0_0 a0_1 a0_2 a0_3 l0_4).bind fun t342 => (some (t342, 0))) else (some (([] : List (S41)), t341)))) = some (r1, r2) := h
 clear h
 replace H := Option.bind_eq_some_iff.mp H
 obtain ⟨t341, A20, H⟩ := H
 replace H : (if t341 = 0 then ((types_cells.f k a0_0 a0_1 a0_2 a0_3 l0_4).bind fun t342 => (some (t342, 0))) else (some (([] : List (S41)), t341))) = some (r1, r2) := H
 have A2 := Aside0.mk A20
 clear A20
 by_cases c3 : t341 = 0
 ·rw [if_pos c3] at H
  have c3b0 : (t341 == 0) = true := beq_iff_eq.mpr c3
  have c3b1 : (t341 != 0) = false := bne_eq_false_iff_eq.mpr c3
  clear c3
  replace H := Option.bind_eq_some_iff.mp H
  obtain ⟨t342, A40, H⟩ := H
  replace H : (some (t342, 0)) = some (r1, r2) := H
  have A4 := Aside0.mk A40
  clear A40
  simp only [Option.some.injEq, Prod.mk.injEq] at H
  obtain ⟨rfl, rfl⟩ := H
  go_enter Tryd.func18, Tryd.ntmps18
  go_wp2_with (first | ((with_reducible refine gate_dst (N := 1) rfl ?_); refine box_event ?hg (N := 1) ?hd (cs := #[.int .i64 a0_0, .int .i64 a0_1, .int .i64 a0_2, .int .i64 a0_3, .slice A0_4 l0_4.length c0_4]) (t := 24) ?hr ?_; (case hd => rfl); (case hg => rfl); (case hr => first | (go_simp; done) | (go_simp; rfl)); intro gb340 hg w5 hbox hb; have BK340 := Aside0.mk (hbox); have GW340 : Aside0 (w.heap.size ≤ gb340) := gw_ hg (below_size bl63_); have GE340 := GW340; replace HB := Aside0.mk (below_step bl63_ hb); clear hb hbox hg; obtain ⟨hcz6_0, hcz6_1, hcz6_2, hcz6_3, hcz6_4, hfz6_0, hfz6_1, hfz6_2, hfz6_3, hfz6_4⟩ := cf5_ BK340.out) | ((with_reducible refine gate_callee (f := 12) rfl ?_); refine goesL_ (some 6) rfl rfl Tryd.func12 (by kernel_rfl) rfl #[.agg #[.int .i64 a0_0, .int .i64 a0_1, .int .i64 a0_2, .int .i64 a0_3, .slice A0_4 l0_4.length c0_4]] rfl (by (try simp only [List.map_toArray, List.map_cons, List.map_nil]); first | done | rfl | (simp only [List.length_drop, List.length_take]; rfl)) ?_; (with_reducible refine (types_Validate.calls k a0_0 a0_1 a0_2 a0_3 _ _ l0_4 t341 _ ?side1 ?side2 A2.out).mono ?_); (case side1 => repeat (first | exact (Kd.C_below HR0_4.out HB.out) | (with_reducible refine Kd.C_alloc ?_ _) | (with_reducible refine Kd.C_drewN ?_ _) | (with_reducible refine Kd.C_drew ?_))); (case side2 => exact HC0_4.out); rintro e w7 ⟨rfl, hb⟩; refine ⟨_, rfl, ?_⟩; replace BK340 := Aside0.mk (blk_below (g := gb340) (o := .cells #[.int .i64 a0_0, .int .i64 a0_1, .int .i64 a0_2, .int .i64 a0_3, .slice A0_4 l0_4.length c0_4] 24 (0, 0)) bk_ hb); replace HB := Aside0.mk (below_step bl63_ hb); (try clear hb); (try clear hb2); (try clear hk); (try clear hi); obtain ⟨hcz8_0, hcz8_1, hcz8_2, hcz8_3, hcz8_4, hfz8_0, hfz8_1, hfz8_2, hfz8_3, hfz8_4⟩ := cf5_ BK340.out) | ((with_reducible refine gate_callee (f := 42) rfl ?_); refine goesL_ (some 11) rfl rfl Tryd.func42 (by kernel_rfl) rfl #[.agg #[.int .i64 a0_0, .int .i64 a0_1, .int .i64 a0_2, .int .i64 a0_3, .slice A0_4 l0_4.length c0_4]] rfl (by (try simp only [List.map_toArray, List.map_cons, List.map_nil]); first | done | rfl | (simp only [List.length_drop, List.length_take]; rfl)) ?_; (with_reducible refine (types_cells.calls k a0_0 a0_1 a0_2 a0_3 _ _ l0_4 t342 _ ?side1 ?side2 A4.out).mono ?_); (case side1 => repeat (first | exact (Kd.C_below HR0_4.out HB.out) | (with_reducible refine Kd.C_alloc ?_ _) | (with_reducible refine Kd.C_drewN ?_ _) | (with_reducible refine Kd.C_drew ?_))); (case side2 => exact HC0_4.out); rintro e w9 ⟨v343, rfl, ho0, hb⟩; refine ⟨_, rfl, ?_⟩; have HO344 := Aside0.mk (Kd.R_lower ho0 (below_size bl63_)); replace BK340 := Aside0.mk (blk_below (g := gb340) (o := .cells #[.int .i64 a0_0, .int .i64 a0_1, .int .i64 a0_2, .int .i64 a0_3, .slice A0_4 l0_4.length c0_4] 24 (0, 0)) bk_ hb); replace HB := Aside0.mk (below_step bl63_ hb); (try clear hb); (try clear hb2); (try clear hk); (try clear hi); (try clear ho0)))
  go_ret2
  exact ⟨_, re_, pR_ HO344.out, bl63_⟩
 ·rw [if_neg c3] at H
  have c3b0 : (t341 == 0) = false := beq_eq_false_iff_ne.mpr c3
  have c3b1 : (t341 != 0) = true := bne_iff_ne.mpr c3
  simp only [Option.some.injEq, Prod.mk.injEq] at H
  obtain ⟨rfl, rfl⟩ := H
  go_enter Tryd.func18, Tryd.ntmps18
  go_wp2_with (first | ((with_reducible refine gate_dst (N := 1) rfl ?_); refine box_event ?hg (N := 1) ?hd (cs := #[.int .i64 a0_0, .int .i64 a0_1, .int .i64 a0_2, .int .i64 a0_3, .slice A0_4 l0_4.length c0_4]) (t := 24) ?hr ?_; (case hd => rfl); (case hg => rfl); (case hr => first | (go_simp; done) | (go_simp; rfl)); intro gb340 hg w10 hbox hb; have BK340 := Aside0.mk (hbox); have GW340 : Aside0 (w.heap.size ≤ gb340) := gw_ hg (below_size bl63_); have GE340 := GW340; replace HB := Aside0.mk (below_step bl63_ hb); clear hb hbox hg; obtain ⟨hcz11_0, hcz11_1, hcz11_2, hcz11_3, hcz11_4, hfz11_0, hfz11_1, hfz11_2, hfz11_3, hfz11_4⟩ := cf5_ BK340.out) | ((with_reducible refine gate_callee (f := 12) rfl ?_); refine goesL_ (some 6) rfl rfl Tryd.func12 (by kernel_rfl) rfl #[.agg #[.int .i64 a0_0, .int .i64 a0_1, .int .i64 a0_2, .int .i64 a0_3, .slice A0_4 l0_4.length c0_4]] rfl (by (try simp only [List.map_toArray, List.map_cons, List.map_nil]); first | done | rfl | (simp only [List.length_drop, List.length_take]; rfl)) ?_; (with_reducible refine (types_Validate.calls k a0_0 a0_1 a0_2 a0_3 _ _ l0_4 t341 _ ?side1 ?side2 A2.out).mono ?_); (case side1 => repeat (first | exact (Kd.C_below HR0_4.out HB.out) | (with_reducible refine Kd.C_alloc ?_ _) | (with_reducible refine Kd.C_drewN ?_ _) | (with_reducible refine Kd.C_drew ?_))); (case side2 => exact HC0_4.out); rintro e w12 ⟨rfl, hb⟩; refine ⟨_, rfl, ?_⟩; replace BK340 := Aside0.mk (blk_below (g := gb340) (o := .cells #[.int .i64 a0_0, .int .i64 a0_1, .int .i64 a0_2, .int .i64 a0_3, .slice A0_4 l0_4.length c0_4] 24 (0, 0)) bk_ hb); replace HB := Aside0.mk (below_step bl63_ hb); (try clear hb); (try clear hb2); (try clear hk); (try clear hi)))
  go_ret2
  exact ⟨_, re_, by first | exact Kd.R_nil _ _ _ _ _ | exact Kd.N_nil _ _ _ _ _ | exact Kd.V_nil _ _ _ _ _ | exact Kd.Q_nil _ _ _ _ _ | exact Kd.S_nil _ _ _ _ _, bl63_⟩

/-! ### exactppllaw06_sameCells: function 19 -/
def exactppllaw06_sameCells.l0 : Nat → List (S41) → List (S41) → Int → Option (Bool)
 | 0, _, _, _ => none
 | k + 1, x0, x1, x5 => if x5 < (x0.length : Int) then (if 0 ≤ x5 then (if x5 < (x1.length : Int) then (if (!(((rd_T41 x0 x5).f0) == ((rd_T41 x1 x5).f0)) || (!(((rd_T41 x0 x5).f1) == ((rd_T41 x1 x5).f1)) || (!(((rd_T41 x0 x5).f2) == ((rd_T41 x1 x5).f2))))) = true then (some false) else (exactppllaw06_sameCells.l0 k x0 x1 (wrap64 (x5 + 1)))) else (none)) else (none)) else (some true)
def exactppllaw06_sameCells.f (k : Nat) (l0 : List (S41)) (l1 : List (S41)) : Option (Bool) := if (l0.length : Int) = (l1.length : Int) then (exactppllaw06_sameCells.l0 k l0 l1 0) else (some false)
theorem exactppllaw06_sameCells.mono_l : ∀ k, (∀ y0 y1 y2, LeO (exactppllaw06_sameCells.l0 k y0 y1 y2) (exactppllaw06_sameCells.l0 (k + 1) y0 y1 y2))
 | 0 => fun _ _ _ r h => by simp [exactppllaw06_sameCells.l0] at h
 | k + 1 => by
  have ih0 := exactppllaw06_sameCells.mono_l k
  ·intro y0 y1 y2
   unfold exactppllaw06_sameCells.l0
   repeat' first
   | (with_reducible exact ih0 _ _ _)
   | (with_reducible exact LeO.refl _)
   | (with_reducible exact LeO.none _)
   | (with_reducible refine LeO.ite ?_ ?_)
   | (with_reducible refine LeO.bind ?_ (fun _ => ?_))
   | exact ih0 _ _ _
   | exact LeO.none _
   | refine LeO.ite ?_ ?_
   | refine LeO.bind ?_ (fun _ => ?_)
theorem exactppllaw06_sameCells.mono : ∀ a0 a1 k, LeO (exactppllaw06_sameCells.f k a0 a1) (exactppllaw06_sameCells.f (k + 1) a0 a1) := by
 intro a0 a1 k
 have ih0 := exactppllaw06_sameCells.mono_l k
 unfold exactppllaw06_sameCells.f
 repeat' first
   | (with_reducible exact ih0 _ _ _)
   | (with_reducible exact LeO.refl _)
   | (with_reducible exact LeO.none _)
   | (with_reducible refine LeO.ite ?_ ?_)
   | (with_reducible refine LeO.bind ?_ (fun _ => ?_))
   | exact ih0 _ _ _
   | exact LeO.none _
   | refine LeO.ite ?_ ?_
   | refine LeO.bind ?_ (fun _ => ?_)
set_option maxHeartbeats 8000000 in
set_option maxRecDepth 100000 in
theorem exactppllaw06_sameCells.calls (k : Nat) (A0 : Option Addr) (c0 : Nat) (l0 : List (S41)) (A1 : Option Addr) (c1 : Nat) (l1 : List (S41)) (r : Bool) (w : World) (hr0 : Kd.C k41 w A0 l0.length l0) (hc0 : l0.length ≤ c0) (hr1 : Kd.C k41 w A1 l1.length l1) (hc1 : l1.length ≤ c1) (h : exactppllaw06_sameCells.f k l0 l1 = some r) :
  Calls Tryd.prog 19 #[.slice A0 l0.length c0, .slice A1 l1.length c1] w fun e w' => e = .returned (.bool r) ∧ Drawn0 w w' := by
 have hu41 := Tryd.underlying41
 have HR0 := Aside0.mk hr0
 have HC0 := Aside0.mk hc0
 clear hr0 hc0
 have HR1 := Aside0.mk hr1
 have HC1 := Aside0.mk hc1
 clear hr1 hc1
 have H : (if (l0.length : Int) = (l1.length : Int) then (exactppllaw06_sameCells.l0 k l0 l1 0) else (some false)) = some r := h
 clear h
 by_cases c3 : (l0.length : Int) = (l1.length : Int)
 ·rw [if_pos c3] at H
  have c3b0 : ((l0.length : Int) == (l1.length : Int)) = true := beq_iff_eq.mpr c3
  have c3b1 : ((l0.length : Int) != (l1.length : Int)) = false := bne_eq_false_iff_eq.mpr c3
  have c3b2 : (l0.length == l1.length) = true := by first | simpa using c3 | (simp at c3 ⊢; omega)
  clear c3
  have H' := Aside0.mk H
  clear H
  go_enter Tryd.func19, Tryd.ntmps19
  go_wp2
  repeat (go_quiet (fail); try go_wp2)
  go_loopg [5] k (fun kq v5 w' => ∃ (x5_1 : Int), v5 = .int .i64 x5_1 ∧ Aside0 (exactppllaw06_sameCells.l0 kq l0 l1 x5_1 = some r) ∧ Aside0 (kq ≤ k) ∧ Drawn0 w w')
  case atStart => exact ⟨(0), rs_, H', ⟨Nat.le_refl _⟩, by repeat (first | exact Drawn0.refl _ | apply Drawn0.step)⟩
  case round =>
   clear H'
   try clear c1
   try clear p2
   try clear c3
   try clear c3b0
   try clear c3b1
   try clear c3b2
   obtain ⟨x5_1, rfl, HA, HK1, ⟨m1, rfl⟩⟩ := hrel
   cases gk with
   | zero => exact absurd HA.out (by simp [exactppllaw06_sameCells.l0])
   | succ k1 =>
    have H := HA.out
    clear HA
    simp only [exactppllaw06_sameCells.l0] at H
    by_cases c4 : x5_1 < (l0.length : Int)
    ·rw [if_pos c4] at H
     have c4b0 : decide (x5_1 < (l0.length : Int)) = true := decide_eq_true c4
     clear c4
     by_cases c5 : 0 ≤ x5_1
     ·rw [if_pos c5] at H
      have c5b0 : decide (0 ≤ x5_1) = true := decide_eq_true c5
      clear c5
      by_cases c6 : x5_1 < (l1.length : Int)
      ·rw [if_pos c6] at H
       have c6b0 : decide (x5_1 < (l1.length : Int)) = true := decide_eq_true c6
       clear c6
       by_cases c7 : (!(((rd_T41 l0 x5_1).f0) == ((rd_T41 l1 x5_1).f0)) || (!(((rd_T41 l0 x5_1).f1) == ((rd_T41 l1 x5_1).f1)) || (!(((rd_T41 l0 x5_1).f2) == ((rd_T41 l1 x5_1).f2))))) = true
       ·rw [if_pos c7] at H
        have c7b0 : (!(((rd_T41 l0 x5_1).f0) == ((rd_T41 l1 x5_1).f0)) || (!(((rd_T41 l0 x5_1).f1) == ((rd_T41 l1 x5_1).f1)) || (!(((rd_T41 l0 x5_1).f2) == ((rd_T41 l1 x5_1).f2))))) = true := c7
        clear c7
        obtain rfl := Option.some.inj H
        have p345 : 0 ≤ (x5_1 : Int) := dt_
        have q345 : x5_1 < (l0.length : Int) := dt_
        obtain ⟨ad345, e345, hx345_0, hx345_1, hx345_2⟩ := at_T41 HR0.out x5_1 p345 q345
        cases e345
        replace p345 := eq_true p345
        replace q345 := eq_true q345
        have p346 : 0 ≤ (x5_1 : Int) := dt_
        have q346 : x5_1 < (l1.length : Int) := dt_
        obtain ⟨ad346, e346, hx346_0, hx346_1, hx346_2⟩ := at_T41 HR1.out x5_1 p346 q346
        cases e346
        replace p346 := eq_true p346
        replace q346 := eq_true q346
        go_wp2
        repeat (go_quiet (fail); try go_wp2)
        go_ret
        exact ⟨by first | rfl | (simp; done) | (simp [*]; done), by repeat (first | exact Drawn0.refl _ | apply Drawn0.step)⟩
       ·rw [if_neg c7] at H
        have c7b0 : (!(((rd_T41 l0 x5_1).f0) == ((rd_T41 l1 x5_1).f0)) || (!(((rd_T41 l0 x5_1).f1) == ((rd_T41 l1 x5_1).f1)) || (!(((rd_T41 l0 x5_1).f2) == ((rd_T41 l1 x5_1).f2))))) = false := by simpa using c7
        clear c7
        have H' := Aside0.mk H
        clear H
        have p345 : 0 ≤ (x5_1 : Int) := dt_
        have q345 : x5_1 < (l0.length : Int) := dt_
        obtain ⟨ad345, e345, hx345_0, hx345_1, hx345_2⟩ := at_T41 HR0.out x5_1 p345 q345
        cases e345
        replace p345 := eq_true p345
        replace q345 := eq_true q345
        have p346 : 0 ≤ (x5_1 : Int) := dt_
        have q346 : x5_1 < (l1.length : Int) := dt_
        obtain ⟨ad346, e346, hx346_0, hx346_1, hx346_2⟩ := at_T41 HR1.out x5_1 p346 q346
        cases e346
        replace p346 := eq_true p346
        replace q346 := eq_true q346
        go_wp2
        repeat (go_quiet (fail); try go_wp2)
        go_roundg k1
        case measure => have := HK1.out; omega
        case rel => exact ⟨(wrap64 (x5_1 + 1)), rs_, H', ⟨by have := HK1.out; omega⟩, by repeat (first | exact Drawn0.refl _ | apply Drawn0.step)⟩
      ·rw [if_neg c6] at H
       exact absurd H (by simp)
     ·rw [if_neg c5] at H
      exact absurd H (by simp)
    ·rw [if_neg c4] at H
     have c4b0 : decide (x5_1 < (l0.length : Int)) = false := decide_eq_false c4
     clear c4
     obtain rfl := Option.some.inj H
     go_wp2
     repeat (go_quiet (fail); try go_wp2)
     go_ret
     exact ⟨by first | rfl | (simp; done) | (simp [*]; done), by repeat (first | exact Drawn0.refl _ | apply Drawn0.step)⟩
 ·rw [if_neg c3] at H
  have c3b0 : ((l0.length : Int) == (l1.length : Int)) = false := beq_eq_false_iff_ne.mpr c3
  have c3b1 : ((l0.length : Int) != (l1.length : Int)) = true := bne_iff_ne.mpr c3
  have c3b2 : (l0.length == l1.length) = false := by first | simpa using c3 | (simp at c3 ⊢; omega)
  obtain rfl := Option.some.inj H
  go_enter Tryd.func19, Tryd.ntmps19
  go_wp2
  repeat (go_quiet (fail); try go_wp2)
  go_ret
  exact ⟨by first | rfl | (simp; done) | (simp [*]; done), by repeat (first | exact Drawn0.refl _ | apply Drawn0.step)⟩

end Go.Proofs.YtggelekooacmnaaDoor.R
