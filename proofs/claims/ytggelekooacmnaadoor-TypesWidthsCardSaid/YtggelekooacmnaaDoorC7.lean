-- By a program of this session
import Derived.Test.YtggelekooacmnaaDoorC0
import Derived.Test.YtggelekooacmnaaDoorC4
namespace Go.Proofs.YtggelekooacmnaaDoor.R
open Go.RowKit Go.Proofs.YtggelekooacmnaaDoorW.PrintWords Go.Proofs.YtggelekooacmnaaDoorW.PrintLast Go.Proofs.YtggelekooacmnaaDoorW.PrintMore
attribute [local go_sem] max2_int min2_int max_two min_two max_three min_three max_four min_four   -- for this text's walks alone
set_option linter.unusedVariables false
set_option linter.unusedSimpArgs false

/-! ### strconv_Itoa_71: function 71 -/
def strconv_Itoa_71.f (a0 : Int) : Option ByteArray := if 0 ≤ a0 then (if a0 < 100 then some ⟨(Lib.decDigits a0.toNat).toArray⟩ else none) else none
theorem strconv_Itoa_71.calls (a0 : Int) (r : ByteArray) (w : World) (h : strconv_Itoa_71.f a0 = some r) :
  Calls Tryd.prog 71 #[.int .i64 a0] w fun e w' => e = .returned (.string r) ∧ Below w.heap.size w w' := by
 unfold strconv_Itoa_71.f at h
 by_cases h0 : 0 ≤ a0
 ·rw [if_pos h0] at h
  by_cases h1 : a0 < 100
  ·rw [if_pos h1] at h
   obtain rfl := Option.some.inj h
   obtain ⟨i, rfl⟩ : ∃ i : Nat, a0 = i := ⟨a0.toNat, by omega⟩
   refine (Tryd.strconv_Itoa_small i (by omega) w).mono ?_
   rintro e w' ⟨rfl, rfl⟩
   exact ⟨by simp, Below.refl _ _⟩
  ·rw [if_neg h1] at h; cases h
 ·rw [if_neg h0] at h; cases h

-- NOT PRINTED: function 105 (abi_NoEscape)

-- NOT PRINTED: function 97 (strings_Builder_copyCheck)

-- NOT PRINTED: function 106 (bytealg_MakeNoZero)

-- NOT PRINTED: function 98 (strings_Builder_grow)

-- NOT PRINTED: function 89 (strings_Builder_Grow)

-- NOT PRINTED: function 90 (strings_Builder_WriteString)

-- NOT PRINTED: function 91 (strings_Builder_String)

/-! ### strings_Join: function 72 -/
def strings_Join.f (_l0 : List ByteArray) (_a1 : ByteArray) : Option ByteArray := none
theorem strings_Join.calls (A0 : Option Addr) (c0 : Nat) (l0 : List ByteArray) (a1 : ByteArray) (r : ByteArray) (w : World) (hr0 : Kd.C Kd.string w A0 l0.length l0) (hc0 : l0.length ≤ c0) (h : strings_Join.f l0 a1 = some r) :
  Calls Tryd.prog 72 #[.slice A0 l0.length c0, .string a1] w fun e w' => e = .returned (.string r) ∧ Below w.heap.size w w' := by
 cases h

/-! ### types_format: function 44 -/
theorem lit_size : ∀ (a : Array UInt8), (⟨a⟩ : ByteArray).size = a.size := fun _ => rfl
mutual
def types_format.l0 : Nat → List ByteArray → List (S24) → Int → Int → Option (ByteArray)
 | 0, _, _, _, _ => none
 | k + 1, x3, x40, x41, x42 => if x42 < x41 then (if 0 ≤ x42 then (if x42 < (x40.length : Int) then ((types_format.f k ((rd_T24 x40 x42).f0) ((rd_T24 x40 x42).f1) ((rd_T24 x40 x42).f2) ((rd_T24 x40 x42).f3) ((rd_T24 x40 x42).f4)).bind fun t196 => (if x3.length < 8796093022208 then (types_format.l0 k (x3 ++ [t196]) x40 x41 (wrap64 (x42 + 1))) else (none))) else (none)) else (none)) else ((strings_Join.f x3 (⟨#[44, 32]⟩ : ByteArray)).bind fun t200 => (if 1 + t200.size ≤ 9223372036854775807 then (if ((⟨#[40]⟩ : ByteArray) ++ t200).size + 1 ≤ 9223372036854775807 then (some (((⟨#[40]⟩ : ByteArray) ++ t200) ++ (⟨#[41]⟩ : ByteArray))) else (none)) else (none)))
def types_format.f : Nat → Int → Int → Int → Int → List (S24) → Option (ByteArray)
 | 0, _, _, _, _, _ => none
 | k + 1, a0_0, a0_1, a0_2, a0_3, l0_4 => if a0_0 = 1 then (some (⟨#[98, 111, 111, 108]⟩ : ByteArray)) else (if a0_0 = 2 then ((strconv_Itoa_71.f a0_1).bind fun t189 => (if 4 + t189.size ≤ 9223372036854775807 then (if ((⟨#[105, 110, 116, 91]⟩ : ByteArray) ++ t189).size + 2 ≤ 9223372036854775807 then ((strconv_Itoa_71.f a0_2).bind fun t190 => (if (((⟨#[105, 110, 116, 91]⟩ : ByteArray) ++ t189) ++ (⟨#[44, 32]⟩ : ByteArray)).size + t190.size ≤ 9223372036854775807 then (if ((((⟨#[105, 110, 116, 91]⟩ : ByteArray) ++ t189) ++ (⟨#[44, 32]⟩ : ByteArray)) ++ t190).size + 1 ≤ 9223372036854775807 then (some (((((⟨#[105, 110, 116, 91]⟩ : ByteArray) ++ t189) ++ (⟨#[44, 32]⟩ : ByteArray)) ++ t190) ++ (⟨#[93]⟩ : ByteArray))) else (none)) else (none))) else (none)) else (none))) else (if a0_0 = 3 then (some (⟨#[110, 97, 116]⟩ : ByteArray)) else (if a0_0 = 4 then (some (⟨#[114, 101, 97, 108]⟩ : ByteArray)) else (if a0_0 = 6 then ((strconv_Itoa_71.f a0_3).bind fun t191 => (if 5 + t191.size ≤ 9223372036854775807 then (if ((⟨#[108, 105, 115, 116, 91]⟩ : ByteArray) ++ t191).size + 2 ≤ 9223372036854775807 then (if 0 < (l0_4.length : Int) then ((types_format.f k ((rd_T24 l0_4 0).f0) ((rd_T24 l0_4 0).f1) ((rd_T24 l0_4 0).f2) ((rd_T24 l0_4 0).f3) ((rd_T24 l0_4 0).f4)).bind fun t193 => (if (((⟨#[108, 105, 115, 116, 91]⟩ : ByteArray) ++ t191) ++ (⟨#[93, 32]⟩ : ByteArray)).size + t193.size ≤ 9223372036854775807 then (some ((((⟨#[108, 105, 115, 116, 91]⟩ : ByteArray) ++ t191) ++ (⟨#[93, 32]⟩ : ByteArray)) ++ t193)) else (none))) else (none)) else (none)) else (none))) else (types_format.l0 k ([] : List ByteArray) l0_4 (l0_4.length : Int) 0)))))
end
theorem types_format.mono_l : ∀ k, (∀ y0 y1 y2 y3 y4, LeO (types_format.f k y0 y1 y2 y3 y4) (types_format.f (k + 1) y0 y1 y2 y3 y4)) ∧ (∀ y0 y1 y2 y3, LeO (types_format.l0 k y0 y1 y2 y3) (types_format.l0 (k + 1) y0 y1 y2 y3))
 | 0 => ⟨fun _ _ _ _ _ r h => by simp [types_format.f] at h, fun _ _ _ _ r h => by simp [types_format.l0] at h⟩
 | k + 1 => by
  obtain ⟨ih0, ih1⟩ := types_format.mono_l k
  refine ⟨?_, ?_⟩
  ·intro y0 y1 y2 y3 y4
   unfold types_format.f
   repeat' first
   | (with_reducible exact ih0 _ _ _ _ _)
   | (with_reducible exact ih1 _ _ _ _)
   | (with_reducible exact LeO.refl _)
   | (with_reducible exact LeO.none _)
   | (with_reducible refine LeO.ite ?_ ?_)
   | (with_reducible refine LeO.bind ?_ (fun _ => ?_))
   | exact ih0 _ _ _ _ _
   | exact ih1 _ _ _ _
   | exact LeO.none _
   | refine LeO.ite ?_ ?_
   | refine LeO.bind ?_ (fun _ => ?_)
  ·intro y0 y1 y2 y3
   unfold types_format.l0
   repeat' first
   | (with_reducible exact ih0 _ _ _ _ _)
   | (with_reducible exact ih1 _ _ _ _)
   | (with_reducible exact LeO.refl _)
   | (with_reducible exact LeO.none _)
   | (with_reducible refine LeO.ite ?_ ?_)
   | (with_reducible refine LeO.bind ?_ (fun _ => ?_))
   | exact ih0 _ _ _ _ _
   | exact ih1 _ _ _ _
   | exact LeO.none _
   | refine LeO.ite ?_ ?_
   | refine LeO.bind ?_ (fun _ => ?_)
theorem types_format.mono : ∀ a0 a1 a2 a3 a4 k, LeO (types_format.f k a0 a1 a2 a3 a4) (types_format.f (k + 1) a0 a1 a2 a3 a4) := by
 intro a0 a1 a2 a3 a4 k
 obtain ⟨ih0, ih1⟩ := types_format.mono_l k
 exact ih0 a0 a1 a2 a3 a4
def types_format.T5 : Bool × List (List Nat × List Nat) := (true, [([], []), ([0], [0]), ([1], [1]), ([2], [2]), ([3], [3]), ([], []), ([5], [5]), ([6, 2], [6]), ([4, 7], [4, 7]), ([8], [8]), ([9, 7, 0, 1, 2, 3, 4, 5, 6, 7, 8, 9], [9])])
def types_format.B5 : List Nat := [0, 1, 3, 7, 15, 0, 32, 103, 255, 511, 1023]
theorem types_format.tab5 : rtab .any (opsOf Tryd.f44 5) = types_format.T5 := by kernel_rfl
theorem types_format.bits5 : waitsOk types_format.T5.2 types_format.B5 = true := by kernel_rfl
def types_format.T11 : Bool × List (List Nat × List Nat) := (true, [([], []), ([0], [0]), ([1], [1]), ([2], [2]), ([3], [3]), ([], []), ([5], [5]), ([6], [6]), ([7], [7]), ([8, 2], [8]), ([4, 9], [4, 9]), ([10, 9, 0, 1, 2, 3, 4, 5, 6, 7, 8, 9, 10], [10])])
def types_format.B11 : List Nat := [0, 1, 3, 7, 15, 0, 32, 96, 224, 487, 1023, 2047]
theorem types_format.tab11 : rtab .any (opsOf Tryd.f44 11) = types_format.T11 := by kernel_rfl
theorem types_format.bits11 : waitsOk types_format.T11.2 types_format.B11 = true := by kernel_rfl
set_option maxHeartbeats 8000000 in
set_option maxRecDepth 100000 in
theorem types_format.calls (k : Nat) : ∀ (a0_0 : Int) (a0_1 : Int) (a0_2 : Int) (a0_3 : Int) (A0_4 : Option Addr) (c0_4 : Nat) (l0_4 : List (S24)) (r : ByteArray) (w : World) (hr0_4 : Kd.C k24 w A0_4 l0_4.length l0_4) (hc0_4 : l0_4.length ≤ c0_4) (h : types_format.f k a0_0 a0_1 a0_2 a0_3 l0_4 = some r),
  Calls Tryd.prog 44 #[.agg #[.int .i64 a0_0, .int .i64 a0_1, .int .i64 a0_2, .int .i64 a0_3, .slice A0_4 l0_4.length c0_4]] w fun e w' => e = .returned (.string r) ∧ Below w.heap.size w w' := by
 induction k using Nat.strongRecOn with
 | _ k ih =>
 intro a0_0 a0_1 a0_2 a0_3 A0_4 c0_4 l0_4 r w hr0_4 hc0_4 h
 cases k with
 | zero => exact absurd h (by simp [types_format.f])
 | succ k =>
 simp only [types_format.f] at h
 have hu24 := Tryd.underlying24
 have HR0_4 := Aside0.mk hr0_4
 have HC0_4 := Aside0.mk hc0_4
 clear hr0_4 hc0_4
 have HB := Aside0.mk (Below.refl w.heap.size w)
 have H : (if a0_0 = 1 then (some (⟨#[98, 111, 111, 108]⟩ : ByteArray)) else (if a0_0 = 2 then ((strconv_Itoa_71.f a0_1).bind fun t189 => (if 4 + t189.size ≤ 9223372036854775807 then (if ((⟨#[105, 110, 116, 91]⟩ : ByteArray) ++ t189).size + 2 ≤ 9223372036854775807 then ((strconv_Itoa_71.f a0_2).bind fun t190 => (if (((⟨#[105, 110, 116, 91]⟩ : ByteArray) ++ t189) ++ (⟨#[44, 32]⟩ : ByteArray)).size + t190.size ≤ 9223372036854775807 then (if ((((⟨#[105, 110, 116, 91]⟩ : ByteArray) ++ t189) ++ (⟨#[44, 32]⟩ : ByteArray)) ++ t190).size + 1 ≤ 9223372036854775807 then (some (((((⟨#[105, 110, 116, 91]⟩ : ByteArray) ++ t189) ++ (⟨#[44, 32]⟩ : ByteArray)) ++ t190) ++ (⟨#[93]⟩ : ByteArray))) else (none)) else (none))) else (none)) else (none))) else (if a0_0 = 3 then (some (⟨#[110, 97, 116]⟩ : ByteArray)) else (if a0_0 = 4 then (some (⟨#[114, 101, 97, 108]⟩ : ByteArray)) else (if a0_0 = 6 then ((strconv_Itoa_71.f a0_3).bind fun t191 => (if 5 + t191.size ≤ 9223372036854775807 then (if ((⟨#[108, 105, 115, 116, 91]⟩ : ByteArray) ++ t191).size + 2 ≤ 9223372036854775807 then (if 0 < (l0_4.length : Int) then ((types_format.f k ((rd_T24 l0_4 0).f0) ((rd_T24 l0_4 0).f1) ((rd_T24 l0_4 0).f2) ((rd_T24 l0_4 0).f3) ((rd_T24 l0_4 0).f4)).bind fun t193 => (if (((⟨#[108, 105, 115, 116, 91]⟩ : ByteArray) ++ t191) ++ (⟨#[93, 32]⟩ : ByteArray)).size + t193.size ≤ 9223372036854775807 then (some ((((⟨#[108, 105, 115, 116, 91]⟩ : ByteArray) ++ t191) ++ (⟨#[93, 32]⟩ : ByteArray)) ++ t193)) else (none))) else (none)) else (none)) else (none))) else (types_format.l0 k ([] : List ByteArray) l0_4 (l0_4.length : Int) 0)))))) = some r := h
 clear h
 by_cases c2 : a0_0 = 1
 ·rw [if_pos c2] at H
  have c2b0 : (a0_0 == 1) = true := beq_iff_eq.mpr c2
  have c2b1 : (a0_0 != 1) = false := bne_eq_false_iff_eq.mpr c2
  clear c2
  obtain rfl := Option.some.inj H
  go_enter Tryd.func44, Tryd.ntmps44
  go_wp2_with (first | ((with_reducible refine gate_dst (N := 1) rfl ?_); refine box_event ?hg (N := 1) ?hd (cs := #[.int .i64 a0_0, .int .i64 a0_1, .int .i64 a0_2, .int .i64 a0_3, .slice A0_4 l0_4.length c0_4]) (t := 24) ?hr ?_; (case hd => rfl); (case hg => rfl); (case hr => first | (go_simp; done) | (go_simp; rfl)); intro gb188 hg w3 hbox hb; have BK188 := Aside0.mk (hbox); have GW188 : Aside0 (w.heap.size ≤ gb188) := gw_ hg (below_size bl_); have GE188 := GW188; replace HB := Aside0.mk (below_step bl_ hb); clear hb hbox hg; obtain ⟨hcz4_0, hcz4_1, hcz4_2, hcz4_3, hcz4_4, hfz4_0, hfz4_1, hfz4_2, hfz4_3, hfz4_4⟩ := cf5_ BK188.out))
  go_ret
  exact ⟨re_, bl_⟩
 ·rw [if_neg c2] at H
  have c2b0 : (a0_0 == 1) = false := beq_eq_false_iff_ne.mpr c2
  have c2b1 : (a0_0 != 1) = true := bne_iff_ne.mpr c2
  by_cases c5 : a0_0 = 2
  ·rw [if_pos c5] at H
   have c5b0 : (a0_0 == 2) = true := beq_iff_eq.mpr c5
   have c5b1 : (a0_0 != 2) = false := bne_eq_false_iff_eq.mpr c5
   clear c5
   replace H := Option.bind_eq_some_iff.mp H
   obtain ⟨t189, A60, H⟩ := H
   replace H : (if 4 + t189.size ≤ 9223372036854775807 then (if ((⟨#[105, 110, 116, 91]⟩ : ByteArray) ++ t189).size + 2 ≤ 9223372036854775807 then ((strconv_Itoa_71.f a0_2).bind fun t190 => (if (((⟨#[105, 110, 116, 91]⟩ : ByteArray) ++ t189) ++ (⟨#[44, 32]⟩ : ByteArray)).size + t190.size ≤ 9223372036854775807 then (if ((((⟨#[105, 110, 116, 91]⟩ : ByteArray) ++ t189) ++ (⟨#[44, 32]⟩ : ByteArray)) ++ t190).size + 1 ≤ 9223372036854775807 then (some (((((⟨#[105, 110, 116, 91]⟩ : ByteArray) ++ t189) ++ (⟨#[44, 32]⟩ : ByteArray)) ++ t190) ++ (⟨#[93]⟩ : ByteArray))) else (none)) else (none))) else (none)) else (none)) = some r := H
   have A6 := Aside0.mk A60
   clear A60
   by_cases c7 : 4 + t189.size ≤ 9223372036854775807
   ·rw [if_pos c7] at H
    have c7b0 := eq_true c7
    have c7b1 : decide (4 + t189.size ≤ 9223372036854775807) = true := decide_eq_true c7
    try have c7b2 : (9223372036854775807 < 4 + t189.size) = False := eq_false (Nat.not_lt.2 c7)
    by_cases c8 : ((⟨#[105, 110, 116, 91]⟩ : ByteArray) ++ t189).size + 2 ≤ 9223372036854775807
    ·rw [if_pos c8] at H
     have c8b0 := eq_true c8
     have c8b1 : decide (((⟨#[105, 110, 116, 91]⟩ : ByteArray) ++ t189).size + 2 ≤ 9223372036854775807) = true := decide_eq_true c8
     try have c8b2 : (9223372036854775807 < ((⟨#[105, 110, 116, 91]⟩ : ByteArray) ++ t189).size + 2) = False := eq_false (Nat.not_lt.2 c8)
     replace H := Option.bind_eq_some_iff.mp H
     obtain ⟨t190, A90, H⟩ := H
     replace H : (if (((⟨#[105, 110, 116, 91]⟩ : ByteArray) ++ t189) ++ (⟨#[44, 32]⟩ : ByteArray)).size + t190.size ≤ 9223372036854775807 then (if ((((⟨#[105, 110, 116, 91]⟩ : ByteArray) ++ t189) ++ (⟨#[44, 32]⟩ : ByteArray)) ++ t190).size + 1 ≤ 9223372036854775807 then (some (((((⟨#[105, 110, 116, 91]⟩ : ByteArray) ++ t189) ++ (⟨#[44, 32]⟩ : ByteArray)) ++ t190) ++ (⟨#[93]⟩ : ByteArray))) else (none)) else (none)) = some r := H
     have A9 := Aside0.mk A90
     clear A90
     by_cases c10 : (((⟨#[105, 110, 116, 91]⟩ : ByteArray) ++ t189) ++ (⟨#[44, 32]⟩ : ByteArray)).size + t190.size ≤ 9223372036854775807
     ·rw [if_pos c10] at H
      have c10b0 := eq_true c10
      have c10b1 : decide ((((⟨#[105, 110, 116, 91]⟩ : ByteArray) ++ t189) ++ (⟨#[44, 32]⟩ : ByteArray)).size + t190.size ≤ 9223372036854775807) = true := decide_eq_true c10
      try have c10b2 : (9223372036854775807 < (((⟨#[105, 110, 116, 91]⟩ : ByteArray) ++ t189) ++ (⟨#[44, 32]⟩ : ByteArray)).size + t190.size) = False := eq_false (Nat.not_lt.2 c10)
      by_cases c11 : ((((⟨#[105, 110, 116, 91]⟩ : ByteArray) ++ t189) ++ (⟨#[44, 32]⟩ : ByteArray)) ++ t190).size + 1 ≤ 9223372036854775807
      ·rw [if_pos c11] at H
       have c11b0 := eq_true c11
       have c11b1 : decide (((((⟨#[105, 110, 116, 91]⟩ : ByteArray) ++ t189) ++ (⟨#[44, 32]⟩ : ByteArray)) ++ t190).size + 1 ≤ 9223372036854775807) = true := decide_eq_true c11
       try have c11b2 : (9223372036854775807 < ((((⟨#[105, 110, 116, 91]⟩ : ByteArray) ++ t189) ++ (⟨#[44, 32]⟩ : ByteArray)) ++ t190).size + 1) = False := eq_false (Nat.not_lt.2 c11)
       obtain rfl := Option.some.inj H
       go_enter Tryd.func44, Tryd.ntmps44
       try go_wp2_with (first | ((with_reducible refine gate_dst (N := 1) rfl ?_); refine box_event ?hg (N := 1) ?hd (cs := #[.int .i64 a0_0, .int .i64 a0_1, .int .i64 a0_2, .int .i64 a0_3, .slice A0_4 l0_4.length c0_4]) (t := 24) ?hr ?_; (case hd => rfl); (case hg => rfl); (case hr => first | (go_simp; done) | (go_simp; rfl)); intro gb188 hg w12 hbox hb; have BK188 := Aside0.mk (hbox); have GW188 : Aside0 (w.heap.size ≤ gb188) := gw_ hg (below_size bl_); have GE188 := GW188; replace HB := Aside0.mk (below_step bl_ hb); clear hb hbox hg; obtain ⟨hcz13_0, hcz13_1, hcz13_2, hcz13_3, hcz13_4, hfz13_0, hfz13_1, hfz13_2, hfz13_3, hfz13_4⟩ := cf5_ BK188.out))
       replace BK188 := Aside0.mk (blk_drew BK188.out)
       replace HB := Aside0.mk (below_drew1 HB.out)
       refine start_ (n := 11) (S := fun w' => w'.cell? ⟨gb188, 0, none⟩ = some (.int .i64 a0_0) ∧ w'.cell? ⟨gb188, 1, none⟩ = some (.int .i64 a0_1) ∧ w'.cell? ⟨gb188, 2, none⟩ = some (.int .i64 a0_2) ∧ w'.cell? ⟨gb188, 3, none⟩ = some (.int .i64 a0_3) ∧ w'.cell? ⟨gb188, 4, none⟩ = some (.slice A0_4 l0_4.length c0_4)) (ds := []) #[false, false, false, false, false, false, false, false, false, false, false] (by kernel_rfl) rfl rfl ⟨(blk_cell BK188.out 0).trans rfl, (blk_cell BK188.out 1).trans rfl, (blk_cell BK188.out 2).trans rfl, (blk_cell BK188.out 3).trans rfl, (blk_cell BK188.out 4).trans rfl⟩ (fun hHeld => ?_); refine with_tabW types_format.tab5 types_format.bits5 (fun HT_ HW_ => ?_)
       generalize w12.drew = w14 at BK188 HB hHeld ⊢
       refine pure_ (i := 0) (N := some 12) (v := ?_) (a' := ?_) #[true, false, false, false, false, false, false, false, false, false, false] rfl rfl (any_of HT_.out (by kernel_rfl)) (fun _ _ _ h => h) (Or.inl ⟨by rfl, ?_⟩) ?_ ?_
       rotate_left
       ·intro w'
        go_simp
        first | with_reducible rfl | (rw [if_neg (by (try simp only [ByteArray.size_append, lit_size, List.size_toArray, List.length_cons, List.length_nil] at c11); (try simp only [ByteArray.size_append, lit_size, List.size_toArray, List.length_cons, List.length_nil] at c10); (try simp only [ByteArray.size_append, lit_size, List.size_toArray, List.length_cons, List.length_nil] at c8); (try simp only [ByteArray.size_append, lit_size, List.size_toArray, List.length_cons, List.length_nil] at c7); omega)])
       rotate_left
       ·simp only [Act.put, List.setIfInBounds_toArray, List.set_cons_zero, List.set_cons_succ, i64_w, i32_w]
        rfl
       refine pure_ (i := 5) (N := some 17) (v := ?_) (a' := ?_) #[true, false, false, false, false, true, false, false, false, false, false] rfl rfl (any_of HT_.out (by kernel_rfl)) (fun _ _ _ h => h) (Or.inl ⟨by rfl, ?_⟩) ?_ ?_
       rotate_left
       ·intro w'
        go_simp
        first | with_reducible rfl | (rw [if_neg (by (try simp only [ByteArray.size_append, lit_size, List.size_toArray, List.length_cons, List.length_nil] at c11); (try simp only [ByteArray.size_append, lit_size, List.size_toArray, List.length_cons, List.length_nil] at c10); (try simp only [ByteArray.size_append, lit_size, List.size_toArray, List.length_cons, List.length_nil] at c8); (try simp only [ByteArray.size_append, lit_size, List.size_toArray, List.length_cons, List.length_nil] at c7); omega)])
       rotate_left
       ·simp only [Act.put, List.setIfInBounds_toArray, List.set_cons_zero, List.set_cons_succ, i64_w, i32_w]
        rfl
       refine take_ (i := 1) (N := some 13) (v := ?_) (a' := ?_) #[true, true, false, false, false, true, false, false, false, false, false] rfl rfl (take_ofW HT_.out HW_.out (by kernel_rfl)) (fun _ _ _ h => h) (Or.inl ⟨by rfl, ?_⟩) hHeld ?_ ?_
       rotate_left
       ·rintro w' ⟨s0, s1, s2, s3, s4⟩
        go_simp
        first | with_reducible rfl | (rw [if_neg (by (try simp only [ByteArray.size_append, lit_size, List.size_toArray, List.length_cons, List.length_nil] at c11); (try simp only [ByteArray.size_append, lit_size, List.size_toArray, List.length_cons, List.length_nil] at c10); (try simp only [ByteArray.size_append, lit_size, List.size_toArray, List.length_cons, List.length_nil] at c8); (try simp only [ByteArray.size_append, lit_size, List.size_toArray, List.length_cons, List.length_nil] at c7); omega)])
       rotate_left
       ·simp only [Act.put, List.setIfInBounds_toArray, List.set_cons_zero, List.set_cons_succ, i64_w, i32_w]
        rfl
       refine take_ (i := 6) (N := some 18) (v := ?_) (a' := ?_) #[true, true, false, false, false, true, true, false, false, false, false] rfl rfl (take_ofW HT_.out HW_.out (by kernel_rfl)) (fun _ _ _ h => h) (Or.inl ⟨by rfl, ?_⟩) hHeld ?_ ?_
       rotate_left
       ·rintro w' ⟨s0, s1, s2, s3, s4⟩
        go_simp
        first | with_reducible rfl | (rw [if_neg (by (try simp only [ByteArray.size_append, lit_size, List.size_toArray, List.length_cons, List.length_nil] at c11); (try simp only [ByteArray.size_append, lit_size, List.size_toArray, List.length_cons, List.length_nil] at c10); (try simp only [ByteArray.size_append, lit_size, List.size_toArray, List.length_cons, List.length_nil] at c8); (try simp only [ByteArray.size_append, lit_size, List.size_toArray, List.length_cons, List.length_nil] at c7); omega)])
       rotate_left
       ·simp only [Act.put, List.setIfInBounds_toArray, List.set_cons_zero, List.set_cons_succ, i64_w, i32_w]
        rfl
       refine one_ (i := 2) (N := some 14) #[true, true, true, false, false, true, true, false, false, false, false] rfl rfl (one_of HT_.out (by kernel_rfl)) (by decide) (fun K hK => ?_)
       refine goes_ Tryd.func71 (by kernel_rfl) rfl #[.int .i64 a0_1] (by rfl) rfl rfl (by (try simp only [List.map_toArray, List.map_cons, List.map_nil]); first | done | rfl | (simp only [List.length_drop, List.length_take]; rfl)) ?_
       with_reducible refine (strconv_Itoa_71.calls a0_1 t189 _ A6.out).mono ?_
       rintro e w15 ⟨rfl, hb⟩
       refine ⟨_, rfl, ?_⟩
       replace BK188 := Aside0.mk (blk_below (g := gb188) (o := .cells #[.int .i64 a0_0, .int .i64 a0_1, .int .i64 a0_2, .int .i64 a0_3, .slice A0_4 l0_4.length c0_4] 24 (0, 0)) bk_ hb)
       replace HB := Aside0.mk (below_step bl_ hb)
       (try clear hb)
       (try clear hb2)
       (try clear hk)
       (try clear hi)
       refine hK.out _ _ ⟨(blk_cell BK188.out 0).trans rfl, (blk_cell BK188.out 1).trans rfl, (blk_cell BK188.out 2).trans rfl, (blk_cell BK188.out 3).trans rfl, (blk_cell BK188.out 4).trans rfl⟩ (fun hHeld => ?_)
       clear hK K
       refine norm_ (a' := ?_) ?_ ?_
       rotate_left
       ·show Act.put _ (some 14) _ = _
        simp only [Act.put, List.setIfInBounds_toArray, List.set_cons_zero, List.set_cons_succ, i64_w, i32_w]
        rfl
       refine pure_ (i := 3) (N := some 15) (v := ?_) (a' := ?_) #[true, true, true, true, false, true, true, false, false, false, false] rfl rfl (any_of HT_.out (by kernel_rfl)) (fun _ _ _ h => h) (Or.inl ⟨by rfl, ?_⟩) ?_ ?_
       rotate_left
       ·intro w'
        go_simp
        first | with_reducible rfl | (rw [if_neg (by (try simp only [ByteArray.size_append, lit_size, List.size_toArray, List.length_cons, List.length_nil] at c11); (try simp only [ByteArray.size_append, lit_size, List.size_toArray, List.length_cons, List.length_nil] at c10); (try simp only [ByteArray.size_append, lit_size, List.size_toArray, List.length_cons, List.length_nil] at c8); (try simp only [ByteArray.size_append, lit_size, List.size_toArray, List.length_cons, List.length_nil] at c7); omega)])
       rotate_left
       ·simp only [Act.put, List.setIfInBounds_toArray, List.set_cons_zero, List.set_cons_succ, i64_w, i32_w]
        rfl
       refine pure_ (i := 4) (N := some 16) (v := ?_) (a' := ?_) #[true, true, true, true, true, true, true, false, false, false, false] rfl rfl (any_of HT_.out (by kernel_rfl)) (fun _ _ _ h => h) (Or.inl ⟨by rfl, ?_⟩) ?_ ?_
       rotate_left
       ·intro w'
        go_simp
        first | with_reducible rfl | (rw [if_neg (by (try simp only [ByteArray.size_append, lit_size, List.size_toArray, List.length_cons, List.length_nil] at c11); (try simp only [ByteArray.size_append, lit_size, List.size_toArray, List.length_cons, List.length_nil] at c10); (try simp only [ByteArray.size_append, lit_size, List.size_toArray, List.length_cons, List.length_nil] at c8); (try simp only [ByteArray.size_append, lit_size, List.size_toArray, List.length_cons, List.length_nil] at c7); omega)])
       rotate_left
       ·simp only [Act.put, List.setIfInBounds_toArray, List.set_cons_zero, List.set_cons_succ, i64_w, i32_w]
        rfl
       refine one_ (i := 7) (N := some 19) #[true, true, true, true, true, true, true, true, false, false, false] rfl rfl (one_of HT_.out (by kernel_rfl)) (by decide) (fun K hK => ?_)
       refine goes_ Tryd.func71 (by kernel_rfl) rfl #[.int .i64 a0_2] (by rfl) rfl rfl (by (try simp only [List.map_toArray, List.map_cons, List.map_nil]); first | done | rfl | (simp only [List.length_drop, List.length_take]; rfl)) ?_
       with_reducible refine (strconv_Itoa_71.calls a0_2 t190 _ A9.out).mono ?_
       rintro e w16 ⟨rfl, hb⟩
       refine ⟨_, rfl, ?_⟩
       replace BK188 := Aside0.mk (blk_below (g := gb188) (o := .cells #[.int .i64 a0_0, .int .i64 a0_1, .int .i64 a0_2, .int .i64 a0_3, .slice A0_4 l0_4.length c0_4] 24 (0, 0)) bk_ hb)
       replace HB := Aside0.mk (below_step bl_ hb)
       (try clear hb)
       (try clear hb2)
       (try clear hk)
       (try clear hi)
       refine hK.out _ _ ⟨(blk_cell BK188.out 0).trans rfl, (blk_cell BK188.out 1).trans rfl, (blk_cell BK188.out 2).trans rfl, (blk_cell BK188.out 3).trans rfl, (blk_cell BK188.out 4).trans rfl⟩ (fun hHeld => ?_)
       clear hK K
       refine norm_ (a' := ?_) ?_ ?_
       rotate_left
       ·show Act.put _ (some 19) _ = _
        simp only [Act.put, List.setIfInBounds_toArray, List.set_cons_zero, List.set_cons_succ, i64_w, i32_w]
        rfl
       refine pure_ (i := 8) (N := some 20) (v := ?_) (a' := ?_) #[true, true, true, true, true, true, true, true, true, false, false] rfl rfl (any_of HT_.out (by kernel_rfl)) (fun _ _ _ h => h) (Or.inl ⟨by rfl, ?_⟩) ?_ ?_
       rotate_left
       ·intro w'
        go_simp
        first | with_reducible rfl | (rw [if_neg (by (try simp only [ByteArray.size_append, lit_size, List.size_toArray, List.length_cons, List.length_nil] at c11); (try simp only [ByteArray.size_append, lit_size, List.size_toArray, List.length_cons, List.length_nil] at c10); (try simp only [ByteArray.size_append, lit_size, List.size_toArray, List.length_cons, List.length_nil] at c8); (try simp only [ByteArray.size_append, lit_size, List.size_toArray, List.length_cons, List.length_nil] at c7); omega)])
       rotate_left
       ·simp only [Act.put, List.setIfInBounds_toArray, List.set_cons_zero, List.set_cons_succ, i64_w, i32_w]
        rfl
       refine pure_ (i := 9) (N := some 21) (v := ?_) (a' := ?_) #[true, true, true, true, true, true, true, true, true, true, false] rfl rfl (any_of HT_.out (by kernel_rfl)) (fun _ _ _ h => h) (Or.inl ⟨by rfl, ?_⟩) ?_ ?_
       rotate_left
       ·intro w'
        go_simp
        first | with_reducible rfl | (rw [if_neg (by (try simp only [ByteArray.size_append, lit_size, List.size_toArray, List.length_cons, List.length_nil] at c11); (try simp only [ByteArray.size_append, lit_size, List.size_toArray, List.length_cons, List.length_nil] at c10); (try simp only [ByteArray.size_append, lit_size, List.size_toArray, List.length_cons, List.length_nil] at c8); (try simp only [ByteArray.size_append, lit_size, List.size_toArray, List.length_cons, List.length_nil] at c7); omega)])
       rotate_left
       ·simp only [Act.put, List.setIfInBounds_toArray, List.set_cons_zero, List.set_cons_succ, i64_w, i32_w]
        rfl
       refine pure_ (i := 10) (N := some 2) (v := ?_) (a' := ?_) #[true, true, true, true, true, true, true, true, true, true, true] rfl rfl (any_of HT_.out (by kernel_rfl)) (fun _ _ _ h => h) (Or.inl ⟨by rfl, ?_⟩) ?_ ?_
       rotate_left
       ·intro w'
        go_simp
        first | with_reducible rfl | (rw [if_neg (by (try simp only [ByteArray.size_append, lit_size, List.size_toArray, List.length_cons, List.length_nil] at c11); (try simp only [ByteArray.size_append, lit_size, List.size_toArray, List.length_cons, List.length_nil] at c10); (try simp only [ByteArray.size_append, lit_size, List.size_toArray, List.length_cons, List.length_nil] at c8); (try simp only [ByteArray.size_append, lit_size, List.size_toArray, List.length_cons, List.length_nil] at c7); omega)])
       rotate_left
       ·simp only [Act.put, List.setIfInBounds_toArray, List.set_cons_zero, List.set_cons_succ, i64_w, i32_w]
        rfl
       refine done_ (done_of HT_.out (by kernel_rfl)) ?_
       try go_wp2
       go_ret
       exact ⟨re_, bl_⟩
      ·rw [if_neg c11] at H
       exact absurd H (by simp)
     ·rw [if_neg c10] at H
      exact absurd H (by simp)
    ·rw [if_neg c8] at H
     exact absurd H (by simp)
   ·rw [if_neg c7] at H
    exact absurd H (by simp)
  ·rw [if_neg c5] at H
   have c5b0 : (a0_0 == 2) = false := beq_eq_false_iff_ne.mpr c5
   have c5b1 : (a0_0 != 2) = true := bne_iff_ne.mpr c5
   by_cases c17 : a0_0 = 3
   ·rw [if_pos c17] at H
    have c17b0 : (a0_0 == 3) = true := beq_iff_eq.mpr c17
    have c17b1 : (a0_0 != 3) = false := bne_eq_false_iff_eq.mpr c17
    clear c17
    obtain rfl := Option.some.inj H
    go_enter Tryd.func44, Tryd.ntmps44
    go_wp2_with (first | ((with_reducible refine gate_dst (N := 1) rfl ?_); refine box_event ?hg (N := 1) ?hd (cs := #[.int .i64 a0_0, .int .i64 a0_1, .int .i64 a0_2, .int .i64 a0_3, .slice A0_4 l0_4.length c0_4]) (t := 24) ?hr ?_; (case hd => rfl); (case hg => rfl); (case hr => first | (go_simp; done) | (go_simp; rfl)); intro gb188 hg w18 hbox hb; have BK188 := Aside0.mk (hbox); have GW188 : Aside0 (w.heap.size ≤ gb188) := gw_ hg (below_size bl_); have GE188 := GW188; replace HB := Aside0.mk (below_step bl_ hb); clear hb hbox hg; obtain ⟨hcz19_0, hcz19_1, hcz19_2, hcz19_3, hcz19_4, hfz19_0, hfz19_1, hfz19_2, hfz19_3, hfz19_4⟩ := cf5_ BK188.out))
    go_ret
    exact ⟨re_, bl_⟩
   ·rw [if_neg c17] at H
    have c17b0 : (a0_0 == 3) = false := beq_eq_false_iff_ne.mpr c17
    have c17b1 : (a0_0 != 3) = true := bne_iff_ne.mpr c17
    by_cases c20 : a0_0 = 4
    ·rw [if_pos c20] at H
     have c20b0 : (a0_0 == 4) = true := beq_iff_eq.mpr c20
     have c20b1 : (a0_0 != 4) = false := bne_eq_false_iff_eq.mpr c20
     clear c20
     obtain rfl := Option.some.inj H
     go_enter Tryd.func44, Tryd.ntmps44
     go_wp2_with (first | ((with_reducible refine gate_dst (N := 1) rfl ?_); refine box_event ?hg (N := 1) ?hd (cs := #[.int .i64 a0_0, .int .i64 a0_1, .int .i64 a0_2, .int .i64 a0_3, .slice A0_4 l0_4.length c0_4]) (t := 24) ?hr ?_; (case hd => rfl); (case hg => rfl); (case hr => first | (go_simp; done) | (go_simp; rfl)); intro gb188 hg w21 hbox hb; have BK188 := Aside0.mk (hbox); have GW188 : Aside0 (w.heap.size ≤ gb188) := gw_ hg (below_size bl_); have GE188 := GW188; replace HB := Aside0.mk (below_step bl_ hb); clear hb hbox hg; obtain ⟨hcz22_0, hcz22_1, hcz22_2, hcz22_3, hcz22_4, hfz22_0, hfz22_1, hfz22_2, hfz22_3, hfz22_4⟩ := cf5_ BK188.out))
     go_ret
     exact ⟨re_, bl_⟩
    ·rw [if_neg c20] at H
     have c20b0 : (a0_0 == 4) = false := beq_eq_false_iff_ne.mpr c20
     have c20b1 : (a0_0 != 4) = true := bne_iff_ne.mpr c20
     by_cases c23 : a0_0 = 6
     ·rw [if_pos c23] at H
      have c23b0 : (a0_0 == 6) = true := beq_iff_eq.mpr c23
      have c23b1 : (a0_0 != 6) = false := bne_eq_false_iff_eq.mpr c23
      clear c23
      replace H := Option.bind_eq_some_iff.mp H
      obtain ⟨t191, A240, H⟩ := H
      replace H : (if 5 + t191.size ≤ 9223372036854775807 then (if ((⟨#[108, 105, 115, 116, 91]⟩ : ByteArray) ++ t191).size + 2 ≤ 9223372036854775807 then (if 0 < (l0_4.length : Int) then ((types_format.f k ((rd_T24 l0_4 0).f0) ((rd_T24 l0_4 0).f1) ((rd_T24 l0_4 0).f2) ((rd_T24 l0_4 0).f3) ((rd_T24 l0_4 0).f4)).bind fun t193 => (if (((⟨#[108, 105, 115, 116, 91]⟩ : ByteArray) ++ t191) ++ (⟨#[93, 32]⟩ : ByteArray)).size + t193.size ≤ 9223372036854775807 then (some ((((⟨#[108, 105, 115, 116, 91]⟩ : ByteArray) ++ t191) ++ (⟨#[93, 32]⟩ : ByteArray)) ++ t193)) else (none))) else (none)) else (none)) else (none)) = some r := H
      have A24 := Aside0.mk A240
      clear A240
      by_cases c25 : 5 + t191.size ≤ 9223372036854775807
      ·rw [if_pos c25] at H
       have c25b0 := eq_true c25
       have c25b1 : decide (5 + t191.size ≤ 9223372036854775807) = true := decide_eq_true c25
       try have c25b2 : (9223372036854775807 < 5 + t191.size) = False := eq_false (Nat.not_lt.2 c25)
       by_cases c26 : ((⟨#[108, 105, 115, 116, 91]⟩ : ByteArray) ++ t191).size + 2 ≤ 9223372036854775807
       ·rw [if_pos c26] at H
        have c26b0 := eq_true c26
        have c26b1 : decide (((⟨#[108, 105, 115, 116, 91]⟩ : ByteArray) ++ t191).size + 2 ≤ 9223372036854775807) = true := decide_eq_true c26
        try have c26b2 : (9223372036854775807 < ((⟨#[108, 105, 115, 116, 91]⟩ : ByteArray) ++ t191).size + 2) = False := eq_false (Nat.not_lt.2 c26)
        by_cases c27 : 0 < (l0_4.length : Int)
        ·rw [if_pos c27] at H
         have c27b0 : decide (0 < (l0_4.length : Int)) = true := decide_eq_true c27
         have c27b1 : decide (0 < l0_4.length) = true := decide_eq_true (by omega)
         clear c27
         replace H := Option.bind_eq_some_iff.mp H
         obtain ⟨t193, A280, H⟩ := H
         replace H : (if (((⟨#[108, 105, 115, 116, 91]⟩ : ByteArray) ++ t191) ++ (⟨#[93, 32]⟩ : ByteArray)).size + t193.size ≤ 9223372036854775807 then (some ((((⟨#[108, 105, 115, 116, 91]⟩ : ByteArray) ++ t191) ++ (⟨#[93, 32]⟩ : ByteArray)) ++ t193)) else (none)) = some r := H
         have A28 := Aside0.mk A280
         clear A280
         by_cases c29 : (((⟨#[108, 105, 115, 116, 91]⟩ : ByteArray) ++ t191) ++ (⟨#[93, 32]⟩ : ByteArray)).size + t193.size ≤ 9223372036854775807
         ·rw [if_pos c29] at H
          have c29b0 := eq_true c29
          have c29b1 : decide ((((⟨#[108, 105, 115, 116, 91]⟩ : ByteArray) ++ t191) ++ (⟨#[93, 32]⟩ : ByteArray)).size + t193.size ≤ 9223372036854775807) = true := decide_eq_true c29
          try have c29b2 : (9223372036854775807 < (((⟨#[108, 105, 115, 116, 91]⟩ : ByteArray) ++ t191) ++ (⟨#[93, 32]⟩ : ByteArray)).size + t193.size) = False := eq_false (Nat.not_lt.2 c29)
          obtain rfl := Option.some.inj H
          go_enter Tryd.func44, Tryd.ntmps44
          try go_wp2_with (first | ((with_reducible refine gate_dst (N := 1) rfl ?_); refine box_event ?hg (N := 1) ?hd (cs := #[.int .i64 a0_0, .int .i64 a0_1, .int .i64 a0_2, .int .i64 a0_3, .slice A0_4 l0_4.length c0_4]) (t := 24) ?hr ?_; (case hd => rfl); (case hg => rfl); (case hr => first | (go_simp; done) | (go_simp; rfl)); intro gb188 hg w30 hbox hb; have BK188 := Aside0.mk (hbox); have GW188 : Aside0 (w.heap.size ≤ gb188) := gw_ hg (below_size bl_); have GE188 := GW188; replace HB := Aside0.mk (below_step bl_ hb); clear hb hbox hg; obtain ⟨hcz31_0, hcz31_1, hcz31_2, hcz31_3, hcz31_4, hfz31_0, hfz31_1, hfz31_2, hfz31_3, hfz31_4⟩ := cf5_ BK188.out))
          replace BK188 := Aside0.mk (blk_drew BK188.out)
          replace HB := Aside0.mk (below_drew1 HB.out)
          have p192 : 0 ≤ (0 : Int) := (by omega)
          have q192 : 0 < (l0_4.length : Int) := dt_
          obtain ⟨ad192, A192_4, c192_4, e192, hx192_0, hx192_1, hx192_2, hx192_3, hx192_4, hl192_4, hi192_4⟩ := at_T24 HR0_4.out 0 p192 q192
          have hw192_4 := hx192_4
          (try rw [show ((0 : Int)).toNat = 0 from rfl] at hw192_4)
          (try rw [show 0 * 5 = 0 from rfl] at hw192_4)
          (try rw [Addr.add_zero'] at hw192_4)
          have hw192_3 := hx192_3
          (try rw [show ((0 : Int)).toNat = 0 from rfl] at hw192_3)
          (try rw [show 0 * 5 = 0 from rfl] at hw192_3)
          (try rw [Addr.add_zero'] at hw192_3)
          have hw192_2 := hx192_2
          (try rw [show ((0 : Int)).toNat = 0 from rfl] at hw192_2)
          (try rw [show 0 * 5 = 0 from rfl] at hw192_2)
          (try rw [Addr.add_zero'] at hw192_2)
          have hw192_1 := hx192_1
          (try rw [show ((0 : Int)).toNat = 0 from rfl] at hw192_1)
          (try rw [show 0 * 5 = 0 from rfl] at hw192_1)
          (try rw [Addr.add_zero'] at hw192_1)
          have hw192_0 := hx192_0
          (try rw [show ((0 : Int)).toNat = 0 from rfl] at hw192_0)
          (try rw [show 0 * 5 = 0 from rfl] at hw192_0)
          (try rw [Addr.add_zero'] at hw192_0)
          cases e192
          have qi192 : (0 < l0_4.length) = True := eq_true (by omega)
          (try rw [show ((0 : Int)).toNat = 0 from rfl] at hx192_0)
          (try rw [show 0 * 5 = 0 from rfl] at hx192_0)
          (try rw [Addr.add_zero'] at hx192_0)
          (try rw [show ((0 : Int)).toNat = 0 from rfl] at hx192_1)
          (try rw [show 0 * 5 = 0 from rfl] at hx192_1)
          (try rw [Addr.add_zero'] at hx192_1)
          (try rw [show ((0 : Int)).toNat = 0 from rfl] at hx192_2)
          (try rw [show 0 * 5 = 0 from rfl] at hx192_2)
          (try rw [Addr.add_zero'] at hx192_2)
          (try rw [show ((0 : Int)).toNat = 0 from rfl] at hx192_3)
          (try rw [show 0 * 5 = 0 from rfl] at hx192_3)
          (try rw [Addr.add_zero'] at hx192_3)
          (try rw [show ((0 : Int)).toNat = 0 from rfl] at hx192_4)
          (try rw [show 0 * 5 = 0 from rfl] at hx192_4)
          (try rw [Addr.add_zero'] at hx192_4)
          replace hx192_0 := (HB.out.cell (World.block_lt_of_cell? w _ hx192_0)).trans hx192_0
          replace hx192_1 := (HB.out.cell (World.block_lt_of_cell? w _ hx192_1)).trans hx192_1
          replace hx192_2 := (HB.out.cell (World.block_lt_of_cell? w _ hx192_2)).trans hx192_2
          replace hx192_3 := (HB.out.cell (World.block_lt_of_cell? w _ hx192_3)).trans hx192_3
          replace hx192_4 := (HB.out.cell (World.block_lt_of_cell? w _ hx192_4)).trans hx192_4
          have HR192_4 := Aside0.mk hi192_4
          have HC192_4 := Aside0.mk hl192_4
          clear hi192_4 hl192_4
          replace p192 := eq_true p192
          replace q192 := eq_true q192
          refine start_ (n := 12) (S := fun w' => w'.cell? ⟨gb188, 0, none⟩ = some (.int .i64 a0_0) ∧ w'.cell? ⟨gb188, 1, none⟩ = some (.int .i64 a0_1) ∧ w'.cell? ⟨gb188, 2, none⟩ = some (.int .i64 a0_2) ∧ w'.cell? ⟨gb188, 3, none⟩ = some (.int .i64 a0_3) ∧ w'.cell? ⟨gb188, 4, none⟩ = some (.slice (some ad192) l0_4.length c0_4) ∧ w'.cell? ad192 = some (.int .i64 ((rd_T24 l0_4 0).f0)) ∧ w'.cell? ⟨ad192.block, ad192.off + 1, none⟩ = some (.int .i64 ((rd_T24 l0_4 0).f1)) ∧ w'.cell? ⟨ad192.block, ad192.off + 2, none⟩ = some (.int .i64 ((rd_T24 l0_4 0).f2)) ∧ w'.cell? ⟨ad192.block, ad192.off + 3, none⟩ = some (.int .i64 ((rd_T24 l0_4 0).f3)) ∧ w'.cell? ⟨ad192.block, ad192.off + 4, none⟩ = some (.slice A192_4 ((rd_T24 l0_4 0).f4).length c192_4)) (ds := []) #[false, false, false, false, false, false, false, false, false, false, false, false] (by kernel_rfl) rfl rfl ⟨(blk_cell BK188.out 0).trans rfl, (blk_cell BK188.out 1).trans rfl, (blk_cell BK188.out 2).trans rfl, (blk_cell BK188.out 3).trans rfl, (blk_cell BK188.out 4).trans rfl, ((HB.out.cell (World.block_lt_of_cell? w _ hw192_0)).trans hw192_0), ((HB.out.cell (World.block_lt_of_cell? w _ hw192_1)).trans hw192_1), ((HB.out.cell (World.block_lt_of_cell? w _ hw192_2)).trans hw192_2), ((HB.out.cell (World.block_lt_of_cell? w _ hw192_3)).trans hw192_3), ((HB.out.cell (World.block_lt_of_cell? w _ hw192_4)).trans hw192_4)⟩ (fun hHeld => ?_); refine with_tabW types_format.tab11 types_format.bits11 (fun HT_ HW_ => ?_)
          generalize w30.drew = w32 at BK188 HB HR192_4 hx192_0 hx192_1 hx192_2 hx192_3 hx192_4 hHeld ⊢
          refine pure_ (i := 0) (N := some 28) (v := ?_) (a' := ?_) #[true, false, false, false, false, false, false, false, false, false, false, false] rfl rfl (any_of HT_.out (by kernel_rfl)) (fun _ _ _ h => h) (Or.inl ⟨by rfl, ?_⟩) ?_ ?_
          rotate_left
          ·intro w'
           go_simp
           first | with_reducible rfl | (rw [if_neg (by (try simp only [ByteArray.size_append, lit_size, List.size_toArray, List.length_cons, List.length_nil] at c29); (try simp only [ByteArray.size_append, lit_size, List.size_toArray, List.length_cons, List.length_nil] at c26); (try simp only [ByteArray.size_append, lit_size, List.size_toArray, List.length_cons, List.length_nil] at c25); (try simp only [ByteArray.size_append, lit_size, List.size_toArray, List.length_cons, List.length_nil] at c11); (try simp only [ByteArray.size_append, lit_size, List.size_toArray, List.length_cons, List.length_nil] at c10); (try simp only [ByteArray.size_append, lit_size, List.size_toArray, List.length_cons, List.length_nil] at c8); (try simp only [ByteArray.size_append, lit_size, List.size_toArray, List.length_cons, List.length_nil] at c7); omega)])
          rotate_left
          ·simp only [Act.put, List.setIfInBounds_toArray, List.set_cons_zero, List.set_cons_succ, i64_w, i32_w]
           rfl
          refine pure_ (i := 5) (N := some 33) (v := ?_) (a' := ?_) #[true, false, false, false, false, true, false, false, false, false, false, false] rfl rfl (any_of HT_.out (by kernel_rfl)) (fun _ _ _ h => h) (Or.inl ⟨by rfl, ?_⟩) ?_ ?_
          rotate_left
          ·intro w'
           go_simp
           first | with_reducible rfl | (rw [if_neg (by (try simp only [ByteArray.size_append, lit_size, List.size_toArray, List.length_cons, List.length_nil] at c29); (try simp only [ByteArray.size_append, lit_size, List.size_toArray, List.length_cons, List.length_nil] at c26); (try simp only [ByteArray.size_append, lit_size, List.size_toArray, List.length_cons, List.length_nil] at c25); (try simp only [ByteArray.size_append, lit_size, List.size_toArray, List.length_cons, List.length_nil] at c11); (try simp only [ByteArray.size_append, lit_size, List.size_toArray, List.length_cons, List.length_nil] at c10); (try simp only [ByteArray.size_append, lit_size, List.size_toArray, List.length_cons, List.length_nil] at c8); (try simp only [ByteArray.size_append, lit_size, List.size_toArray, List.length_cons, List.length_nil] at c7); omega)])
          rotate_left
          ·simp only [Act.put, List.setIfInBounds_toArray, List.set_cons_zero, List.set_cons_succ, i64_w, i32_w]
           rfl
          refine take_ (i := 1) (N := some 29) (v := ?_) (a' := ?_) #[true, true, false, false, false, true, false, false, false, false, false, false] rfl rfl (take_ofW HT_.out HW_.out (by kernel_rfl)) (fun _ _ _ h => h) (Or.inl ⟨by rfl, ?_⟩) hHeld ?_ ?_
          rotate_left
          ·rintro w' ⟨s0, s1, s2, s3, s4, s5, s6, s7, s8, s9⟩
           go_simp
           first | with_reducible rfl | (rw [if_neg (by (try simp only [ByteArray.size_append, lit_size, List.size_toArray, List.length_cons, List.length_nil] at c29); (try simp only [ByteArray.size_append, lit_size, List.size_toArray, List.length_cons, List.length_nil] at c26); (try simp only [ByteArray.size_append, lit_size, List.size_toArray, List.length_cons, List.length_nil] at c25); (try simp only [ByteArray.size_append, lit_size, List.size_toArray, List.length_cons, List.length_nil] at c11); (try simp only [ByteArray.size_append, lit_size, List.size_toArray, List.length_cons, List.length_nil] at c10); (try simp only [ByteArray.size_append, lit_size, List.size_toArray, List.length_cons, List.length_nil] at c8); (try simp only [ByteArray.size_append, lit_size, List.size_toArray, List.length_cons, List.length_nil] at c7); omega)])
          rotate_left
          ·simp only [Act.put, List.setIfInBounds_toArray, List.set_cons_zero, List.set_cons_succ, i64_w, i32_w]
           rfl
          refine take_ (i := 6) (N := some 34) (v := ?_) (a' := ?_) #[true, true, false, false, false, true, true, false, false, false, false, false] rfl rfl (take_ofW HT_.out HW_.out (by kernel_rfl)) (fun _ _ _ h => h) (Or.inl ⟨by rfl, ?_⟩) hHeld ?_ ?_
          rotate_left
          ·rintro w' ⟨s0, s1, s2, s3, s4, s5, s6, s7, s8, s9⟩
           go_simp
           first | with_reducible rfl | (rw [if_neg (by (try simp only [ByteArray.size_append, lit_size, List.size_toArray, List.length_cons, List.length_nil] at c29); (try simp only [ByteArray.size_append, lit_size, List.size_toArray, List.length_cons, List.length_nil] at c26); (try simp only [ByteArray.size_append, lit_size, List.size_toArray, List.length_cons, List.length_nil] at c25); (try simp only [ByteArray.size_append, lit_size, List.size_toArray, List.length_cons, List.length_nil] at c11); (try simp only [ByteArray.size_append, lit_size, List.size_toArray, List.length_cons, List.length_nil] at c10); (try simp only [ByteArray.size_append, lit_size, List.size_toArray, List.length_cons, List.length_nil] at c8); (try simp only [ByteArray.size_append, lit_size, List.size_toArray, List.length_cons, List.length_nil] at c7); omega)])
          rotate_left
          ·simp only [Act.put, List.setIfInBounds_toArray, List.set_cons_zero, List.set_cons_succ, i64_w, i32_w]
           rfl
          refine pure_ (i := 7) (N := some 35) (v := ?_) (a' := ?_) #[true, true, false, false, false, true, true, true, false, false, false, false] rfl rfl (any_of HT_.out (by kernel_rfl)) (fun _ _ _ h => h) (Or.inl ⟨by rfl, ?_⟩) ?_ ?_
          rotate_left
          ·intro w'
           go_simp
           first | with_reducible rfl | (rw [if_neg (by (try simp only [ByteArray.size_append, lit_size, List.size_toArray, List.length_cons, List.length_nil] at c29); (try simp only [ByteArray.size_append, lit_size, List.size_toArray, List.length_cons, List.length_nil] at c26); (try simp only [ByteArray.size_append, lit_size, List.size_toArray, List.length_cons, List.length_nil] at c25); (try simp only [ByteArray.size_append, lit_size, List.size_toArray, List.length_cons, List.length_nil] at c11); (try simp only [ByteArray.size_append, lit_size, List.size_toArray, List.length_cons, List.length_nil] at c10); (try simp only [ByteArray.size_append, lit_size, List.size_toArray, List.length_cons, List.length_nil] at c8); (try simp only [ByteArray.size_append, lit_size, List.size_toArray, List.length_cons, List.length_nil] at c7); omega)])
          rotate_left
          ·simp only [Act.put, List.setIfInBounds_toArray, List.set_cons_zero, List.set_cons_succ, i64_w, i32_w]
           rfl
          refine take_ (i := 8) (N := some 36) (v := ?_) (a' := ?_) #[true, true, false, false, false, true, true, true, true, false, false, false] rfl rfl (take_ofW HT_.out HW_.out (by kernel_rfl)) (fun _ _ _ h => h) (Or.inl ⟨by rfl, ?_⟩) hHeld ?_ ?_
          rotate_left
          ·rintro w' ⟨s0, s1, s2, s3, s4, s5, s6, s7, s8, s9⟩
           go_simp
           first | with_reducible rfl | (rw [if_neg (by (try simp only [ByteArray.size_append, lit_size, List.size_toArray, List.length_cons, List.length_nil] at c29); (try simp only [ByteArray.size_append, lit_size, List.size_toArray, List.length_cons, List.length_nil] at c26); (try simp only [ByteArray.size_append, lit_size, List.size_toArray, List.length_cons, List.length_nil] at c25); (try simp only [ByteArray.size_append, lit_size, List.size_toArray, List.length_cons, List.length_nil] at c11); (try simp only [ByteArray.size_append, lit_size, List.size_toArray, List.length_cons, List.length_nil] at c10); (try simp only [ByteArray.size_append, lit_size, List.size_toArray, List.length_cons, List.length_nil] at c8); (try simp only [ByteArray.size_append, lit_size, List.size_toArray, List.length_cons, List.length_nil] at c7); omega)])
          rotate_left
          ·simp only [Act.put, List.setIfInBounds_toArray, List.set_cons_zero, List.set_cons_succ, i64_w, i32_w]
           rfl
          refine one_ (i := 2) (N := some 30) #[true, true, true, false, false, true, true, true, true, false, false, false] rfl rfl (one_of HT_.out (by kernel_rfl)) (by decide) (fun K hK => ?_)
          refine goes_ Tryd.func71 (by kernel_rfl) rfl #[.int .i64 a0_3] (by rfl) rfl rfl (by (try simp only [List.map_toArray, List.map_cons, List.map_nil]); first | done | rfl | (simp only [List.length_drop, List.length_take]; rfl)) ?_
          with_reducible refine (strconv_Itoa_71.calls a0_3 t191 _ A24.out).mono ?_
          rintro e w33 ⟨rfl, hb⟩
          refine ⟨_, rfl, ?_⟩
          replace BK188 := Aside0.mk (blk_below (g := gb188) (o := .cells #[.int .i64 a0_0, .int .i64 a0_1, .int .i64 a0_2, .int .i64 a0_3, .slice (some ad192) l0_4.length c0_4] 24 (0, 0)) bk_ hb)
          replace HB := Aside0.mk (below_step bl_ hb)
          (try clear hb)
          (try clear hb2)
          (try clear hk)
          (try clear hi)
          refine hK.out _ _ ⟨(blk_cell BK188.out 0).trans rfl, (blk_cell BK188.out 1).trans rfl, (blk_cell BK188.out 2).trans rfl, (blk_cell BK188.out 3).trans rfl, (blk_cell BK188.out 4).trans rfl, ((HB.out.cell (World.block_lt_of_cell? w _ hw192_0)).trans hw192_0), ((HB.out.cell (World.block_lt_of_cell? w _ hw192_1)).trans hw192_1), ((HB.out.cell (World.block_lt_of_cell? w _ hw192_2)).trans hw192_2), ((HB.out.cell (World.block_lt_of_cell? w _ hw192_3)).trans hw192_3), ((HB.out.cell (World.block_lt_of_cell? w _ hw192_4)).trans hw192_4)⟩ (fun hHeld => ?_)
          clear hK K
          refine norm_ (a' := ?_) ?_ ?_
          rotate_left
          ·show Act.put _ (some 30) _ = _
           simp only [Act.put, List.setIfInBounds_toArray, List.set_cons_zero, List.set_cons_succ, i64_w, i32_w]
           rfl
          refine pure_ (i := 3) (N := some 31) (v := ?_) (a' := ?_) #[true, true, true, true, false, true, true, true, true, false, false, false] rfl rfl (any_of HT_.out (by kernel_rfl)) (fun _ _ _ h => h) (Or.inl ⟨by rfl, ?_⟩) ?_ ?_
          rotate_left
          ·intro w'
           go_simp
           first | with_reducible rfl | (rw [if_neg (by (try simp only [ByteArray.size_append, lit_size, List.size_toArray, List.length_cons, List.length_nil] at c29); (try simp only [ByteArray.size_append, lit_size, List.size_toArray, List.length_cons, List.length_nil] at c26); (try simp only [ByteArray.size_append, lit_size, List.size_toArray, List.length_cons, List.length_nil] at c25); (try simp only [ByteArray.size_append, lit_size, List.size_toArray, List.length_cons, List.length_nil] at c11); (try simp only [ByteArray.size_append, lit_size, List.size_toArray, List.length_cons, List.length_nil] at c10); (try simp only [ByteArray.size_append, lit_size, List.size_toArray, List.length_cons, List.length_nil] at c8); (try simp only [ByteArray.size_append, lit_size, List.size_toArray, List.length_cons, List.length_nil] at c7); omega)])
          rotate_left
          ·simp only [Act.put, List.setIfInBounds_toArray, List.set_cons_zero, List.set_cons_succ, i64_w, i32_w]
           rfl
          refine pure_ (i := 4) (N := some 32) (v := ?_) (a' := ?_) #[true, true, true, true, true, true, true, true, true, false, false, false] rfl rfl (any_of HT_.out (by kernel_rfl)) (fun _ _ _ h => h) (Or.inl ⟨by rfl, ?_⟩) ?_ ?_
          rotate_left
          ·intro w'
           go_simp
           first | with_reducible rfl | (rw [if_neg (by (try simp only [ByteArray.size_append, lit_size, List.size_toArray, List.length_cons, List.length_nil] at c29); (try simp only [ByteArray.size_append, lit_size, List.size_toArray, List.length_cons, List.length_nil] at c26); (try simp only [ByteArray.size_append, lit_size, List.size_toArray, List.length_cons, List.length_nil] at c25); (try simp only [ByteArray.size_append, lit_size, List.size_toArray, List.length_cons, List.length_nil] at c11); (try simp only [ByteArray.size_append, lit_size, List.size_toArray, List.length_cons, List.length_nil] at c10); (try simp only [ByteArray.size_append, lit_size, List.size_toArray, List.length_cons, List.length_nil] at c8); (try simp only [ByteArray.size_append, lit_size, List.size_toArray, List.length_cons, List.length_nil] at c7); omega)])
          rotate_left
          ·simp only [Act.put, List.setIfInBounds_toArray, List.set_cons_zero, List.set_cons_succ, i64_w, i32_w]
           rfl
          refine one_ (i := 9) (N := some 37) #[true, true, true, true, true, true, true, true, true, true, false, false] rfl rfl (one_of HT_.out (by kernel_rfl)) (by decide) (fun K hK => ?_)
          refine goes_ Tryd.func44 (by kernel_rfl) rfl #[.agg #[.int .i64 ((rd_T24 l0_4 0).f0), .int .i64 ((rd_T24 l0_4 0).f1), .int .i64 ((rd_T24 l0_4 0).f2), .int .i64 ((rd_T24 l0_4 0).f3), .slice A192_4 ((rd_T24 l0_4 0).f4).length c192_4]] (by rfl) rfl rfl (by (try simp only [List.map_toArray, List.map_cons, List.map_nil]); first | done | rfl | (simp only [List.length_drop, List.length_take]; rfl)) ?_
          with_reducible refine (ih k (by omega) ((rd_T24 l0_4 0).f0) ((rd_T24 l0_4 0).f1) ((rd_T24 l0_4 0).f2) ((rd_T24 l0_4 0).f3) _ _ ((rd_T24 l0_4 0).f4) t193 _ ?side1 ?side2 A28.out).mono ?_
          (case side1 => repeat (first | exact (Kd.C_below HR192_4.out HB.out) | (with_reducible refine Kd.C_alloc ?_ _) | (with_reducible refine Kd.C_drewN ?_ _) | (with_reducible refine Kd.C_drew ?_)))
          (case side2 => exact HC192_4.out)
          rintro e w34 ⟨rfl, hb⟩
          refine ⟨_, rfl, ?_⟩
          replace BK188 := Aside0.mk (blk_below (g := gb188) (o := .cells #[.int .i64 a0_0, .int .i64 a0_1, .int .i64 a0_2, .int .i64 a0_3, .slice (some ad192) l0_4.length c0_4] 24 (0, 0)) bk_ hb)
          replace HB := Aside0.mk (below_step bl_ hb)
          (try clear hb)
          (try clear hb2)
          (try clear hk)
          (try clear hi)
          refine hK.out _ _ ⟨(blk_cell BK188.out 0).trans rfl, (blk_cell BK188.out 1).trans rfl, (blk_cell BK188.out 2).trans rfl, (blk_cell BK188.out 3).trans rfl, (blk_cell BK188.out 4).trans rfl, ((HB.out.cell (World.block_lt_of_cell? w _ hw192_0)).trans hw192_0), ((HB.out.cell (World.block_lt_of_cell? w _ hw192_1)).trans hw192_1), ((HB.out.cell (World.block_lt_of_cell? w _ hw192_2)).trans hw192_2), ((HB.out.cell (World.block_lt_of_cell? w _ hw192_3)).trans hw192_3), ((HB.out.cell (World.block_lt_of_cell? w _ hw192_4)).trans hw192_4)⟩ (fun hHeld => ?_)
          clear hK K
          refine norm_ (a' := ?_) ?_ ?_
          rotate_left
          ·show Act.put _ (some 37) _ = _
           simp only [Act.put, List.setIfInBounds_toArray, List.set_cons_zero, List.set_cons_succ, i64_w, i32_w]
           rfl
          refine pure_ (i := 10) (N := some 38) (v := ?_) (a' := ?_) #[true, true, true, true, true, true, true, true, true, true, true, false] rfl rfl (any_of HT_.out (by kernel_rfl)) (fun _ _ _ h => h) (Or.inl ⟨by rfl, ?_⟩) ?_ ?_
          rotate_left
          ·intro w'
           go_simp
           first | with_reducible rfl | (rw [if_neg (by (try simp only [ByteArray.size_append, lit_size, List.size_toArray, List.length_cons, List.length_nil] at c29); (try simp only [ByteArray.size_append, lit_size, List.size_toArray, List.length_cons, List.length_nil] at c26); (try simp only [ByteArray.size_append, lit_size, List.size_toArray, List.length_cons, List.length_nil] at c25); (try simp only [ByteArray.size_append, lit_size, List.size_toArray, List.length_cons, List.length_nil] at c11); (try simp only [ByteArray.size_append, lit_size, List.size_toArray, List.length_cons, List.length_nil] at c10); (try simp only [ByteArray.size_append, lit_size, List.size_toArray, List.length_cons, List.length_nil] at c8); (try simp only [ByteArray.size_append, lit_size, List.size_toArray, List.length_cons, List.length_nil] at c7); omega)])
          rotate_left
          ·simp only [Act.put, List.setIfInBounds_toArray, List.set_cons_zero, List.set_cons_succ, i64_w, i32_w]
           rfl
          refine pure_ (i := 11) (N := some 2) (v := ?_) (a' := ?_) #[true, true, true, true, true, true, true, true, true, true, true, true] rfl rfl (any_of HT_.out (by kernel_rfl)) (fun _ _ _ h => h) (Or.inl ⟨by rfl, ?_⟩) ?_ ?_
          rotate_left
          ·intro w'
           go_simp
           first | with_reducible rfl | (rw [if_neg (by (try simp only [ByteArray.size_append, lit_size, List.size_toArray, List.length_cons, List.length_nil] at c29); (try simp only [ByteArray.size_append, lit_size, List.size_toArray, List.length_cons, List.length_nil] at c26); (try simp only [ByteArray.size_append, lit_size, List.size_toArray, List.length_cons, List.length_nil] at c25); (try simp only [ByteArray.size_append, lit_size, List.size_toArray, List.length_cons, List.length_nil] at c11); (try simp only [ByteArray.size_append, lit_size, List.size_toArray, List.length_cons, List.length_nil] at c10); (try simp only [ByteArray.size_append, lit_size, List.size_toArray, List.length_cons, List.length_nil] at c8); (try simp only [ByteArray.size_append, lit_size, List.size_toArray, List.length_cons, List.length_nil] at c7); omega)])
          rotate_left
          ·simp only [Act.put, List.setIfInBounds_toArray, List.set_cons_zero, List.set_cons_succ, i64_w, i32_w]
           rfl
          refine done_ (done_of HT_.out (by kernel_rfl)) ?_
          try go_wp2
          go_ret
          exact ⟨re_, bl_⟩
         ·rw [if_neg c29] at H
          exact absurd H (by simp)
        ·rw [if_neg c27] at H
         exact absurd H (by simp)
       ·rw [if_neg c26] at H
        exact absurd H (by simp)
      ·rw [if_neg c25] at H
       exact absurd H (by simp)
     ·rw [if_neg c23] at H
      have c23b0 : (a0_0 == 6) = false := beq_eq_false_iff_ne.mpr c23
      have c23b1 : (a0_0 != 6) = true := bne_iff_ne.mpr c23
      have H' := Aside0.mk H
      clear H
      go_enter Tryd.func44, Tryd.ntmps44
      go_wp2_with (first | ((with_reducible refine gate_dst (N := 1) rfl ?_); refine box_event ?hg (N := 1) ?hd (cs := #[.int .i64 a0_0, .int .i64 a0_1, .int .i64 a0_2, .int .i64 a0_3, .slice A0_4 l0_4.length c0_4]) (t := 24) ?hr ?_; (case hd => rfl); (case hg => rfl); (case hr => first | (go_simp; done) | (go_simp; rfl)); intro gb188 hg w35 hbox hb; have BK188 := Aside0.mk (hbox); have GW188 : Aside0 (w.heap.size ≤ gb188) := gw_ hg (below_size bl_); have GE188 := GW188; replace HB := Aside0.mk (below_step bl_ hb); clear hb hbox hg; obtain ⟨hcz36_0, hcz36_1, hcz36_2, hcz36_3, hcz36_4, hfz36_0, hfz36_1, hfz36_2, hfz36_3, hfz36_4⟩ := cf5_ BK188.out))
      go_loopg [3, 42] k (fun kq v3 v42 w' => ∃ (x3_1 : List ByteArray) (x42_1 : Int), v42 = .int .i64 x42_1 ∧ Aside0 (types_format.l0 kq x3_1 l0_4 (l0_4.length : Int) x42_1 = some r) ∧ Aside0 (kq ≤ k) ∧ Aside0 (Kd.R Kd.string 9 w' w.heap.size (fun _ => True) v3 x3_1) ∧ Aside0 (w'.heap[gb188]? = some (.cells #[.int .i64 a0_0, .int .i64 a0_1, .int .i64 a0_2, .int .i64 a0_3, (.slice A0_4 l0_4.length c0_4)] 24 (0, 0))) ∧ Aside0 (Below w.heap.size w w'))
      case atStart => exact ⟨(([] : List ByteArray)), (0), rs_, H', ⟨Nat.le_refl _⟩, ⟨by first | exact Kd.R_nil _ _ _ _ _ | exact Kd.N_nil _ _ _ _ _ | exact Kd.V_nil _ _ _ _ _ | exact Kd.Q_nil _ _ _ _ _ | exact Kd.S_nil _ _ _ _ _⟩, ⟨bk_⟩, ⟨bl_⟩⟩
      case round =>
       clear H'
       try clear c1
       try clear p1
       try clear q1
       try clear hx1
       try clear qi1
       try clear c2
       try clear c2b0
       try clear c2b1
       try clear p2
       try clear c4
       try clear c5
       try clear c5b0
       try clear c5b1
       try clear c7
       try clear c7b0
       try clear c7b1
       try clear c7b2
       try clear c8
       try clear c8b0
       try clear c8b1
       try clear c8b2
       try clear c10
       try clear c10b0
       try clear c10b1
       try clear c10b2
       try clear c11
       try clear c11b0
       try clear c11b1
       try clear c11b2
       try clear c17
       try clear c17b0
       try clear c17b1
       try clear c19
       try clear p19
       try clear q19
       try clear hx19
       try clear qi19
       try clear c20
       try clear c20b0
       try clear c20b1
       try clear c23
       try clear c23b0
       try clear c23b1
       try clear c25
       try clear c25b0
       try clear c25b1
       try clear c25b2
       try clear c26
       try clear c26b0
       try clear c26b1
       try clear c26b2
       try clear c27
       try clear c27b0
       try clear c27b1
       try clear c29
       try clear c29b0
       try clear c29b1
       try clear c29b2
       try clear hcz13_0 hcz13_1 hcz13_2 hcz13_3 hcz13_4 hfz13_0 hfz13_1 hfz13_2 hfz13_3 hfz13_4
       try clear hcz19_0 hcz19_1 hcz19_2 hcz19_3 hcz19_4 hfz19_0 hfz19_1 hfz19_2 hfz19_3 hfz19_4
       try clear hcz22_0 hcz22_1 hcz22_2 hcz22_3 hcz22_4 hfz22_0 hfz22_1 hfz22_2 hfz22_3 hfz22_4
       try clear hcz31_0 hcz31_1 hcz31_2 hcz31_3 hcz31_4 hfz31_0 hfz31_1 hfz31_2 hfz31_3 hfz31_4
       try clear hcz36_0 hcz36_1 hcz36_2 hcz36_3 hcz36_4 hfz36_0 hfz36_1 hfz36_2 hfz36_3 hfz36_4
       try clear hcz4_0 hcz4_1 hcz4_2 hcz4_3 hcz4_4 hfz4_0 hfz4_1 hfz4_2 hfz4_3 hfz4_4
       try clear hx192_0
       try clear hx192_1
       try clear hx192_2
       try clear hx192_3
       try clear hx192_4
       try clear p192
       try clear q192
       obtain ⟨x3_1, x42_1, rfl, HA, HK1, HO_3, BK188, HB⟩ := hrel
       cases gk with
       | zero => exact absurd HA.out (by simp [types_format.l0])
       | succ k1 =>
        have H := HA.out
        clear HA
        simp only [types_format.l0] at H
        by_cases c37 : x42_1 < (l0_4.length : Int)
        ·rw [if_pos c37] at H
         have c37b0 : decide (x42_1 < (l0_4.length : Int)) = true := decide_eq_true c37
         clear c37
         by_cases c38 : 0 ≤ x42_1
         ·rw [if_pos c38] at H
          have c38b0 : decide (0 ≤ x42_1) = true := decide_eq_true c38
          clear c38
          by_cases c39 : x42_1 < (l0_4.length : Int)
          ·rw [if_pos c39] at H
           have c39b0 : decide (x42_1 < (l0_4.length : Int)) = true := decide_eq_true c39
           clear c39
           replace H := Option.bind_eq_some_iff.mp H
           obtain ⟨t196, A400, H⟩ := H
           replace H : (if x3_1.length < 8796093022208 then (types_format.l0 k1 (x3_1 ++ [t196]) l0_4 (l0_4.length : Int) (wrap64 (x42_1 + 1))) else (none)) = some r := H
           have A40 := Aside0.mk A400
           clear A400
           by_cases c41 : x3_1.length < 8796093022208
           ·rw [if_pos c41] at H
            have LMc41 := Aside0.mk c41
            clear c41
            obtain ⟨y197, hy197⟩ : ∃ y_ : List ByteArray, y_ = (x3_1 ++ [t196]) := ⟨_, rfl⟩
            replace H : (types_format.l0 k1 y197 l0_4 (l0_4.length : Int) (wrap64 (x42_1 + 1))) = some r := by first | (rw [hy197]; with_reducible exact H) | (have H2_ := (Option.bind_some _ _).symm.trans H; rw [hy197]; with_reducible exact H2_) | (have H2_ := (Option.bind_some _ _).symm.trans H; with_reducible exact H2_) | with_reducible exact H | (rw [hy197]; exact H) | exact H
            have Ny197 := Aside0.mk hy197
            clear hy197
            have H' := Aside0.mk H
            clear H
            have p194 : 0 ≤ (x42_1 : Int) := dt_
            have q194 : x42_1 < (l0_4.length : Int) := dt_
            obtain ⟨ad194, A194_4, c194_4, e194, hx194_0, hx194_1, hx194_2, hx194_3, hx194_4, hl194_4, hi194_4⟩ := at_T24 HR0_4.out x42_1 p194 q194
            cases e194
            replace hx194_0 := (HB.out.cell (World.block_lt_of_cell? w _ hx194_0)).trans hx194_0
            replace hx194_1 := (HB.out.cell (World.block_lt_of_cell? w _ hx194_1)).trans hx194_1
            replace hx194_2 := (HB.out.cell (World.block_lt_of_cell? w _ hx194_2)).trans hx194_2
            replace hx194_3 := (HB.out.cell (World.block_lt_of_cell? w _ hx194_3)).trans hx194_3
            replace hx194_4 := (HB.out.cell (World.block_lt_of_cell? w _ hx194_4)).trans hx194_4
            have HR194_4 := Aside0.mk hi194_4
            have HC194_4 := Aside0.mk hl194_4
            clear hi194_4 hl194_4
            replace p194 := eq_true p194
            replace q194 := eq_true q194
            go_wp2_with (first | ((with_reducible refine gate_dst (N := 5) rfl ?_); refine box_event ?hg (N := 5) ?hd (cs := #[.int .i64 0, .int .i64 0, .int .i64 0, .int .i64 0, .slice none 0 0]) (t := 24) ?hr ?_; (case hd => rfl); (case hg => rfl); (case hr => first | (go_simp; done) | (go_simp; rfl)); intro gb195 hg w42 hbox hb; have BK195 := Aside0.mk (hbox); have GW195 : Aside0 (w.heap.size ≤ gb195) := gw_ hg (below_size bl_); have GE195 := GW195; have NB188_195 := Aside0.mk ((by rw [hg]; exact Nat.ne_of_lt (blk_lt (g := gb188) (o := .cells #[.int .i64 a0_0, .int .i64 a0_1, .int .i64 a0_2, .int .i64 a0_3, .slice (some ad194) l0_4.length c0_4] 24 (0, 0)) bk_) : gb188 ≠ gb195)); have NB195_188 := Aside0.mk ((by rw [hg]; exact Nat.ne_of_gt (blk_lt (g := gb188) (o := .cells #[.int .i64 a0_0, .int .i64 a0_1, .int .i64 a0_2, .int .i64 a0_3, .slice (some ad194) l0_4.length c0_4] 24 (0, 0)) bk_) : gb195 ≠ gb188)); replace HO_3 := Aside0.mk (Kd.R_below (pR_ HO_3.out) hb); replace BK188 := Aside0.mk (blk_below (g := gb188) (o := .cells #[.int .i64 a0_0, .int .i64 a0_1, .int .i64 a0_2, .int .i64 a0_3, .slice (some ad194) l0_4.length c0_4] 24 (0, 0)) bk_ hb); replace HB := Aside0.mk (below_step bl_ hb); clear hb hbox hg; have hnb43 := NB195_188.out; have hnc43 := NB188_195.out; obtain ⟨hcz44_0, hcz44_1, hcz44_2, hcz44_3, hcz44_4, hfz44_0, hfz44_1, hfz44_2, hfz44_3, hfz44_4⟩ := cf5_ BK195.out) | ((with_reducible refine gate_callee (f := 44) rfl ?_); refine goesL_ (some 48) rfl rfl Tryd.func44 (by kernel_rfl) rfl #[.agg #[.int .i64 ((rd_T24 l0_4 x42_1).f0), .int .i64 ((rd_T24 l0_4 x42_1).f1), .int .i64 ((rd_T24 l0_4 x42_1).f2), .int .i64 ((rd_T24 l0_4 x42_1).f3), .slice A194_4 ((rd_T24 l0_4 x42_1).f4).length c194_4]] rfl (by (try simp only [List.map_toArray, List.map_cons, List.map_nil]); first | done | rfl | (simp only [List.length_drop, List.length_take]; rfl)) ?_; (with_reducible refine (ih k1 (by have := HK1.out; omega) ((rd_T24 l0_4 x42_1).f0) ((rd_T24 l0_4 x42_1).f1) ((rd_T24 l0_4 x42_1).f2) ((rd_T24 l0_4 x42_1).f3) _ _ ((rd_T24 l0_4 x42_1).f4) t196 _ ?side1 ?side2 A40.out).mono ?_); (case side1 => exact Kd.C_below HR194_4.out bl_); (case side2 => exact HC194_4.out); rintro e w45 ⟨rfl, hb⟩; refine ⟨_, rfl, ?_⟩; replace HO_3 := Aside0.mk (Kd.R_below (by (with_reducible repeat (first | apply Kd.R_alloc | apply Kd.R_drewN | apply Kd.R_drew)); exact (Kd.R_mono (Kd.R_far (p := ⟨gb195, 4, none⟩) (Kd.R_far (p := ⟨gb195, 3, none⟩) (Kd.R_far (p := ⟨gb195, 2, none⟩) (Kd.R_far (p := ⟨gb195, 1, none⟩) (Kd.R_far (p := ⟨gb195, 0, none⟩) (Kd.R_types HO_3.out BK195.out (by decide)) (fun _ hk => hk.2) (.int .i64 ((rd_T24 l0_4 x42_1).f0))) (fun _ hk => hk.2) (.int .i64 ((rd_T24 l0_4 x42_1).f1))) (fun _ hk => hk.2) (.int .i64 ((rd_T24 l0_4 x42_1).f2))) (fun _ hk => hk.2) (.int .i64 ((rd_T24 l0_4 x42_1).f3))) (fun _ hk => hk.2) (.slice A194_4 ((rd_T24 l0_4 x42_1).f4).length c194_4)) (fun _ h_ => h_.1))) hb); replace BK188 := Aside0.mk (blk_below (g := gb188) (o := .cells #[.int .i64 a0_0, .int .i64 a0_1, .int .i64 a0_2, .int .i64 a0_3, .slice (some ad194) l0_4.length c0_4] 24 (0, 0)) (by (with_reducible repeat (first | refine blk_drewN ?_ _ | refine blk_drew ?_ | refine blk_alloc ?_ _)); refine blk_far ?_ NB188_195.out _; (with_reducible repeat (first | refine blk_drewN ?_ _ | refine blk_drew ?_ | refine blk_alloc ?_ _)); refine blk_far ?_ NB188_195.out _; (with_reducible repeat (first | refine blk_drewN ?_ _ | refine blk_drew ?_ | refine blk_alloc ?_ _)); refine blk_far ?_ NB188_195.out _; (with_reducible repeat (first | refine blk_drewN ?_ _ | refine blk_drew ?_ | refine blk_alloc ?_ _)); refine blk_far ?_ NB188_195.out _; (with_reducible repeat (first | refine blk_drewN ?_ _ | refine blk_drew ?_ | refine blk_alloc ?_ _)); refine blk_far ?_ NB188_195.out _; (with_reducible repeat (first | refine blk_drewN ?_ _ | refine blk_drew ?_ | refine blk_alloc ?_ _)); exact BK188.out) hb); replace BK195 := Aside0.mk (blk_below (g := gb195) (o := .cells #[.int .i64 ((rd_T24 l0_4 x42_1).f0), .int .i64 ((rd_T24 l0_4 x42_1).f1), .int .i64 ((rd_T24 l0_4 x42_1).f2), .int .i64 ((rd_T24 l0_4 x42_1).f3), .slice A194_4 ((rd_T24 l0_4 x42_1).f4).length c194_4] 24 (0, 0)) (by (with_reducible repeat (first | refine blk_drewN ?_ _ | refine blk_drew ?_ | refine blk_alloc ?_ _)); refine blk_put (cs := #[.int .i64 ((rd_T24 l0_4 x42_1).f0), .int .i64 ((rd_T24 l0_4 x42_1).f1), .int .i64 ((rd_T24 l0_4 x42_1).f2), .int .i64 ((rd_T24 l0_4 x42_1).f3), .slice none 0 0]) ?_ 4 _ rfl; (with_reducible repeat (first | refine blk_drewN ?_ _ | refine blk_drew ?_ | refine blk_alloc ?_ _)); refine blk_put (cs := #[.int .i64 ((rd_T24 l0_4 x42_1).f0), .int .i64 ((rd_T24 l0_4 x42_1).f1), .int .i64 ((rd_T24 l0_4 x42_1).f2), .int .i64 0, .slice none 0 0]) ?_ 3 _ rfl; (with_reducible repeat (first | refine blk_drewN ?_ _ | refine blk_drew ?_ | refine blk_alloc ?_ _)); refine blk_put (cs := #[.int .i64 ((rd_T24 l0_4 x42_1).f0), .int .i64 ((rd_T24 l0_4 x42_1).f1), .int .i64 0, .int .i64 0, .slice none 0 0]) ?_ 2 _ rfl; (with_reducible repeat (first | refine blk_drewN ?_ _ | refine blk_drew ?_ | refine blk_alloc ?_ _)); refine blk_put (cs := #[.int .i64 ((rd_T24 l0_4 x42_1).f0), .int .i64 0, .int .i64 0, .int .i64 0, .slice none 0 0]) ?_ 1 _ rfl; (with_reducible repeat (first | refine blk_drewN ?_ _ | refine blk_drew ?_ | refine blk_alloc ?_ _)); refine blk_put (cs := #[.int .i64 0, .int .i64 0, .int .i64 0, .int .i64 0, .slice none 0 0]) ?_ 0 _ rfl; (with_reducible repeat (first | refine blk_drewN ?_ _ | refine blk_drew ?_ | refine blk_alloc ?_ _)); exact BK195.out) hb); replace HB := Aside0.mk (below_step bl_ hb); (try clear hb); (try clear hb2); (try clear hk); (try clear hi)) | ((with_reducible refine gate_builtin (b := .append) (xs := #[.tmp 46, .tmp 49]) rfl ?_); at_builtin; refine Kd.R_append Kd.string (w0 := w) w.heap.size rfl (.tmp 46) (.tmp 49) 79 9 (.string ⟨#[]⟩) 16 rfl Tryd.underlying79 info9 rfl (by decide) (by omega) u3 x3_1 t196 [.string t196] (fun _ => True) (fun _ => False) rfl rfl ?aP (fun _ hk => hk.elim) ?aF ?aO ?aB ?aS ?aL ?_; (case aP => exact rfl); (case aB => exact bl_); (case aF => exact (fun _ _ => trivial)); (case aO => exact (pR_ HO_3.out)); (case aS => exact (below_size bl_)); (case aL => have := LMc41.out; omega); intro v198 w46 ho hb hg hat; rw [← Ny197.out] at ho; have HO199 := Aside0.mk (ho); replace BK188 := Aside0.mk (blk_grown (g := gb188) (o := .cells #[.int .i64 a0_0, .int .i64 a0_1, .int .i64 a0_2, .int .i64 a0_3, .slice (some ad194) l0_4.length c0_4] 24 (0, 0)) bk_ hg (Kd.R_ne HO_3.out BK188.out (by decide))); replace BK195 := Aside0.mk (blk_grown (g := gb195) (o := .cells #[.int .i64 ((rd_T24 l0_4 x42_1).f0), .int .i64 ((rd_T24 l0_4 x42_1).f1), .int .i64 ((rd_T24 l0_4 x42_1).f2), .int .i64 ((rd_T24 l0_4 x42_1).f3), .slice A194_4 ((rd_T24 l0_4 x42_1).f4).length c194_4] 24 (0, 0)) bk_ hg (Kd.R_ne HO_3.out BK195.out (by decide))); replace HB := Aside0.mk (hb); clear HO_3; clear ho hb hg hat))
            go_roundg k1
            case measure => have := HK1.out; omega
            case rel => exact ⟨(y197), (wrap64 (x42_1 + 1)), rs_, H', ⟨by have := HK1.out; omega⟩, ⟨pR_ HO199.out⟩, ⟨bk_⟩, ⟨bl_⟩⟩
           ·rw [if_neg c41] at H
            exact absurd H (by simp)
          ·rw [if_neg c39] at H
           exact absurd H (by simp)
         ·rw [if_neg c38] at H
          exact absurd H (by simp)
        ·rw [if_neg c37] at H
         have c37b0 : decide (x42_1 < (l0_4.length : Int)) = false := decide_eq_false c37
         clear c37
         replace H := Option.bind_eq_some_iff.mp H
         obtain ⟨t200, A470, H⟩ := H
         replace H : (if 1 + t200.size ≤ 9223372036854775807 then (if ((⟨#[40]⟩ : ByteArray) ++ t200).size + 1 ≤ 9223372036854775807 then (some (((⟨#[40]⟩ : ByteArray) ++ t200) ++ (⟨#[41]⟩ : ByteArray))) else (none)) else (none)) = some r := H
         have A47 := Aside0.mk A470
         clear A470
         by_cases c48 : 1 + t200.size ≤ 9223372036854775807
         ·rw [if_pos c48] at H
          have c48b0 := eq_true c48
          have c48b1 : decide (1 + t200.size ≤ 9223372036854775807) = true := decide_eq_true c48
          try have c48b2 : (9223372036854775807 < 1 + t200.size) = False := eq_false (Nat.not_lt.2 c48)
          by_cases c49 : ((⟨#[40]⟩ : ByteArray) ++ t200).size + 1 ≤ 9223372036854775807
          ·rw [if_pos c49] at H
           have c49b0 := eq_true c49
           have c49b1 : decide (((⟨#[40]⟩ : ByteArray) ++ t200).size + 1 ≤ 9223372036854775807) = true := decide_eq_true c49
           try have c49b2 : (9223372036854775807 < ((⟨#[40]⟩ : ByteArray) ++ t200).size + 1) = False := eq_false (Nat.not_lt.2 c49)
           have c49b9 : (9223372036854775807 < 1 + t200.size + 1) = False := by have h_ := c49; simp only [ByteArray.size_append, lit_size, List.size_toArray, List.length_cons, List.length_nil] at h_; exact eq_false (Nat.not_lt.2 h_)
           obtain rfl := Option.some.inj H
           obtain ⟨Ao50, co50, eo50⟩ := Kd.R_slice HO_3.out
           subst eo50
           go_wp2_with (first | ((with_reducible refine gate_callee (f := 72) rfl ?_); refine goesL_ (some 53) rfl rfl Tryd.func72 (by kernel_rfl) rfl #[.slice Ao50 x3_1.length co50, .string (⟨#[44, 32]⟩ : ByteArray)] rfl (by (try simp only [List.map_toArray, List.map_cons, List.map_nil]); first | done | rfl | (simp only [List.length_drop, List.length_take]; rfl)) ?_; (with_reducible refine (strings_Join.calls _ _ x3_1 (⟨#[44, 32]⟩ : ByteArray) t200 _ ?side1 ?side2 A47.out).mono ?_); (case side1 => repeat (first | exact (Kd.R_reads' HO_3.out).2.2 | (with_reducible refine Kd.C_alloc ?_ _) | (with_reducible refine Kd.C_drewN ?_ _) | (with_reducible refine Kd.C_drew ?_))); (case side2 => exact (Kd.R_reads' HO_3.out).2.1); rintro e w51 ⟨rfl, hb⟩; refine ⟨_, rfl, ?_⟩; replace HO_3 := Aside0.mk (Kd.R_below (pR_ HO_3.out) hb); replace BK188 := Aside0.mk (blk_below (g := gb188) (o := .cells #[.int .i64 a0_0, .int .i64 a0_1, .int .i64 a0_2, .int .i64 a0_3, .slice A0_4 l0_4.length c0_4] 24 (0, 0)) bk_ hb); replace HB := Aside0.mk (below_step bl_ hb); (try clear hb); (try clear hb2); (try clear hk); (try clear hi)))
           go_ret
           exact ⟨re_, bl_⟩
          ·rw [if_neg c49] at H
           exact absurd H (by simp)
         ·rw [if_neg c48] at H
          exact absurd H (by simp)

/-! ### types_Format: function 21 -/
def types_Format.f (k : Nat) (a0_0 : Int) (a0_1 : Int) (a0_2 : Int) (a0_3 : Int) (l0_4 : List (S24)) : Option (ByteArray × Int) := (types_Validate.f k a0_0 a0_1 a0_2 a0_3 l0_4).bind fun t202 => (if t202 = 0 then ((types_format.f k a0_0 a0_1 a0_2 a0_3 l0_4).bind fun t203 => (some (t203, 0))) else (some ((⟨#[]⟩ : ByteArray), t202)))
theorem types_Format.mono : ∀ a0 a1 a2 a3 a4 k, LeO (types_Format.f k a0 a1 a2 a3 a4) (types_Format.f (k + 1) a0 a1 a2 a3 a4) := by
 intro a0 a1 a2 a3 a4 k
 unfold types_Format.f
 repeat' first
   | (with_reducible exact types_Validate.mono _ _ _ _ _ _)
   | (with_reducible exact types_format.mono _ _ _ _ _ _)
   | (with_reducible exact LeO.refl _)
   | (with_reducible exact LeO.none _)
   | (with_reducible refine LeO.ite ?_ ?_)
   | (with_reducible refine LeO.bind ?_ (fun _ => ?_))
   | exact types_Validate.mono _ _ _ _ _ _
   | exact types_format.mono _ _ _ _ _ _
   | exact LeO.none _
   | refine LeO.ite ?_ ?_
   | refine LeO.bind ?_ (fun _ => ?_)
set_option maxHeartbeats 8000000 in
set_option maxRecDepth 100000 in
theorem types_Format.calls (k : Nat) (a0_0 : Int) (a0_1 : Int) (a0_2 : Int) (a0_3 : Int) (A0_4 : Option Addr) (c0_4 : Nat) (l0_4 : List (S24)) (r1 : ByteArray) (r2 : Int) (w : World) (hr0_4 : Kd.C k24 w A0_4 l0_4.length l0_4) (hc0_4 : l0_4.length ≤ c0_4) (h : types_Format.f k a0_0 a0_1 a0_2 a0_3 l0_4 = some (r1, r2)) :
  Calls Tryd.prog 21 #[.agg #[.int .i64 a0_0, .int .i64 a0_1, .int .i64 a0_2, .int .i64 a0_3, .slice A0_4 l0_4.length c0_4]] w fun e w' => e = .returned (.tuple #[.string r1, .int .i64 r2]) ∧ Below w.heap.size w w' := by
 have hu24 := Tryd.underlying24
 have HR0_4 := Aside0.mk hr0_4
 have HC0_4 := Aside0.mk hc0_4
 clear hr0_4 hc0_4
 have HB := Aside0.mk (Below.refl w.heap.size w)
 have H : ((types_Validate.f k a0_0 a0_1 a0_2 a0_3 l0_4).bind fun t202 => (if t202 = 0 then ((types_format.f k a0_0 a0_1 a0_2 a0_3 l0_4).bind fun t203 => (some (t203, 0))) else (some ((⟨#[]⟩ : ByteArray), t202)))) = some (r1, r2) := h
 clear h
 replace H := Option.bind_eq_some_iff.mp H
 obtain ⟨t202, A20, H⟩ := H
 replace H : (if t202 = 0 then ((types_format.f k a0_0 a0_1 a0_2 a0_3 l0_4).bind fun t203 => (some (t203, 0))) else (some ((⟨#[]⟩ : ByteArray), t202))) = some (r1, r2) := H
 have A2 := Aside0.mk A20
 clear A20
 by_cases c3 : t202 = 0
 ·rw [if_pos c3] at H
  have c3b0 : (t202 == 0) = true := beq_iff_eq.mpr c3
  have c3b1 : (t202 != 0) = false := bne_eq_false_iff_eq.mpr c3
  clear c3
  replace H := Option.bind_eq_some_iff.mp H
  obtain ⟨t203, A40, H⟩ := H
  replace H : (some (t203, 0)) = some (r1, r2) := H
  have A4 := Aside0.mk A40
  clear A40
  simp only [Option.some.injEq, Prod.mk.injEq] at H
  obtain ⟨rfl, rfl⟩ := H
  go_enter Tryd.func21, Tryd.ntmps21
  go_wp2_with (first | ((with_reducible refine gate_dst (N := 1) rfl ?_); refine box_event ?hg (N := 1) ?hd (cs := #[.int .i64 a0_0, .int .i64 a0_1, .int .i64 a0_2, .int .i64 a0_3, .slice A0_4 l0_4.length c0_4]) (t := 24) ?hr ?_; (case hd => rfl); (case hg => rfl); (case hr => first | (go_simp; done) | (go_simp; rfl)); intro gb201 hg w5 hbox hb; have BK201 := Aside0.mk (hbox); have GW201 : Aside0 (w.heap.size ≤ gb201) := gw_ hg (below_size bl_); have GE201 := GW201; replace HB := Aside0.mk (below_step bl_ hb); clear hb hbox hg; obtain ⟨hcz6_0, hcz6_1, hcz6_2, hcz6_3, hcz6_4, hfz6_0, hfz6_1, hfz6_2, hfz6_3, hfz6_4⟩ := cf5_ BK201.out) | ((with_reducible refine gate_callee (f := 12) rfl ?_); refine goesL_ (some 6) rfl rfl Tryd.func12 (by kernel_rfl) rfl #[.agg #[.int .i64 a0_0, .int .i64 a0_1, .int .i64 a0_2, .int .i64 a0_3, .slice A0_4 l0_4.length c0_4]] rfl (by (try simp only [List.map_toArray, List.map_cons, List.map_nil]); first | done | rfl | (simp only [List.length_drop, List.length_take]; rfl)) ?_; (with_reducible refine (types_Validate.calls k a0_0 a0_1 a0_2 a0_3 _ _ l0_4 t202 _ ?side1 ?side2 A2.out).mono ?_); (case side1 => repeat (first | exact (Kd.C_below HR0_4.out HB.out) | (with_reducible refine Kd.C_alloc ?_ _) | (with_reducible refine Kd.C_drewN ?_ _) | (with_reducible refine Kd.C_drew ?_))); (case side2 => exact HC0_4.out); rintro e w7 ⟨rfl, hb⟩; refine ⟨_, rfl, ?_⟩; replace BK201 := Aside0.mk (blk_below (g := gb201) (o := .cells #[.int .i64 a0_0, .int .i64 a0_1, .int .i64 a0_2, .int .i64 a0_3, .slice A0_4 l0_4.length c0_4] 24 (0, 0)) bk_ hb); replace HB := Aside0.mk (below_step bl_ hb); (try clear hb); (try clear hb2); (try clear hk); (try clear hi); obtain ⟨hcz8_0, hcz8_1, hcz8_2, hcz8_3, hcz8_4, hfz8_0, hfz8_1, hfz8_2, hfz8_3, hfz8_4⟩ := cf5_ BK201.out) | ((with_reducible refine gate_callee (f := 44) rfl ?_); refine goesL_ (some 11) rfl rfl Tryd.func44 (by kernel_rfl) rfl #[.agg #[.int .i64 a0_0, .int .i64 a0_1, .int .i64 a0_2, .int .i64 a0_3, .slice A0_4 l0_4.length c0_4]] rfl (by (try simp only [List.map_toArray, List.map_cons, List.map_nil]); first | done | rfl | (simp only [List.length_drop, List.length_take]; rfl)) ?_; (with_reducible refine (types_format.calls k a0_0 a0_1 a0_2 a0_3 _ _ l0_4 t203 _ ?side1 ?side2 A4.out).mono ?_); (case side1 => repeat (first | exact (Kd.C_below HR0_4.out HB.out) | (with_reducible refine Kd.C_alloc ?_ _) | (with_reducible refine Kd.C_drewN ?_ _) | (with_reducible refine Kd.C_drew ?_))); (case side2 => exact HC0_4.out); rintro e w9 ⟨rfl, hb⟩; refine ⟨_, rfl, ?_⟩; replace BK201 := Aside0.mk (blk_below (g := gb201) (o := .cells #[.int .i64 a0_0, .int .i64 a0_1, .int .i64 a0_2, .int .i64 a0_3, .slice A0_4 l0_4.length c0_4] 24 (0, 0)) bk_ hb); replace HB := Aside0.mk (below_step bl_ hb); (try clear hb); (try clear hb2); (try clear hk); (try clear hi)))
  go_ret2
  exact ⟨re_, bl_⟩
 ·rw [if_neg c3] at H
  have c3b0 : (t202 == 0) = false := beq_eq_false_iff_ne.mpr c3
  have c3b1 : (t202 != 0) = true := bne_iff_ne.mpr c3
  simp only [Option.some.injEq, Prod.mk.injEq] at H
  obtain ⟨rfl, rfl⟩ := H
  go_enter Tryd.func21, Tryd.ntmps21
  go_wp2_with (first | ((with_reducible refine gate_dst (N := 1) rfl ?_); refine box_event ?hg (N := 1) ?hd (cs := #[.int .i64 a0_0, .int .i64 a0_1, .int .i64 a0_2, .int .i64 a0_3, .slice A0_4 l0_4.length c0_4]) (t := 24) ?hr ?_; (case hd => rfl); (case hg => rfl); (case hr => first | (go_simp; done) | (go_simp; rfl)); intro gb201 hg w10 hbox hb; have BK201 := Aside0.mk (hbox); have GW201 : Aside0 (w.heap.size ≤ gb201) := gw_ hg (below_size bl_); have GE201 := GW201; replace HB := Aside0.mk (below_step bl_ hb); clear hb hbox hg; obtain ⟨hcz11_0, hcz11_1, hcz11_2, hcz11_3, hcz11_4, hfz11_0, hfz11_1, hfz11_2, hfz11_3, hfz11_4⟩ := cf5_ BK201.out) | ((with_reducible refine gate_callee (f := 12) rfl ?_); refine goesL_ (some 6) rfl rfl Tryd.func12 (by kernel_rfl) rfl #[.agg #[.int .i64 a0_0, .int .i64 a0_1, .int .i64 a0_2, .int .i64 a0_3, .slice A0_4 l0_4.length c0_4]] rfl (by (try simp only [List.map_toArray, List.map_cons, List.map_nil]); first | done | rfl | (simp only [List.length_drop, List.length_take]; rfl)) ?_; (with_reducible refine (types_Validate.calls k a0_0 a0_1 a0_2 a0_3 _ _ l0_4 t202 _ ?side1 ?side2 A2.out).mono ?_); (case side1 => repeat (first | exact (Kd.C_below HR0_4.out HB.out) | (with_reducible refine Kd.C_alloc ?_ _) | (with_reducible refine Kd.C_drewN ?_ _) | (with_reducible refine Kd.C_drew ?_))); (case side2 => exact HC0_4.out); rintro e w12 ⟨rfl, hb⟩; refine ⟨_, rfl, ?_⟩; replace BK201 := Aside0.mk (blk_below (g := gb201) (o := .cells #[.int .i64 a0_0, .int .i64 a0_1, .int .i64 a0_2, .int .i64 a0_3, .slice A0_4 l0_4.length c0_4] 24 (0, 0)) bk_ hb); replace HB := Aside0.mk (below_step bl_ hb); (try clear hb); (try clear hb2); (try clear hk); (try clear hi)))
  go_ret2
  exact ⟨re_, bl_⟩

end Go.Proofs.YtggelekooacmnaaDoor.R
