/- CoreClamps: core.Clamp hands back the nearest number of a cell's range, as the document's reference does, and clamping twice is clamping once. Its conditions: none. -/
import Derived.Test.YtdijehgibejflaaC3
namespace Go.Proofs.Ytdijehgibejflaa.Pure
open Go.RowKit Go.Proofs.Ytdijehgibejflaa.K Go.Proofs.YtdijehgibejflaaW.PrintWords Go.Proofs.YtdijehgibejflaaW.PrintLast
set_option linter.unusedVariables false
set_option linter.unusedSimpArgs false

theorem and255 (n : Int) : bits .and .i64 n 255 = n % 256 := by
  have h : (BitVec.ofInt 64 255).toNat = 2 ^ 8 - 1 := by decide
  have key : (BitVec.ofInt 64 n &&& BitVec.ofInt 64 255).toNat = (n % ((2 ^ 64 : Nat) : Int)).toNat % 2 ^ 8 := by
    rw [BitVec.toNat_and, BitVec.toNat_ofInt, h, Nat.and_two_pow_sub_one_eq_mod]
  show IntKind.i64.wrap ((BitVec.ofInt 64 n &&& BitVec.ofInt 64 255).toNat : Nat) = n % 256
  rw [key, IntKind.wrap_i64]
  omega
/-- what both tell -/
def cl (a b c n : Int) : Int := if a = 1 then (if n = 0 then 0 else 1) else if a = 2 then mx b (mn c n) else if a = 3 then mx n 0 else n
theorem mn_comm (a b : Int) : mn a b = mn b a := by unfold mn; split <;> split <;> omega
theorem truth_eq (b : Bool) : core_truth.f b = some (if b = true then 1 else 0) := by unfold core_truth.f; split <;> rfl
theorem clamp_eq (a b c n : Int) : core_Clamp.f a b c n = some (cl a b c n) := by
  unfold core_Clamp.f cl
  split
  · rw [truth_eq]
    simp only [Option.bind_some]
    by_cases h : n = 0
    · simp [h]
    · simp [h]
  · split
    · rw [mn_comm]
    · split <;> rfl
theorem ref_eq (a b c n : Int) : exactpplref13_Clamp.f a b c n = some (cl a b c n) := by
  unfold exactpplref13_Clamp.f cl
  split
  · split <;> rfl
  · split
    · rfl
    · split <;> rfl
theorem cl_twice (a b c n : Int) (h : b ≤ c) : cl a b c (cl a b c n) = cl a b c n := by
  unfold cl
  by_cases h1 : a = 1
  · simp only [h1, if_true]; split <;> simp
  · by_cases h2 : a = 2
    · simp only [h1, h2, if_true, if_false]
      unfold mx mn
      (repeat' split) <;> omega
    · by_cases h3 : a = 3
      · simp only [h1, h2, h3, if_true, if_false]
        unfold mx
        (repeat' split) <;> omega
      · simp only [h1, h2, h3, if_false]
theorem awake_true : exactppllaw13_awake.f 40 = some true := by kernel_rfl
theorem CoreClamps : exactppllaw13_CoreClamps.Pure := by
  intro a0 a1 a2 a3 w0 w1 w2 w3
  refine ⟨40, ?_⟩
  unfold exactppllaw13_CoreClamps.f
  have hle : Int.tmod a1 1000 ≤ wrap64 (Int.tmod a1 1000 + bits .and .i64 a2 255) := by
    have h1 := Int.tmod_lt_of_pos a1 (b := 1000) (by omega)
    have h2 : -1000 < Int.tmod a1 1000 := by
      have := Int.lt_tmod_of_pos a1 (b := 1000) (by omega)
      omega
    rw [and255]
    have h3 := Int.emod_nonneg a2 (b := 256) (by omega)
    have h4 := Int.emod_lt_of_pos a2 (b := 256) (by omega)
    unfold wrap64
    omega
  simp only [clamp_eq, ref_eq, Option.bind_some]
  rw [cl_twice _ _ _ _ hle, awake_true]
  simp
end Go.Proofs.Ytdijehgibejflaa.Pure
