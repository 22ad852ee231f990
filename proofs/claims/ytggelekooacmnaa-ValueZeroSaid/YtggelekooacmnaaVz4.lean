/- Lemmas for: EC that ru is true for every list of numbers: the zero of a type is a value of it, and the cells of a list behind its length are the zero of its element. -/
import Derived.Test.YtggelekooacmnaaVz3
namespace Go.Proofs.Ytggelekooacmnaa.Z
open Go.RowKit Go.Proofs.YtggelekooacmnaaW.bM Go.Proofs.YtggelekooacmnaaW.dR Go.Proofs.YtggelekooacmnaaW.eO
open Go.Proofs.Ytggelekooacmnaa.Pure
set_option linter.unusedVariables false
set_option linter.unusedSimpArgs false
def Ig (t : S27) (v : S31) (r : Int) : Prop := ∀ (A : Option Addr) (c : Nat) (B : Option Addr) (d : Nat) (w : World), Kd.C k27 w A t.f4.length t.f4 → t.f4.length ≤ c → Kd.C k31 w B v.f1.length v.f1 → v.f1.length ≤ d →
  Calls Try.prog 27 #[tyV t A c, vaV v B d] w fun e w' => e = .returned (.int .i64 r) ∧ Below w.heap.size w w'
set_option maxHeartbeats 4000000 in
set_option maxRecDepth 100000 in
theorem KU (q lo hi : Int) (v : S31) (hq : (q = 1 ∧ lo = 0) ∨ q = 2 ∨ (q = 3 ∧ lo = 0)) : Ig ⟨q, lo, hi, 0, []⟩ v (if v.f1.length ≠ 0 then 2 else if v.f0 < lo ∨ v.f0 > (if q = 1 then 1 else if q = 3 then v.f0 else hi) then 1 else 0) := by
  intro A c B d w hA hc hB hd
  have hn := hB.2.1
  obtain ⟨v0, vs⟩ := v
  dsimp only [tyV, vaV, List.length_nil] at hd hn ⊢
  obtain ⟨L, hL⟩ : ∃ L, L = vs.length := ⟨_, rfl⟩
  rw [← hL] at hd hn ⊢
  have hb2 : Below w.heap.size w ((w.alloc (.cells #[.int .i64 q, .int .i64 lo, .int .i64 hi, .int .i64 0, .slice A 0 c] 27)).alloc (.cells #[.int .i64 v0, .slice B L d] 31)) := ((Below.refl _ w).alloc (Nat.le_refl _) _).alloc (by simp) _
  have HB2 := Lib.hid hb2
  clear hA hB hL hb2
  have q5 : (q == 5) = false := beq_false_of_ne (by omega)
  have q6 : (q == 6) = false := beq_false_of_ne (by omega)
  by_cases h0 : L = 0
  · subst h0
    rw [if_neg (by simp)]
    rcases hq with ⟨rfl, rfl⟩ | rfl | ⟨rfl, rfl⟩
    · have eH : (if (1 : Int) = 1 then (1 : Int) else if (1 : Int) = 3 then v0 else hi) = 1 := by simp
      rw [eH]
      by_cases c1 : v0 = 0
      · subst c1
        rw [if_neg (by omega)]
        go_enter Try.func27, Try.ntmps27
        go_wp2
        go_ret
        exact ⟨rfl, HB2.out⟩
      · have z1 : (v0 != 0) = true := by simp [c1]
        by_cases c2 : v0 = 1
        · subst c2
          rw [if_neg (by omega)]
          go_enter Try.func27, Try.ntmps27
          go_wp2
          go_ret
          exact ⟨rfl, HB2.out⟩
        · have z2 : (v0 != 1) = true := by simp [c2]
          rw [if_pos (by omega)]
          go_enter Try.func27, Try.ntmps27
          go_wp2
          go_ret
          exact ⟨rfl, HB2.out⟩
    · have eH : (if (2 : Int) = 1 then (1 : Int) else if (2 : Int) = 3 then v0 else hi) = hi := by simp
      rw [eH]
      by_cases c1 : v0 < lo
      · rw [if_pos (.inl c1)]
        go_enter Try.func27, Try.ntmps27
        go_wp2
        go_ret
        exact ⟨rfl, HB2.out⟩
      · by_cases c2 : v0 > hi
        · rw [if_pos (.inr c2)]
          go_enter Try.func27, Try.ntmps27
          go_wp2
          go_ret
          exact ⟨rfl, HB2.out⟩
        · rw [if_neg (by omega)]
          go_enter Try.func27, Try.ntmps27
          go_wp2
          go_ret
          exact ⟨rfl, HB2.out⟩
    · have eH : (if (3 : Int) = 1 then (1 : Int) else if (3 : Int) = 3 then v0 else hi) = v0 := by simp
      rw [eH]
      by_cases c1 : v0 < 0
      · rw [if_pos (.inl c1)]
        go_enter Try.func27, Try.ntmps27
        go_wp2
        go_ret
        exact ⟨rfl, HB2.out⟩
      · rw [if_neg (by omega)]
        go_enter Try.func27, Try.ntmps27
        go_wp2
        go_ret
        exact ⟨rfl, HB2.out⟩
  · rw [if_pos h0]
    have hz : (L : Int) > 0 := by omega
    go_enter Try.func27, Try.ntmps27
    go_wp2
    go_ret
    exact ⟨rfl, HB2.out⟩
set_option maxHeartbeats 8000000 in
set_option maxRecDepth 100000 in
theorem UD (m : Int) (l : List S27) (v : S31) (g : Nat → Int) (r : Int) (hv0 : v.f0 = 0) (hL : v.f1.length = l.length)
    (hE : ∀ j, j < v.f1.length → Ig (aj l (j : Int)) (dM v.f1 (j : Int)) (g j))
    (h1 : ∀ k, k < v.f1.length → (∀ j, j < k → g j = 0) → g k ≠ 0 → r = g k) (h2 : (∀ j, j < v.f1.length → g j = 0) → r = 0) : Ig ⟨5, 0, 0, m, l⟩ v r := by
  intro A c B d w hA hc hB hd
  have hn := hB.2.1
  obtain ⟨v0, vs⟩ := v
  dsimp only [tyV, vaV] at hA hc hB hd hn hv0 hL hE h1 h2 ⊢
  subst hv0
  have HA := Lib.hid hA
  have HV := Lib.hid hB
  have HE := Lib.hid hE
  have H1 := Lib.hid h1
  have H2 := Lib.hid h2
  obtain ⟨L, hLe⟩ : ∃ L, L = vs.length := ⟨_, rfl⟩
  have HL := Lib.hid hLe
  have HLL := Lib.hid hL
  rw [← hL] at hc ⊢
  rw [← hLe] at hd hn hc ⊢
  have hb2 : Below w.heap.size w ((w.alloc (.cells #[.int .i64 5, .int .i64 0, .int .i64 0, .int .i64 m, .slice A L c] 27)).alloc (.cells #[.int .i64 0, .slice B L d] 31)) := ((Below.refl _ w).alloc (Nat.le_refl _) _).alloc (by simp) _
  have hbt : ((w.alloc (.cells #[.int .i64 5, .int .i64 0, .int .i64 0, .int .i64 m, .slice A L c] 27)).alloc (.cells #[.int .i64 0, .slice B L d] 31)).heap[w.heap.size]? = some (.cells #[.int .i64 5, .int .i64 0, .int .i64 0, .int .i64 m, .slice A L c] 27 (0, 0)) := (Below.heap_alloc _ _ _ (by simp)).trans (heap_alloc_new w _)
  have hbv : ((w.alloc (.cells #[.int .i64 5, .int .i64 0, .int .i64 0, .int .i64 m, .slice A L c] 27)).alloc (.cells #[.int .i64 0, .slice B L d] 31)).heap[w.heap.size + 1]? = some (.cells #[.int .i64 0, .slice B L d] 31 (0, 0)) := by simpa using heap_alloc_new (w.alloc (.cells #[.int .i64 5, .int .i64 0, .int .i64 0, .int .i64 m, .slice A L c] 27)) (.cells #[.int .i64 0, .slice B L d] 31)
  have HB2 := Lib.hid hb2
  have HBT := Lib.hid hbt
  have HBV := Lib.hid hbv
  clear hA hB hE h1 h2 hLe hL hb2 hbt hbv
  go_enter Try.func27, Try.ntmps27
  go_wp2
  generalize (w.alloc (.cells #[.int .i64 5, .int .i64 0, .int .i64 0, .int .i64 m, .slice A L c] 27)).alloc (.cells #[.int .i64 0, .slice B L d] 31) = W2 at HB2 HBT HBV ⊢
  go_loopw [5] (fun i wr => ∃ k : Nat, i = .int .i64 k ∧ k ≤ L ∧ Below W2.heap.size W2 wr ∧ aa (∀ j, j < k → g j = 0)) (fun i _ => L - (intOf i).toNat)
  case atStart => exact ⟨0, rfl, Nat.zero_le _, Below.refl _ _, ⟨fun j hj => by omega⟩⟩
  case round =>
    obtain ⟨k, rfl, hk, hbw, hal⟩ := hrel
    have hbW : Below w.heap.size w wr := HB2.out.trans (hbw.mono HB2.out.size)
    have hbt := (hbw.block _ (mI HBT.out)).trans HBT.out
    have hbv := (hbw.block _ (mI HBV.out)).trans HBV.out
    have t0 : wr.cell? ⟨w.heap.size, 0, none⟩ = some (.int .i64 5) := (aA hbt 0).trans rfl
    have t4 : wr.cell? ⟨w.heap.size, 4, none⟩ = some (.slice A L c) := (aA hbt 4).trans rfl
    have v1 : wr.cell? ⟨w.heap.size + 1, 1, none⟩ = some (.slice B L d) := (aA hbv 1).trans rfl
    have u0 := mI hbt
    have u1 := mI hbv
    have HBTr := Lib.hid hbt
    have HBVr := Lib.hid hbv
    clear hbt hbv
    by_cases hlt : k < L
    · obtain ⟨ae, B4, e4, rfl, q0, q1, m4, r4⟩ := Jg (Kd.bX HV.out hbW) (k : Int) (by omega) (by have := HL.out; omega)
      rw [Int.toNat_natCast] at q0 q1
      have hEE := HE.out k (by have := HL.out; omega)
      obtain ⟨ad, A0, c0, rfl, a0, a1, a2, a3, a4, -, -⟩ := gQ (Kd.bX HA.out hbW) 0 (by omega) (by have := HL.out; have := HLL.out; omega)
      have ez : ad.add ((0 : Int).toNat * 5) = ad := by simp [Addr.add]
      rw [ez] at a0 a1 a2 a3 a4
      obtain ⟨ad2, A4, c4, ee, d0, d1, d2, d3, d4, l4, g4⟩ := gQ (Kd.bX HA.out hbW) (k : Int) (by omega) (by have := HL.out; have := HLL.out; omega)
      obtain rfl := Option.some.inj ee
      rw [Int.toNat_natCast] at d0 d1 d2 d3 d4
      obtain ⟨z, hz⟩ : ∃ z, z = aj l 0 := ⟨_, rfl⟩
      obtain ⟨x, hx⟩ : ∃ x, x = aj l (k : Int) := ⟨_, rfl⟩
      obtain ⟨y, hy⟩ : ∃ y, y = dM vs (k : Int) := ⟨_, rfl⟩
      rw [← hz] at a0 a1 a2 a3 a4
      rw [← hx] at d0 d1 d2 d3 d4 l4 g4 hEE
      rw [← hy] at q0 q1 m4 r4 hEE
      have HEE := Lib.hid hEE
      have HG4 := Lib.hid g4
      have HR4 := Lib.hid r4
      have HBW := Lib.hid hbW
      have Ie := Lib.hid hbw
      have HAL := Lib.hid hal.out
      have x0 := World.block_lt_of_cell? _ _ a0
      have x1 := World.block_lt_of_cell? _ _ d0
      have x2 := World.block_lt_of_cell? _ _ q0
      clear hEE g4 r4 hbW hbw hal hx hy hz ez ee
      go_wp2
      have hB3 : Below wr.heap.size wr (wr.alloc (.cells #[.int .i64 x.f0, .int .i64 x.f1, .int .i64 x.f2, .int .i64 x.f3, .slice A4 x.f4.length c4] 27)) := (Below.refl _ wr).alloc (Nat.le_refl _) _
      have hv3 := (hB3.block _ (mI HBVr.out)).trans HBVr.out
      have hx3 := heap_alloc_new wr (.cells #[.int .i64 x.f0, .int .i64 x.f1, .int .i64 x.f2, .int .i64 x.f3, .slice A4 x.f4.length c4] 27)
      have e0 := cell_regrown (kC hB3 q0)
      have e1 := cell_regrown (kC hB3 q1)
      generalize wr.alloc (.cells #[.int .i64 x.f0, .int .i64 x.f1, .int .i64 x.f2, .int .i64 x.f3, .slice A4 x.f4.length c4] 27) = W3 at hB3 hv3 hx3 e0 e1 ⊢
      have k0 := cell_regrown ((aA hx3 0).trans rfl)
      have k1 := cell_regrown ((aA hx3 1).trans rfl)
      have k2 := cell_regrown ((aA hx3 2).trans rfl)
      have k3 := cell_regrown ((aA hx3 3).trans rfl)
      have k4 := cell_regrown ((aA hx3 4).trans rfl)
      have k5 := cell_regrown ((aA hv3 1).trans rfl)
      have hBr : ∀ d os, Below wr.heap.size wr (Go.Sort.grow (redrawn W3 d) os) := fun d os => hB3.trans ((below_regrown W3 d os).mono hB3.size)
      have cC : ∀ d os, Calls Try.prog 27 _ (Go.Sort.grow (redrawn W3 d) os) _ := fun d os => Calls.regrown_of (HEE.out A4 c4 B4 e4 _ (Kd.bX HG4.out (hBr d os)) l4 (Kd.bX HR4.out (hBr d os)) m4)
      have HBR := Lib.hid hBr
      clear hBr hB3 hv3 hx3
      dsimp only [tyV, vaV] at cC
      refine wp_region_quiet_below (by kernel_rfl) (by kernel_rfl) ?_
      repeat (quiet_step (exact cC _ _))
      refine wpQuiet_nil ?_
      intro _ hw'
      obtain ⟨⟨dq, osq⟩, hw''⟩ := hw'
      subst hw''
      dsimp only
      by_cases hg : g k = 0
      · have hgz : (g k != 0) = false := by simp [hg]
        go_wp2
        go_roundw
        case rel =>
          refine ⟨k + 1, by go_num, hlt, Ie.out.trans ((HBR.out dq osq).mono Ie.out.size), ⟨fun j hj => ?_⟩⟩
          by_cases hjk : j = k
          · rw [hjk]; exact hg
          · exact HAL.out j (by omega)
        case measure => simp [intOf]; omega
      · have hgz : (g k != 0) = true := by simp [hg]
        go_wp2
        go_ret
        exact ⟨by rw [H1.out k (by have := HL.out; omega) HAL.out hg]; rfl, HBW.out.trans ((HBR.out dq osq).mono HBW.out.size)⟩
    · go_wp2
      go_ret
      exact ⟨by rw [H2.out (fun j hj => hal.out j (by have := HL.out; omega))]; rfl, hbW⟩
set_option maxHeartbeats 8000000 in
set_option maxRecDepth 100000 in
theorem UE (m : Int) (l : List S27) (v : S31) (g : Nat → Int) (r : Int) (hv0 : v.f0 = 0) (hL : (v.f1.length : Int) ≤ m) (h1l : l.length = 1)
    (hE : ∀ j, j < v.f1.length → Ig (aj l ((0 : Nat) : Int)) (dM v.f1 (j : Int)) (g j))
    (h1 : ∀ k, k < v.f1.length → (∀ j, j < k → g j = 0) → g k ≠ 0 → r = g k) (h2 : (∀ j, j < v.f1.length → g j = 0) → r = 0) : Ig ⟨6, 0, 0, m, l⟩ v r := by
  intro A c B d w hA hc hB hd
  have hn := hB.2.1
  obtain ⟨v0, vs⟩ := v
  dsimp only [tyV, vaV] at hA hc hB hd hn hv0 hL h1l hE h1 h2 ⊢
  subst hv0
  have HA := Lib.hid hA
  have HV := Lib.hid hB
  have HE := Lib.hid hE
  have H1 := Lib.hid h1
  have H2 := Lib.hid h2
  obtain ⟨L, hLe⟩ : ∃ L, L = vs.length := ⟨_, rfl⟩
  have HL := Lib.hid hLe
  have HLL := Lib.hid h1l
  rw [h1l] at hc ⊢
  rw [← hLe] at hd hn hL ⊢
  have hb2 : Below w.heap.size w ((w.alloc (.cells #[.int .i64 6, .int .i64 0, .int .i64 0, .int .i64 m, .slice A 1 c] 27)).alloc (.cells #[.int .i64 0, .slice B L d] 31)) := ((Below.refl _ w).alloc (Nat.le_refl _) _).alloc (by simp) _
  have hbt : ((w.alloc (.cells #[.int .i64 6, .int .i64 0, .int .i64 0, .int .i64 m, .slice A 1 c] 27)).alloc (.cells #[.int .i64 0, .slice B L d] 31)).heap[w.heap.size]? = some (.cells #[.int .i64 6, .int .i64 0, .int .i64 0, .int .i64 m, .slice A 1 c] 27 (0, 0)) := (Below.heap_alloc _ _ _ (by simp)).trans (heap_alloc_new w _)
  have hbv : ((w.alloc (.cells #[.int .i64 6, .int .i64 0, .int .i64 0, .int .i64 m, .slice A 1 c] 27)).alloc (.cells #[.int .i64 0, .slice B L d] 31)).heap[w.heap.size + 1]? = some (.cells #[.int .i64 0, .slice B L d] 31 (0, 0)) := by simpa using heap_alloc_new (w.alloc (.cells #[.int .i64 6, .int .i64 0, .int .i64 0, .int .i64 m, .slice A 1 c] 27)) (.cells #[.int .i64 0, .slice B L d] 31)
  have HB2 := Lib.hid hb2
  have HBT := Lib.hid hbt
  have HBV := Lib.hid hbv
  clear hA hB hE h1 h2 hLe h1l hb2 hbt hbv
  go_enter Try.func27, Try.ntmps27
  go_wp2
  generalize (w.alloc (.cells #[.int .i64 6, .int .i64 0, .int .i64 0, .int .i64 m, .slice A 1 c] 27)).alloc (.cells #[.int .i64 0, .slice B L d] 31) = W2 at HB2 HBT HBV ⊢
  go_loopw [5] (fun i wr => ∃ k : Nat, i = .int .i64 k ∧ k ≤ L ∧ Below W2.heap.size W2 wr ∧ aa (∀ j, j < k → g j = 0)) (fun i _ => L - (intOf i).toNat)
  case atStart => exact ⟨0, rfl, Nat.zero_le _, Below.refl _ _, ⟨fun j hj => by omega⟩⟩
  case round =>
    obtain ⟨k, rfl, hk, hbw, hal⟩ := hrel
    have hbW : Below w.heap.size w wr := HB2.out.trans (hbw.mono HB2.out.size)
    have hbt := (hbw.block _ (mI HBT.out)).trans HBT.out
    have hbv := (hbw.block _ (mI HBV.out)).trans HBV.out
    have t0 : wr.cell? ⟨w.heap.size, 0, none⟩ = some (.int .i64 6) := (aA hbt 0).trans rfl
    have t4 : wr.cell? ⟨w.heap.size, 4, none⟩ = some (.slice A 1 c) := (aA hbt 4).trans rfl
    have v1 : wr.cell? ⟨w.heap.size + 1, 1, none⟩ = some (.slice B L d) := (aA hbv 1).trans rfl
    have u0 := mI hbt
    have u1 := mI hbv
    have HBTr := Lib.hid hbt
    have HBVr := Lib.hid hbv
    clear hbt hbv
    by_cases hlt : k < L
    · obtain ⟨ae, B4, e4, rfl, q0, q1, m4, r4⟩ := Jg (Kd.bX HV.out hbW) (k : Int) (by omega) (by have := HL.out; omega)
      rw [Int.toNat_natCast] at q0 q1
      have hEE := HE.out k (by have := HL.out; omega)
      obtain ⟨ad, A4, c4, rfl, d0, d1, d2, d3, d4, l4, g4⟩ := gQ (Kd.bX HA.out hbW) ((0 : Nat) : Int) (by omega) (by have := HLL.out; omega)
      have ez : ad.add (((0 : Nat) : Int).toNat * 5) = ad := by simp [Addr.add]
      rw [ez] at d0 d1 d2 d3 d4
      obtain ⟨x, hx⟩ : ∃ x, x = aj l ((0 : Nat) : Int) := ⟨_, rfl⟩
      obtain ⟨y, hy⟩ : ∃ y, y = dM vs (k : Int) := ⟨_, rfl⟩
      rw [← hx] at d0 d1 d2 d3 d4 l4 g4 hEE
      rw [← hy] at q0 q1 m4 r4 hEE
      have HEE := Lib.hid hEE
      have HG4 := Lib.hid g4
      have HR4 := Lib.hid r4
      have HBW := Lib.hid hbW
      have Ie := Lib.hid hbw
      have HAL := Lib.hid hal.out
      have x1 := World.block_lt_of_cell? _ _ d0
      have x2 := World.block_lt_of_cell? _ _ q0
      clear hEE g4 r4 hbW hbw hal hx hy ez
      go_wp2
      have hB3 : Below wr.heap.size wr (wr.alloc (.cells #[.int .i64 x.f0, .int .i64 x.f1, .int .i64 x.f2, .int .i64 x.f3, .slice A4 x.f4.length c4] 27)) := (Below.refl _ wr).alloc (Nat.le_refl _) _
      have hv3 := (hB3.block _ (mI HBVr.out)).trans HBVr.out
      have hx3 := heap_alloc_new wr (.cells #[.int .i64 x.f0, .int .i64 x.f1, .int .i64 x.f2, .int .i64 x.f3, .slice A4 x.f4.length c4] 27)
      have e0 := cell_regrown (kC hB3 q0)
      have e1 := cell_regrown (kC hB3 q1)
      generalize wr.alloc (.cells #[.int .i64 x.f0, .int .i64 x.f1, .int .i64 x.f2, .int .i64 x.f3, .slice A4 x.f4.length c4] 27) = W3 at hB3 hv3 hx3 e0 e1 ⊢
      have k0 := cell_regrown ((aA hx3 0).trans rfl)
      have k1 := cell_regrown ((aA hx3 1).trans rfl)
      have k2 := cell_regrown ((aA hx3 2).trans rfl)
      have k3 := cell_regrown ((aA hx3 3).trans rfl)
      have k4 := cell_regrown ((aA hx3 4).trans rfl)
      have k5 := cell_regrown ((aA hv3 1).trans rfl)
      have hBr : ∀ d os, Below wr.heap.size wr (Go.Sort.grow (redrawn W3 d) os) := fun d os => hB3.trans ((below_regrown W3 d os).mono hB3.size)
      have cC : ∀ d os, Calls Try.prog 27 _ (Go.Sort.grow (redrawn W3 d) os) _ := fun d os => Calls.regrown_of (HEE.out A4 c4 B4 e4 _ (Kd.bX HG4.out (hBr d os)) l4 (Kd.bX HR4.out (hBr d os)) m4)
      have HBR := Lib.hid hBr
      clear hBr hB3 hv3 hx3
      dsimp only [tyV, vaV] at cC
      refine wp_region_quiet_below (by kernel_rfl) (by kernel_rfl) ?_
      repeat (quiet_step (exact cC _ _))
      refine wpQuiet_nil ?_
      intro _ hw'
      obtain ⟨⟨dq, osq⟩, hw''⟩ := hw'
      subst hw''
      dsimp only
      by_cases hg : g k = 0
      · have hgz : (g k != 0) = false := by simp [hg]
        go_wp2
        go_roundw
        case rel =>
          refine ⟨k + 1, by go_num, hlt, Ie.out.trans ((HBR.out dq osq).mono Ie.out.size), ⟨fun j hj => ?_⟩⟩
          by_cases hjk : j = k
          · rw [hjk]; exact hg
          · exact HAL.out j (by omega)
        case measure => simp [intOf]; omega
      · have hgz : (g k != 0) = true := by simp [hg]
        go_wp2
        go_ret
        exact ⟨by rw [H1.out k (by have := HL.out; omega) HAL.out hg]; rfl, HBW.out.trans ((HBR.out dq osq).mono HBW.out.size)⟩
    · go_wp2
      go_ret
      exact ⟨by rw [H2.out (fun j hj => hal.out j (by have := HL.out; omega))]; rfl, hbW⟩
set_option maxHeartbeats 4000000 in
set_option maxRecDepth 100000 in
theorem TF (a0 m : Int) (l : List S27) (v : S31) (h : (a0 = 5 ∧ (v.f0 ≠ 0 ∨ v.f1.length ≠ l.length)) ∨ (a0 = 6 ∧ (v.f0 ≠ 0 ∨ (v.f1.length : Int) > m))) : Ig ⟨a0, 0, 0, m, l⟩ v 2 := by
  intro A c B d w hA hc hB hd
  have hn := hB.2.1
  have hm := hA.2.1
  obtain ⟨v0, vs⟩ := v
  dsimp only [tyV, vaV] at hc hd hn hm h ⊢
  obtain ⟨L, hL⟩ : ∃ L, L = vs.length := ⟨_, rfl⟩
  obtain ⟨N, hN⟩ : ∃ N, N = l.length := ⟨_, rfl⟩
  rw [← hL] at hd hn h ⊢
  rw [← hN] at hc hm h ⊢
  have hb2 : Below w.heap.size w ((w.alloc (.cells #[.int .i64 a0, .int .i64 0, .int .i64 0, .int .i64 m, .slice A N c] 27)).alloc (.cells #[.int .i64 v0, .slice B L d] 31)) := ((Below.refl _ w).alloc (Nat.le_refl _) _).alloc (by simp) _
  have HB2 := Lib.hid hb2
  clear hA hB hL hN hb2
  rcases h with ⟨rfl, h⟩ | ⟨rfl, h⟩
  · by_cases h0 : v0 = 0
    · subst h0
      have hz : ((L : Int) != (N : Int)) = true := by simp; omega
      clear h
      go_enter Try.func27, Try.ntmps27
      go_wp2
      go_ret
      exact ⟨rfl, HB2.out⟩
    · have hz : (v0 != 0) = true := by simp [h0]
      clear h
      go_enter Try.func27, Try.ntmps27
      go_wp2
      go_ret
      exact ⟨rfl, HB2.out⟩
  · by_cases h0 : v0 = 0
    · subst h0
      have hz : (L : Int) > m := by omega
      clear h
      go_enter Try.func27, Try.ntmps27
      go_wp2
      go_ret
      exact ⟨rfl, HB2.out⟩
    · have hz : (v0 != 0) = true := by simp [h0]
      clear h
      go_enter Try.func27, Try.ntmps27
      go_wp2
      go_ret
      exact ⟨rfl, HB2.out⟩
theorem Xw (n : Nat) : ∀ (t : S27) (v : S31), Vt n t → t.f0 ≠ 4 → Ig t v (chk n t v) := by
  induction n with
  | zero => intro t v h; cases h
  | succ n ih =>
    intro t v h h4
    cases h with
    | bool => rw [TB]; simpa using KU 1 0 0 v (.inl ⟨rfl, rfl⟩)
    | int _ lo hi h1 h2 h3 => rw [TC]; simpa using KU 2 lo hi v (.inr (.inl rfl))
    | nat => rw [TD]; simpa using KU 3 0 0 v (.inr (.inr ⟨rfl, rfl⟩))
    | real => exact absurd rfl h4
    | tup _ l h1 h2 h3 h5 =>
      have e : chk (n + 1) ⟨5, 0, 0, 0, l⟩ v = if v.f0 ≠ 0 ∨ v.f1.length ≠ l.length then 2 else ck1 (chk n) l v.f1 := by simp [chk]
      rw [e]
      by_cases hb : v.f0 ≠ 0 ∨ v.f1.length ≠ l.length
      · rw [if_pos hb]; exact TF 5 0 l v (.inl ⟨rfl, hb⟩)
      · rw [if_neg hb]
        have hl : v.f1.length = l.length := by omega
        obtain ⟨i1, i2⟩ := Ll (f := chk n) l v.f1 hl.symm
        refine UD 0 l v (fun j => chk n (aj l (j : Int)) (dM v.f1 (j : Int))) _ (by omega) hl (fun j hj => ?_) i1 i2
        have hm : aj l (j : Int) ∈ l := by rw [rdT (by omega)]; exact List.getElem_mem _
        exact ih _ _ (h3 _ hm) (h5 _ hm).2
    | lst _ m x h1 h2 h3 h5 =>
      have e : chk (n + 1) ⟨6, 0, 0, m, [x]⟩ v = if v.f0 ≠ 0 ∨ (v.f1.length : Int) > m then 2 else ck2 (chk n (aj [x] ((0 : Nat) : Int))) v.f1 := by simp [chk]
      rw [e]
      by_cases hb : v.f0 ≠ 0 ∨ (v.f1.length : Int) > m
      · rw [if_pos hb]; exact TF 6 m [x] v (.inr ⟨rfl, hb⟩)
      · rw [if_neg hb]
        obtain ⟨i1, i2⟩ := Lm (f := chk n (aj [x] ((0 : Nat) : Int))) v.f1
        refine UE m [x] v (fun j => chk n (aj [x] ((0 : Nat) : Int)) (dM v.f1 (j : Int))) _ (by omega) (by omega) rfl (fun j hj => ?_) i1 i2
        have hm : aj [x] ((0 : Nat) : Int) = x := rd1 x
        rw [hm]
        exact ih _ _ h3 (by omega)
end Go.Proofs.Ytggelekooacmnaa.Z
