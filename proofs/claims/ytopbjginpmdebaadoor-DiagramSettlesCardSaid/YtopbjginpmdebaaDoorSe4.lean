/- Lemmas for: Proved: the tied card of exactppllaw19.DiagramSettles (for every list of numbers the law returns true). Conditions: none beyond the given row. -/
import Derived.StillTailTactics
import Derived.Test.YtopbjginpmdebaaDoorSe2
import Derived.Test.YtopbjginpmdebaaDoorSe3
-- diagram.Validate
namespace Go.Proofs.YtopbjginpmdebaaDoor.K
open Go.RowKit Go.Maps Go.Proofs.YtopbjginpmdebaaDoorW.PrintWords Go.Proofs.YtopbjginpmdebaaDoorW.PrintLast Go.Proofs.YtopbjginpmdebaaDoorW.PrintMore
set_option linter.unusedVariables false
set_option linter.unusedSimpArgs false
theorem eq_getD {xs ys : List Int} (hl : xs.length = ys.length) (h : ∀ j, j < xs.length → xs.getD j 0 = ys.getD j 0) : xs = ys := by
  apply List.ext_getElem hl
  intro i h1 h2
  have := h i h1
  rw [List.getD_eq_getElem?_getD, List.getD_eq_getElem?_getD, List.getElem?_eq_getElem h1, List.getElem?_eq_getElem h2] at this
  exact this
set_option maxHeartbeats 8000000 in
set_option maxRecDepth 100000 in
theorem eqInts (xs ys : List Int) (A1 A2 : Option Addr) (c1 c2 : Nat) (w : World) (h1 : (Kd.int .i64).C w A1 xs.length xs) (h2 : (Kd.int .i64).C w A2 ys.length ys) (hl : xs.length ≤ 1073741824) (hl2 : ys.length ≤ 1073741824) :
    Calls Tryd.prog 51 #[.slice A1 xs.length c1, .slice A2 ys.length c2] w fun e w' => e = .returned (.bool (decide (xs = ys))) ∧ Below w.heap.size w w' := by
  have H1 := Lib.hid h1
  have H2 := Lib.hid h2
  clear h1 h2
  by_cases hlen : xs.length = ys.length
  · obtain ⟨N, hN⟩ : ∃ N, N = xs.length := ⟨_, rfl⟩
    rw [← hlen, ← hN]
    have HN := Lib.hid hN
    have HL := Lib.hid hlen
    rw [← hN] at hl
    clear hN hlen hl2
    go_enter Tryd.func51, Tryd.ntmps51
    go_wp2
    go_loopw [13] (fun i wr => ∃ k : Nat, i = .int .i64 k ∧ k ≤ N ∧ Below w.heap.size w wr ∧ ∀ j, j < k → xs.getD j 0 = ys.getD j 0) (fun i _ => N - (intOf i).toNat)
    case atStart => exact ⟨0, rfl, Nat.zero_le _, Below.refl _ _, fun j hj => absurd hj (Nat.not_lt_zero _)⟩
    case round =>
      obtain ⟨k, rfl, hk, hB, hall⟩ := hrel
      have HALL := Lib.hid hall
      have HB := Lib.hid hB
      clear hall
      by_cases hlt : k < N
      · have hx1 : k < xs.length := by have := HN.out; omega
        have hx2 : k < ys.length := by have := HL.out; omega
        obtain ⟨ad1, rfl, r1⟩ := reads_at (Kd.C_below H1.out hB) (by intro e; rw [e] at hx1; simp at hx1)
        obtain ⟨ad2, rfl, r2⟩ := reads_at (Kd.C_below H2.out hB) (by intro e; rw [e] at hx2; simp at hx2)
        have e1 := r1 k hx1
        have e2 := r2 k hx2
        obtain ⟨x, hx⟩ : ∃ x, x = xs.getD k 0 := ⟨_, rfl⟩
        obtain ⟨y, hy⟩ : ∃ y, y = ys.getD k 0 := ⟨_, rfl⟩
        rw [← hx] at e1
        rw [← hy] at e2
        have HX := Lib.hid hx
        have HY := Lib.hid hy
        clear hx hy r1 r2 hB
        have hkb : k < 1073741824 := by omega
        by_cases hxy : x = y
        · go_wp2
          go_quiet (fail)
          go_wp2
          go_roundw
          case rel => exact ⟨k + 1, by go_num, hlt, below_drew2 HB.out _, fun j hj => by
            rcases Nat.lt_or_ge j k with h | h
            · exact HALL.out j h
            · obtain rfl : j = k := by omega
              rw [← HX.out, ← HY.out]; exact hxy⟩
          case measure => simp [intOf]; omega
        · go_wp2
          go_quiet (fail)
          go_wp2
          go_ret
          exact ⟨by rw [decide_eq_false (fun e => hxy (by rw [HX.out, HY.out, e]))]; rfl, below_drew2 HB.out _⟩
      · go_wp2
        go_ret
        exact ⟨by rw [decide_eq_true (eq_getD HL.out (fun j hj => HALL.out j (by have := HN.out; omega)))]; rfl, HB.out⟩
  · have hne : ((xs.length : Int) != (ys.length : Int)) = true := by simp; omega
    go_enter Tryd.func51, Tryd.ntmps51
    go_wp2
    go_ret
    exact ⟨by rw [decide_eq_false (fun e => hlen (by rw [e]))]; rfl, Below.refl _ _⟩
set_option maxHeartbeats 8000000 in
set_option maxRecDepth 100000 in
theorem same1 (a b : Nd) (Aa Ab : Option Addr) (ca cb : Nat) (w : World) (ha : (Kd.int .i64).C w Aa a.f2.length a.f2) (hb : (Kd.int .i64).C w Ab b.f2.length b.f2) (hl : a.f2.length ≤ 1073741824) (hl2 : b.f2.length ≤ 1073741824) :
    Calls Tryd.prog 50 #[.agg #[.int .i64 a.f0, .int .i64 a.f1, .slice Aa a.f2.length ca], .agg #[.int .i64 b.f0, .int .i64 b.f1, .slice Ab b.f2.length cb]] w fun e w' => e = .returned (.bool (decide (a = b))) ∧ Below w.heap.size w w' := by
  obtain ⟨a0, a1, al⟩ := a
  obtain ⟨b0, b1, bl⟩ := b
  simp only at ha hb hl hl2 ⊢
  have HA := Lib.hid ha
  have HBB := Lib.hid hb
  have HL1 := Lib.hid hl
  have HL2 := Lib.hid hl2
  clear ha hb hl hl2
  have hb1 : Below w.heap.size w ((w.alloc (.cells #[.int .i64 a0, .int .i64 a1, .slice Aa al.length ca] 60)).alloc (.cells #[.int .i64 b0, .int .i64 b1, .slice Ab bl.length cb] 60)) := ((Below.refl _ w).alloc (Nat.le_refl _) _).alloc (by simp) _
  have HB1 := Lib.hid hb1
  have hE := eqInts al bl Aa Ab ca cb _ (Kd.C_below HA.out hb1) (Kd.C_below HBB.out hb1) HL1.out HL2.out
  clear hb1
  by_cases h0 : a0 = b0
  · subst h0
    by_cases h1 : a1 = b1
    · subst h1
      have hd : decide ((⟨a0, a1, al⟩ : Nd) = ⟨a0, a1, bl⟩) = decide (al = bl) := by simp
      rw [hd]
      obtain ⟨r, hr⟩ : ∃ r, r = decide (al = bl) := ⟨_, rfl⟩
      rw [← hr] at hE ⊢
      clear hr hd
      cases r
      · go_enter Tryd.func50, Tryd.ntmps50
        go_wp2_with (go_at_call 51; refine hE.mono ?_; clear hE; rintro e w2 ⟨rfl, hb2⟩; have HB2 := Lib.hid hb2; clear hb2)
        go_ret
        exact ⟨rfl, HB1.out.trans (HB2.out.mono (by simp; omega))⟩
      · go_enter Tryd.func50, Tryd.ntmps50
        go_wp2_with (go_at_call 51; refine hE.mono ?_; clear hE; rintro e w2 ⟨rfl, hb2⟩; have HB2 := Lib.hid hb2; clear hb2)
        go_ret
        exact ⟨rfl, HB1.out.trans (HB2.out.mono (by simp; omega))⟩
    · have hd : decide ((⟨a0, a1, al⟩ : Nd) = ⟨a0, b1, bl⟩) = false := decide_eq_false (fun e => h1 (by injection e))
      rw [hd]
      clear hE hd
      go_enter Tryd.func50, Tryd.ntmps50
      go_wp2
      go_ret
      exact ⟨rfl, HB1.out⟩
  · have hd : decide ((⟨a0, a1, al⟩ : Nd) = ⟨b0, b1, bl⟩) = false := decide_eq_false (fun e => h0 (by injection e))
    rw [hd]
    clear hE hd
    go_enter Tryd.func50, Tryd.ntmps50
    go_wp2
    go_ret
    exact ⟨rfl, HB1.out⟩
end Go.Proofs.YtopbjginpmdebaaDoor.K
-- slices.EqualFunc
namespace Go.Proofs.YtopbjginpmdebaaDoor.K
open Go.RowKit Go.Maps Go.Proofs.YtopbjginpmdebaaDoorW.PrintWords Go.Proofs.YtopbjginpmdebaaDoorW.PrintLast Go.Proofs.YtopbjginpmdebaaDoorW.PrintMore
set_option linter.unusedVariables false
set_option linter.unusedSimpArgs false
theorem nths_eq {l r : List Nd} (hl : l.length = r.length) (h : ∀ j : Nat, j < l.length → nth l (j : Int) = nth r (j : Int)) : l = r := by
  apply List.ext_getElem hl
  intro i h1 h2
  have := h i h1
  rwa [nth_lt h1, nth_lt h2] at this
set_option maxHeartbeats 8000000 in
set_option maxRecDepth 100000 in
theorem eqf_calls (l r : List Nd) (Al Ar : Option Addr) (cl cr : Nat) (w : World) (h1 : k60.C w Al l.length l) (h2 : k60.C w Ar r.length r) (hc1 : l.length ≤ cl) (hc2 : r.length ≤ cr) (hL : l.length ≤ 4000000000000) (hR : r.length ≤ 4000000000000)
    (hI1 : ∀ n ∈ l, n.f2.length ≤ 1073741824) (hI2 : ∀ n ∈ r, n.f2.length ≤ 1073741824) :
    Calls Tryd.prog 52 #[.slice Al l.length cl, .slice Ar r.length cr, .func (.func 50) #[] #[]] w fun e w' => e = .returned (.bool (decide (l = r))) ∧ Below w.heap.size w w' := by
  have H1 := Lib.hid h1
  have H2 := Lib.hid h2
  have HI1 := Lib.hid hI1
  have HI2 := Lib.hid hI2
  clear h1 h2 hI1 hI2
  by_cases hlen : l.length = r.length
  · obtain ⟨N, hN⟩ : ∃ N, N = l.length := ⟨_, rfl⟩
    rw [← hlen, ← hN]
    rw [← hlen] at hc2
    rw [← hN] at hc1 hc2 hL
    have HN := Lib.hid hN
    have HL := Lib.hid hlen
    clear hN hlen hR
    go_enter Tryd.func52, Tryd.ntmps52
    go_wp2
    go_loopw [17] (fun i wr => ∃ k : Nat, i = .int .i64 k ∧ k ≤ N ∧ Below w.heap.size w wr ∧ ∀ j : Nat, j < k → nth l (j : Int) = nth r (j : Int)) (fun i _ => N - (intOf i).toNat)
    case atStart => exact ⟨0, rfl, Nat.zero_le _, Below.refl _ _, fun j hj => absurd hj (Nat.not_lt_zero _)⟩
    case round =>
      obtain ⟨k, rfl, hk, hB, hall⟩ := hrel
      have HALL := Lib.hid hall
      have HB := Lib.hid hB
      have hsz := hB.size
      clear hall
      by_cases hlt : k < N
      · have hx1 : k < l.length := by have := HN.out; omega
        have hx2 : k < r.length := by have := HL.out; omega
        obtain ⟨ad, A2, c2, rfl, d0, d1, d2, l2, g2⟩ := at_T60 (Kd.C_below H1.out hB) (k : Int) (by omega) (by omega)
        obtain ⟨bd, B2, b2, rfl, e0, e1, e2, m2, k2⟩ := at_T60 (Kd.C_below H2.out hB) (k : Int) (by omega) (by omega)
        rw [Int.toNat_natCast] at d0 d1 d2 e0 e1 e2
        rw [rd_nth] at d0 d1 d2 l2 g2 e0 e1 e2 m2 k2
        obtain ⟨n, hn⟩ : ∃ n, n = nth l (k : Int) := ⟨_, rfl⟩
        obtain ⟨m, hm⟩ : ∃ m, m = nth r (k : Int) := ⟨_, rfl⟩
        rw [← hn] at d0 d1 d2 l2 g2
        rw [← hm] at e0 e1 e2 m2 k2
        have hbl := World.block_lt_of_cell? _ _ e0
        have hn1 : n.f2.length ≤ 1073741824 := HI1.out n (by rw [hn, nth_lt hx1]; exact List.getElem_mem hx1)
        have hm1 : m.f2.length ≤ 1073741824 := HI2.out m (by rw [hm, nth_lt hx2]; exact List.getElem_mem hx2)
        have hb1 : Below wr.heap.size wr ((wr.alloc (.cells #[.int .i64 n.f0, .int .i64 n.f1, .slice A2 n.f2.length c2] 60)).alloc (.cells #[.int .i64 m.f0, .int .i64 m.f1, .slice B2 m.f2.length b2] 60)) := ((Below.refl _ wr).alloc (Nat.le_refl _) _).alloc (by simp) _
        have hS := same1 n m A2 B2 c2 b2 _ (Kd.C_below g2 hb1) (Kd.C_below k2 hb1) hn1 hm1
        have HB1 := Lib.hid hb1
        have HX := Lib.hid hn
        have HY := Lib.hid hm
        have hkb : k < 4000000000000 := by omega
        clear hb1 hn hm g2 k2 hB
        by_cases hnm : n = m
        · rw [decide_eq_true hnm] at hS
          have HNM := Lib.hid hnm
          clear hnm
          go_wp2_with (go_at_call 50; refine hS.mono ?_; clear hS; rintro e w2 ⟨rfl, hb2⟩; have HB2 := Lib.hid hb2; clear hb2)
          go_roundw
          case rel => exact ⟨k + 1, by go_num, hlt, HB.out.trans ((HB1.out.trans (HB2.out.mono (by simp; omega))).mono hsz), fun j hj => by
            rcases Nat.lt_or_ge j k with h | h
            · exact HALL.out j h
            · obtain rfl : j = k := by omega
              rw [← HX.out, ← HY.out]; exact HNM.out⟩
          case measure => simp [intOf]; omega
        · rw [decide_eq_false hnm] at hS
          have HNM := Lib.hid hnm
          clear hnm
          go_wp2_with (go_at_call 50; refine hS.mono ?_; clear hS; rintro e w2 ⟨rfl, hb2⟩; have HB2 := Lib.hid hb2; clear hb2)
          go_ret
          exact ⟨by rw [decide_eq_false (fun e => HNM.out (by rw [HX.out, HY.out, e]))]; rfl, HB.out.trans ((HB1.out.trans (HB2.out.mono (by simp; omega))).mono hsz)⟩
      · go_wp2
        go_ret
        exact ⟨by rw [decide_eq_true (nths_eq HL.out (fun j hj => HALL.out j (by have := HN.out; omega)))]; rfl, HB.out⟩
  · have hne : ((l.length : Int) != (r.length : Int)) = true := by simp; omega
    go_enter Tryd.func52, Tryd.ntmps52
    go_wp2
    go_ret
    exact ⟨by rw [decide_eq_false (fun e => hlen (by rw [e]))]; rfl, Below.refl _ _⟩
end Go.Proofs.YtopbjginpmdebaaDoor.K
-- diagram.Validate
namespace Go.Proofs.YtopbjginpmdebaaDoor.K
open Go.RowKit Go.Maps Go.Proofs.YtopbjginpmdebaaDoorW.PrintWords Go.Proofs.YtopbjginpmdebaaDoorW.PrintLast Go.Proofs.YtopbjginpmdebaaDoorW.PrintMore
set_option linter.unusedVariables false
set_option linter.unusedSimpArgs false
/-- Validate -/
def valE (nodes : List Nd) : Int := if redE nodes = 0 then (if cn nodes = nodes then 0 else 2) else redE nodes
theorem redL_kids {nodes : List Nd} : (redL nodes).length ≤ 20000 := by
  unfold redL
  split
  · rename_i h
    unfold redE at h
    split at h
    · split at h
      · assumption
      · cases h
    · cases h
  · simp
set_option maxHeartbeats 8000000 in
set_option maxRecDepth 100000 in
theorem validate_calls (nodes : List Nd) (A : Option Addr) (c : Nat) (w : World)
    (hC : k60.C w A nodes.length nodes) (hc : nodes.length ≤ c) (hI : ∀ n ∈ nodes, I64 n.f0 ∧ I64 n.f1 ∧ n.f2.length ≤ 1073741824) (hroom : (nodes.length + 1) * 40 ≤ 140737488355328) (htab : PowTab w.heap.size w) (hk : ∀ n ∈ redL nodes, n.f2.length ≤ 1073741824) :
    Calls Tryd.prog 21 #[.agg #[.slice A nodes.length c]] w fun e w' => e = .returned (.int .i64 (valE nodes)) ∧ Below w.heap.size w w' := by
  have HI := Lib.hid hI
  have HC := Lib.hid hC
  have HK := Lib.hid hk
  have HRM := Lib.hid hroom
  have hb0 : Below w.heap.size w (w.alloc (.cells #[.slice A nodes.length c] 31)) := (Below.refl _ w).alloc (Nat.le_refl _) _
  have hR := reduce_calls nodes A c (w.alloc (.cells #[.slice A nodes.length c] 31)) (Kd.C_below hC hb0) hc hI hroom (PowTab.up (htab.on hb0) hb0.size)
  have hbx0 := heap_alloc_new w (.cells #[.slice A nodes.length c] 31)
  obtain ⟨N, hN⟩ : ∃ N, N = nodes.length := ⟨_, rfl⟩
  rw [← hN] at hR hc hb0 hbx0 ⊢
  have HB0 := Lib.hid hb0
  have HBX0 := Lib.hid hbx0
  clear hbx0
  have HN := Lib.hid hN
  clear hI hC hk hroom htab hb0 hN
  by_cases h0 : redE nodes = 0
  · have hv : valE nodes = if cn nodes = nodes then 0 else 2 := by unfold valE; rw [if_pos h0]
    have hl : redL nodes = cn nodes := by unfold redL; rw [if_pos h0]
    have hlen : (cn nodes).length ≤ 20000 := by rw [← hl]; exact redL_kids
    rw [h0, hl] at hR
    rw [hl] at HK
    have HLEN := Lib.hid hlen
    clear hl hlen h0
    obtain ⟨L, hL⟩ : ∃ L, L = cn nodes := ⟨_, rfl⟩
    rw [← hL] at hR HK hv HLEN
    clear hL
    by_cases hq : L = nodes
    · rw [hv, if_pos hq]
      have hqb : decide (L = nodes) = true := decide_eq_true hq
      have HQ := Lib.hid hqb
      clear hv hq hqb
      go_enter Tryd.func21, Tryd.ntmps21
      go_wp2_with (first
        | (go_at_call 19; refine hR.mono ?_; clear hR; rintro e w2 ⟨hb2, vo, rfl, hRo⟩; obtain ⟨A5, c5, rfl, hc5, hC5⟩ := Kd.R_reads hRo; have HB2 := Lib.hid hb2; have hbx2 := (hb2.block w.heap.size (by simp)).trans HBX0.out; have b0 := blk_cell hbx2 0; have hlt := blk_lt hbx2; clear hbx2; have HC5 := Lib.hid hC5; have hs2 := hb2.size; clear hb2 hC5 hRo)
        | (go_at_call 52; have hb3 := (Below.refl w2.heap.size w2).alloc (Nat.le_refl _) (.cells #[.slice A5 L.length c5] 31); have hA := eqf_calls L nodes A5 A c5 c _ (Kd.C_below HC5.out hb3) (Kd.C_below HC.out ((HB0.out.trans (HB2.out.mono (show w.heap.size ≤ (w.alloc (.cells #[.slice A N c] 31)).heap.size by simp))).trans (hb3.mono (by simp at hs2; omega)))) hc5 (by rw [← HN.out]; exact hc) (by have := HLEN.out; omega) (by have := HRM.out; omega) HK.out (fun n hn => (HI.out n hn).2.2); rw [HQ.out, ← HN.out] at hA; refine hA.mono ?_; clear hA; rintro e w4 ⟨rfl, hb4⟩; have HBF := Lib.hid (((HB0.out.trans (HB2.out.mono (show w.heap.size ≤ (w.alloc (.cells #[.slice A N c] 31)).heap.size by simp))).trans (hb3.mono (by simp at hs2; omega))).trans (hb4.mono (by simp at hs2; simp; omega))); clear hb3 hb4))
      go_ret
      exact ⟨rfl, HBF.out⟩
    · rw [hv, if_neg hq]
      have hqb : decide (L = nodes) = false := decide_eq_false hq
      have HQ := Lib.hid hqb
      clear hv hq hqb
      go_enter Tryd.func21, Tryd.ntmps21
      go_wp2_with (first
        | (go_at_call 19; refine hR.mono ?_; clear hR; rintro e w2 ⟨hb2, vo, rfl, hRo⟩; obtain ⟨A5, c5, rfl, hc5, hC5⟩ := Kd.R_reads hRo; have HB2 := Lib.hid hb2; have hbx2 := (hb2.block w.heap.size (by simp)).trans HBX0.out; have b0 := blk_cell hbx2 0; have hlt := blk_lt hbx2; clear hbx2; have HC5 := Lib.hid hC5; have hs2 := hb2.size; clear hb2 hC5 hRo)
        | (go_at_call 52; have hb3 := (Below.refl w2.heap.size w2).alloc (Nat.le_refl _) (.cells #[.slice A5 L.length c5] 31); have hA := eqf_calls L nodes A5 A c5 c _ (Kd.C_below HC5.out hb3) (Kd.C_below HC.out ((HB0.out.trans (HB2.out.mono (show w.heap.size ≤ (w.alloc (.cells #[.slice A N c] 31)).heap.size by simp))).trans (hb3.mono (by simp at hs2; omega)))) hc5 (by rw [← HN.out]; exact hc) (by have := HLEN.out; omega) (by have := HRM.out; omega) HK.out (fun n hn => (HI.out n hn).2.2); rw [HQ.out, ← HN.out] at hA; refine hA.mono ?_; clear hA; rintro e w4 ⟨rfl, hb4⟩; have HBF := Lib.hid (((HB0.out.trans (HB2.out.mono (show w.heap.size ≤ (w.alloc (.cells #[.slice A N c] 31)).heap.size by simp))).trans (hb3.mono (by simp at hs2; omega))).trans (hb4.mono (by simp at hs2; simp; omega))); clear hb3 hb4))
      go_ret
      exact ⟨rfl, HBF.out⟩
  · have hv : valE nodes = redE nodes := by unfold valE; rw [if_neg h0]
    rw [hv]
    obtain ⟨er, her⟩ : ∃ er, er = redE nodes := ⟨_, rfl⟩
    rw [← her] at hR h0 ⊢
    clear her hv
    go_enter Tryd.func21, Tryd.ntmps21
    go_wp2_with (go_at_call 19; refine hR.mono ?_; clear hR; rintro e w2 ⟨hb2, vo, rfl, hRo⟩; obtain ⟨A5, c5, rfl⟩ := Kd.R_slice hRo; have HB2 := Lib.hid hb2; clear hb2)
    go_ret
    exact ⟨rfl, ((HB0.out.trans (HB2.out.mono (show w.heap.size ≤ (w.alloc (.cells #[.slice A N c] 31)).heap.size by simp))).alloc (by have := HB2.out.size; simp at this; omega) _)⟩
end Go.Proofs.YtopbjginpmdebaaDoor.K
-- the canonical nodes keep the number of kids
namespace Go.Proofs.YtopbjginpmdebaaDoor.K
open Go.RowKit Go.Maps Go.Proofs.YtopbjginpmdebaaDoorW.PrintWords Go.Proofs.YtopbjginpmdebaaDoorW.PrintLast Go.Proofs.YtopbjginpmdebaaDoorW.PrintMore
set_option linter.unusedVariables false
set_option linter.unusedSimpArgs false
theorem nth_kids {m : Nat} {u : List Nd} (hu : ∀ x ∈ u, x.f2.length ≤ m) (i : Int) : (nth u i).f2.length ≤ m := by
  unfold nth
  by_cases h : i.toNat < u.length
  · rw [List.getD_eq_getElem?_getD, List.getElem?_eq_getElem h]
    exact hu _ (List.getElem_mem h)
  · rw [List.getD_eq_getElem?_getD, List.getElem?_eq_none (by omega)]
    simp
theorem fin_kids {m : Nat} {u : List Nd} (hu : ∀ x ∈ u, x.f2.length ≤ m) (i : Int) (s : St) (hs : ∀ x ∈ s.2, x.f2.length ≤ m) : ∀ x ∈ (fin u i s).2, x.f2.length ≤ m := by
  intro x hx
  unfold fin at hx
  rcases List.mem_append.1 hx with h | h
  · exact hs x h
  · rw [List.mem_singleton.1 h]
    show (mp s.1 (nth u i).f2).length ≤ m
    unfold mp
    rw [List.length_map]
    exact nth_kids hu i
theorem foldl_keeps {α : Type} (P : St → Prop) (f : St → α → St) (hf : ∀ s x, P s → P (f s x)) : ∀ (l : List α) (s : St), P s → P (l.foldl f s)
  | [], _, h => h
  | x :: l, s, h => foldl_keeps P f hf l _ (hf s x h)
theorem dfs_kids {m : Nat} {u : List Nd} (hu : ∀ x ∈ u, x.f2.length ≤ m) : ∀ (d : Nat) (i : Int) (s : St), (∀ x ∈ s.2, x.f2.length ≤ m) → ∀ x ∈ (dfs u d i s).2, x.f2.length ≤ m
  | 0, _, _, h => h
  | d + 1, i, s, h => by
    simp only [dfs]
    split
    · exact h
    · exact fin_kids hu i _ (foldl_keeps (fun s => ∀ x ∈ s.2, x.f2.length ≤ m) _ (fun s c hs => dfs_kids hu d c s hs) _ s h)
theorem cn_kids {nodes : List Nd} (h : grB nodes = true) : ∀ x ∈ cn nodes, x.f2.length ≤ 16 := by
  unfold cn expo
  exact dfs_kids (imp_kids nodes [] [] (by simp) (gr_kids h)) _ _ _ (by simp)
theorem redL_kids16 (nodes : List Nd) : ∀ x ∈ redL nodes, x.f2.length ≤ 16 := by
  unfold redL
  split
  · rename_i h
    by_cases hg : grB nodes = true
    · exact cn_kids hg
    · unfold redE at h
      rw [if_neg hg] at h
      cases h
  · simp
/-- what Eval gives from node i on -/
def evK (nodes : List Nd) (o : List Int) : Nat → Int → Int × Int
  | 0, _ => (0, 0)
  | f + 1, i => if (nth nodes i).f0 < 0 then ((nth nodes i).f1, 0) else
      if (o.length : Int) ≤ (nth nodes i).f0 ∨ rd o (nth nodes i).f0 < 0 ∨ ((nth nodes i).f2.length : Int) ≤ rd o (nth nodes i).f0 then (0, 1) else evK nodes o f (rd (nth nodes i).f2 (rd o (nth nodes i).f0))
end Go.Proofs.YtopbjginpmdebaaDoor.K
-- diagram.Eval
namespace Go.Proofs.YtopbjginpmdebaaDoor.K
open Go.RowKit Go.Maps Go.Proofs.YtopbjginpmdebaaDoorW.PrintWords Go.Proofs.YtopbjginpmdebaaDoorW.PrintLast Go.Proofs.YtopbjginpmdebaaDoorW.PrintMore
set_option linter.unusedVariables false
set_option linter.unusedSimpArgs false
/-- Eval -/
def evR (nodes : List Nd) (o : List Int) : Int × Int := if valE nodes = 0 then evK nodes o (nodes.length + 1) ((nodes.length - 1 : Nat) : Int) else (0, valE nodes)
/-- Eval's loop: n holds node i -/
structure EvSt (w w2 W : World) (nodes : List Nd) (i : Nat) : Prop where
  below : Below w.heap.size w W
  below2 : Below w2.heap.size w2 W
  node : ∃ A2 c2, W.heap[w2.heap.size]? = some (.cells #[.int .i64 (nth nodes (i : Int)).f0, .int .i64 (nth nodes (i : Int)).f1, .slice A2 (nth nodes (i : Int)).f2.length c2] 60 (0, 0)) ∧ (nth nodes (i : Int)).f2.length ≤ c2 ∧ (Kd.int .i64).C W A2 (nth nodes (i : Int)).f2.length (nth nodes (i : Int)).f2
set_option maxHeartbeats 8000000 in
set_option maxRecDepth 100000 in
theorem eval_calls (nodes : List Nd) (o : List Int) (A Ao : Option Addr) (c co : Nat) (w : World)
    (hC : k60.C w A nodes.length nodes) (hc : nodes.length ≤ c) (hI : ∀ n ∈ nodes, I64 n.f0 ∧ I64 n.f1 ∧ n.f2.length ≤ 1073741824) (hroom : (nodes.length + 1) * 40 ≤ 140737488355328) (htab : PowTab w.heap.size w)
    (hO : (Kd.int .i64).C w Ao o.length o) (ho : o.length ≤ 4000000000000) :
    Calls Tryd.prog 26 #[.agg #[.slice A nodes.length c], .slice Ao o.length co] w fun e w' => e = .returned (.tuple #[.int .i64 (evR nodes o).1, .int .i64 (evR nodes o).2]) ∧ Below w.heap.size w w' := by
  have HO := Lib.hid hO
  have HI := Lib.hid hI
  have HC := Lib.hid hC
  have hb0 : Below w.heap.size w (w.alloc (.cells #[.slice A nodes.length c] 31)) := (Below.refl _ w).alloc (Nat.le_refl _) _
  have hV := validate_calls nodes A c (w.alloc (.cells #[.slice A nodes.length c] 31)) (Kd.C_below hC hb0) hc hI hroom (PowTab.up (htab.on hb0) hb0.size) (fun n hn => Nat.le_trans (redL_kids16 nodes n hn) (by decide))
  have hbx0 := heap_alloc_new w (.cells #[.slice A nodes.length c] 31)
  obtain ⟨N, hN⟩ : ∃ N, N = nodes.length := ⟨_, rfl⟩
  rw [← hN] at hV hc hb0 hbx0 ⊢
  have HB0 := Lib.hid hb0
  have HBX0 := Lib.hid hbx0
  have HN := Lib.hid hN
  have HRM := Lib.hid hroom
  clear hI hC hO hroom htab hb0 hbx0 hN
  by_cases h0 : valE nodes = 0
  · have hv : evR nodes o = evK nodes o (nodes.length + 1) ((nodes.length - 1 : Nat) : Int) := by unfold evR; rw [if_pos h0]
    rw [h0] at hV
    have hre : redE nodes = 0 := by
      by_cases h1 : redE nodes = 0
      · exact h1
      · unfold valE at h0; rw [if_neg h1] at h0; exact absurd h0 h1
    have hgr : grB nodes = true := by
      by_cases h1 : grB nodes = true
      · exact h1
      · unfold redE at hre; rw [if_neg h1] at hre; cases hre
    rw [hv]
    obtain ⟨M, hM⟩ : ∃ M, nodes.length = M + 1 := ⟨nodes.length - 1, by have := gr_pos hgr; omega⟩
    have hNM : N = M + 1 := HN.out.trans hM
    subst hNM
    have hMl : nodes.length - 1 = M := by omega
    rw [hMl, hM]
    have HGR := Lib.hid hgr
    have HM := Lib.hid hM
    have hMb : M < 4000000000000 := by have := HRM.out; omega
    clear hv h0 hre hgr hM hMl
    go_enter Tryd.func26, Tryd.ntmps26
    go_wp2_with (go_at_call 21; refine hV.mono ?_; clear hV; rintro e w2 ⟨rfl, hb2⟩; have HB2 := Lib.hid (HB0.out.trans (hb2.mono (show w.heap.size ≤ (w.alloc (.cells #[.slice A (M + 1) c] 31)).heap.size by simp))); have hbx2 := (hb2.block w.heap.size (by simp)).trans HBX0.out; have b0 := blk_cell hbx2 0; have hlt := blk_lt hbx2; have HBX2 := Lib.hid hbx2; clear hbx2 hb2; obtain ⟨ad, A2, c2, rfl, d0, d1, d2, l2, g2⟩ := at_T60 (Kd.C_below HC.out HB2.out) (M : Int) (by omega) (by have := HM.out; omega); rw [Int.toNat_natCast] at d0 d1 d2; rw [rd_nth] at d0 d1 d2 l2 g2; have hadl := World.block_lt_of_cell? _ _ d0; have HG2 := Lib.hid g2; clear g2)
    have hst0 : ∀ X : World, X = w2.alloc (.cells #[.int .i64 (nth nodes (M : Int)).f0, .int .i64 (nth nodes (M : Int)).f1, .slice A2 (nth nodes (M : Int)).f2.length c2] 60) → EvSt w w2 X nodes M := by
      rintro X rfl
      exact ⟨HB2.out.alloc (Nat.le_of_lt hlt) _, (Below.refl _ w2).alloc (Nat.le_refl _) _, ⟨A2, c2, heap_alloc_new w2 _, l2, Kd.C_below HG2.out ((Below.refl _ w2).alloc (Nat.le_refl _) _)⟩⟩
    have H0 := Lib.hid hst0
    clear hst0
    go_loopg [21] (M + 1 + 1) (fun q s21 wr => ∃ i : Nat, i < q ∧ i < M + 1 ∧ Aside0 (evK nodes o q (i : Int) = evK nodes o (M + 1 + 1) (M : Int)) ∧ EvSt w w2 wr nodes i)
    case atStart => exact ⟨M, by omega, by omega, ⟨rfl⟩, H0.out _ rfl⟩
    case round =>
      obtain ⟨i, hiq, hiN, hev, hst⟩ := hrel
      obtain ⟨q, rfl⟩ : ∃ q, gk = q + 1 := ⟨gk - 1, by omega⟩
      obtain ⟨A3, c3, hbn, l3, g3⟩ := hst.node
      obtain ⟨n, hn⟩ : ∃ n, n = nth nodes (i : Int) := ⟨_, rfl⟩
      rw [← hn] at hbn l3 g3
      have n0 : wr.cell? ⟨w2.heap.size, 0, none⟩ = some (.int .i64 n.f0) := (blk_cell hbn 0).trans rfl
      have n1 : wr.cell? ⟨w2.heap.size, 1, none⟩ = some (.int .i64 n.f1) := (blk_cell hbn 1).trans rfl
      have n2 : wr.cell? ⟨w2.heap.size, 2, none⟩ = some (.slice A3 n.f2.length c3) := (blk_cell hbn 2).trans rfl
      have HEV := Lib.hid hev.out
      have HST := Lib.hid hst
      have HNI := Lib.hid hn
      have HBN := Lib.hid hbn
      have HG3 := Lib.hid g3
      clear hev hst hn hbn g3 d0 d1 d2
      by_cases h0 : n.f0 < 0
      · go_wp2
        refine bodyPost_ret (v := .tuple #[.int .i64 n.f1, .int .i64 0]) (by simp [results, Tryd.f26, go_sem]) rfl ⟨?_, HST.out.below⟩
        rw [← HEV.out]
        simp only [evK]
        rw [← HNI.out, if_pos (by omega)]
      · by_cases h1 : (o.length : Int) ≤ n.f0
        · go_wp2
          go_quiet (fail)
          go_wp2
          refine bodyPost_ret (v := .tuple #[.int .i64 0, .int .i64 1]) (by simp [results, Tryd.f26, go_sem]) rfl ⟨?_, below_drew2 HST.out.below _⟩
          rw [← HEV.out]
          simp only [evK]
          rw [← HNI.out, if_neg (by omega), if_pos (by omega)]
        · obtain ⟨fN, hfN⟩ : ∃ fN : Nat, n.f0 = fN := ⟨n.f0.toNat, by omega⟩
          have hfo : fN < o.length := by omega
          have hfoi : (fN : Int) < (o.length : Int) := by omega
          obtain ⟨ao, rfl, ro⟩ := reads_at (Kd.C_below HO.out HST.out.below) (by intro e; rw [e] at hfo; simp at hfo)
          have e0 := ro fN hfo
          obtain ⟨x, hx⟩ : ∃ x, x = o.getD fN 0 := ⟨_, rfl⟩
          rw [← hx] at e0
          have hrd : rd o n.f0 = x := by rw [hfN, hx]; unfold rd; rw [Int.toNat_natCast]
          have HRD := Lib.hid hrd
          replace n0 : wr.cell? ⟨w2.heap.size, 0, none⟩ = some (.int .i64 (fN : Int)) := by rw [n0, hfN]
          have HFN := Lib.hid hfN
          have hfb : fN < 4000000000000 := by omega
          clear hrd hx hfN ro h0 h1
          by_cases h2 : x < 0
          · have q1 : decide (o.length ≤ fN) = false := by simp; omega
            have q2 : decide (x < 0) = true := decide_eq_true h2
            have q3 : (decide (o.length ≤ fN) || decide (x < 0)) = true := by rw [q2]; simp
            go_wp2
            go_quiet (fail)
            go_wp2
            refine bodyPost_ret (v := .tuple #[.int .i64 0, .int .i64 1]) (by simp [results, Tryd.f26, go_sem]) rfl ⟨?_, below_drew2 HST.out.below _⟩
            rw [← HEV.out]
            simp only [evK]
            rw [← HNI.out, if_neg (by rw [HFN.out]; omega), if_pos (by rw [HRD.out]; omega)]
          · by_cases h3 : (n.f2.length : Int) ≤ x
            · go_wp2
              go_quiet (fail)
              go_wp2
              refine bodyPost_ret (v := .tuple #[.int .i64 0, .int .i64 1]) (by simp [results, Tryd.f26, go_sem]) rfl ⟨?_, below_drew2 HST.out.below _⟩
              rw [← HEV.out]
              simp only [evK]
              rw [← HNI.out, if_neg (by rw [HFN.out]; omega), if_pos (by rw [HRD.out]; omega)]
            · obtain ⟨xN, rfl⟩ : ∃ xN : Nat, x = xN := ⟨x.toNat, by omega⟩
              have hxl : xN < n.f2.length := by omega
              obtain ⟨a3, rfl, r3⟩ := reads_at HG3.out (by intro e; rw [e] at hxl; simp at hxl)
              have e3 := r3 xN hxl
              have hmem : n.f2.getD xN 0 ∈ n.f2 := by rw [List.getD_eq_getElem?_getD, List.getElem?_eq_getElem hxl]; exact List.getElem_mem hxl
              have hdn := (gr_fit HGR.out).1 i (by have := HM.out; omega) (n.f2.getD xN 0) (by rw [← HNI.out]; exact hmem)
              obtain ⟨kN, hkN⟩ : ∃ kN : Nat, n.f2.getD xN 0 = kN := ⟨(n.f2.getD xN 0).toNat, by omega⟩
              rw [hkN] at e3 hdn
              have HKN := Lib.hid hkN
              obtain ⟨ad4, A4, c4, had4, d0, d1, d2, l4, g4⟩ := at_T60 HC.out (kN : Int) (by omega) (by have := HM.out; omega)
              injection had4 with had4
              subst had4
              rw [Int.toNat_natCast] at d0 d1 d2
              rw [rd_nth] at d0 d1 d2 l4 g4
              obtain ⟨m, hm⟩ : ∃ m, m = nth nodes (kN : Int) := ⟨_, rfl⟩
              rw [← hm] at d0 d1 d2 l4 g4
              replace d0 := pw_cell_below HST.out.below d0
              replace d1 := pw_cell_below HST.out.below d1
              replace d2 := pw_cell_below HST.out.below d2
              have HMM := Lib.hid hm
              have HG4 := Lib.hid g4
              have hkM : (kN : Int) < (M : Int) + 1 := by omega
              have hkb : kN < 4000000000000 := by omega
              have hxli : (xN : Int) < (n.f2.length : Int) := by omega
              have hkq : kN < q := by omega
              clear hm g4 hdn hmem r3
              go_wp2
              go_quiet (fail)
              have q1 : decide (o.length ≤ fN) = false := by simp; omega
              have q2 : decide ((xN : Int) < 0) = false := by simp
              have q3 : decide (n.f2.length ≤ xN) = false := by simp; omega
              obtain ⟨w3, hw3⟩ : ∃ w3, w3 = wr.drewN nq := ⟨_, rfl⟩
              rw [← hw3]
              have hb3 : Below wr.heap.size wr w3 := by rw [hw3]; exact below_drew2 (Below.refl _ wr) nq
              have hbx3 := (hb3.block _ (by have := HST.out.below2.size; omega)).trans ((HST.out.below2.block _ hlt).trans HBX2.out)
              have b3 : w3.cell? ⟨w.heap.size, 0, none⟩ = some (.slice (some ad) (M + 1) c) := (blk_cell hbx3 0).trans rfl
              replace n0 := pw_cell_below hb3 n0
              replace n1 := pw_cell_below hb3 n1
              replace n2 := pw_cell_below hb3 n2
              replace e0 := pw_cell_below hb3 e0
              replace e3 := pw_cell_below hb3 e3
              replace d0 := pw_cell_below hb3 d0
              replace d1 := pw_cell_below hb3 d1
              replace d2 := pw_cell_below hb3 d2
              have hbn3 := (hb3.block _ (blk_lt HBN.out)).trans HBN.out
              have f7 := blk_frozen hbn3 0
              have f71 := blk_frozen hbn3 1
              have f72 := blk_frozen hbn3 2
              have HBX3 := Lib.hid hbx3
              have HBN3 := Lib.hid hbn3
              have HB3 := Lib.hid hb3
              clear hw3 hb3 hbx3 hbn3 b0
              go_upto_region 8 with (fail)
              go_still_tail 13, (by kernel_rfl)
              change wpList _ _ _ _ _ w3.drew
              go_wp2
              go_roundg q
              case measure => omega
              case rel =>
                have hwm : w.heap.size ≤ w2.heap.size := by omega
                have hbF := ((((HST.out.below.trans (HB3.out.mono (HST.out.below.size))).setCell (p := ⟨w2.heap.size, 0, none⟩) hwm (.int .i64 m.f0)).setCell (p := ⟨w2.heap.size, 1, none⟩) hwm (.int .i64 m.f1)).setCell (p := ⟨w2.heap.size, 2, none⟩) hwm (.slice A4 m.f2.length c4)).drew
                refine ⟨kN, hkq, by omega, ⟨?_⟩, ⟨?_, ?_, A4, c4, ?_, ?_, ?_⟩⟩
                · rw [← HEV.out]
                  conv => rhs; simp only [evK]
                  rw [← HNI.out, if_neg (by rw [HFN.out]; omega), if_neg (by rw [HFN.out] at *; rw [← HFN.out, HRD.out]; omega), HRD.out]
                  congr 1
                  unfold rd
                  rw [Int.toNat_natCast, HKN.out]
                · exact hbF
                · exact ((((HST.out.below2.trans (HB3.out.mono (HST.out.below2.size))).setCell (p := ⟨w2.heap.size, 0, none⟩) (Nat.le_refl _) _).setCell (p := ⟨w2.heap.size, 1, none⟩) (Nat.le_refl _) _).setCell (p := ⟨w2.heap.size, 2, none⟩) (Nat.le_refl _) _).drew
                · rw [← HMM.out]
                  exact blk_set (blk_set (blk_set HBN3.out 0 _) 1 _) 2 _
                · rw [← HMM.out]; exact l4
                · rw [← HMM.out]
                  exact Kd.C_below HG4.out hbF
  · have hv : evR nodes o = (0, valE nodes) := by unfold evR; rw [if_neg h0]
    rw [hv]
    obtain ⟨er, her⟩ : ∃ er, er = valE nodes := ⟨_, rfl⟩
    rw [← her] at hV h0 ⊢
    clear her hv
    go_enter Tryd.func26, Tryd.ntmps26
    go_wp2_with (go_at_call 21; refine hV.mono ?_; clear hV; rintro e w2 ⟨rfl, hb2⟩; have HB2 := Lib.hid hb2; clear hb2)
    refine bodyPost_ret (v := .tuple #[.int .i64 0, .int .i64 er]) (by simp [results, Tryd.f26, go_sem]) rfl ⟨rfl, HB0.out.trans (HB2.out.mono (show w.heap.size ≤ (w.alloc (.cells #[.slice A N c] 31)).heap.size by simp))⟩
end Go.Proofs.YtopbjginpmdebaaDoor.K
-- exactppllaw19.awake
namespace Go.Proofs.YtopbjginpmdebaaDoor.K
open Go.RowKit Go.Maps Go.Proofs.YtopbjginpmdebaaDoorW.PrintWords Go.Proofs.YtopbjginpmdebaaDoorW.PrintLast Go.Proofs.YtopbjginpmdebaaDoorW.PrintMore
set_option linter.unusedVariables false
set_option linter.unusedSimpArgs false
theorem ints_C {W : World} {b : Nat} {xs : List Int} {cs : Array Value} (h : W.heap[b]? = some (.cells cs 3 (0, 0))) (hl : xs.length ≤ 1073741824) (hcs : ∀ j, j < xs.length → cs[j]? = some (.int .i64 (xs.getD j 0))) : (Kd.int .i64).C W (some ⟨b, 0, none⟩) xs.length xs := by
  refine ⟨rfl, by omega, fun _ => ⟨_, rfl, fun j p hp => ⟨[.int .i64 p], rfl, rfl, fun i u hi => ?_⟩⟩⟩
  have hj : j < xs.length := by
    rcases Nat.lt_or_ge j xs.length with h1 | h1
    · exact h1
    · rw [List.getElem?_eq_none h1] at hp; cases hp
  have hi0 : i = 0 := by
    rcases i with _ | i
    · rfl
    · simp at hi
  subst hi0
  have hu : u = .int .i64 p := by simpa using hi.symm
  subst hu
  have h1 := blk_cell h j
  rw [hcs j hj] at h1
  rw [List.getD_eq_getElem?_getD, hp] at h1
  have e : (Addr.add ⟨b, 0, none⟩ (j * 1 + 0)) = ⟨b, j, none⟩ := by simp [Addr.add]; intro h; simp [h]
  show W.cell? (Addr.add ⟨b, 0, none⟩ (j * 1 + 0)) = _
  rw [e, h1]; rfl
theorem nodes_C {W : World} {b : Nat} {xs : List Nd} {cs : Array Value} (h : W.heap[b]? = some (.cells cs 60 (0, 0))) (hl : xs.length ≤ 1073741824)
    (hx : ∀ j p, xs[j]? = some p → ∃ A c, cs[j * 3]? = some (.int .i64 p.f0) ∧ cs[j * 3 + 1]? = some (.int .i64 p.f1) ∧ cs[j * 3 + 2]? = some (.slice A p.f2.length c) ∧ p.f2.length ≤ c ∧ (Kd.int .i64).C W A p.f2.length p.f2) : k60.C W (some ⟨b, 0, none⟩) xs.length xs := by
  refine ⟨rfl, by omega, fun _ => ⟨_, rfl, fun j p hp => ?_⟩⟩
  obtain ⟨A, c, c0, c1, c2, l2, g2⟩ := hx j p hp
  refine ⟨_, rfl, k60_mk W p l2 g2, fun i u hi => ?_⟩
  have h1 := blk_cell h (j * 3 + i)
  have e : ∀ n, (Addr.add ⟨b, 0, none⟩ n) = ⟨b, n, none⟩ := fun n => by simp [Addr.add]; intro h; simp [h]
  show W.cell? (Addr.add ⟨b, 0, none⟩ (j * 3 + i)) = some u
  rw [e, h1]
  rcases i with _ | _ | _ | i
  · rw [← hi]; exact c0
  · rw [← hi]; exact c1
  · rw [← hi]; exact c2
  · simp at hi
/-- awake's list -/
def awL : List Nd := [⟨-1, 0, []⟩, ⟨-1, 1, []⟩, ⟨2, 0, [1, 1]⟩, ⟨0, 0, [0, 2]⟩]
def awM : List Nd := [⟨-1, 0, []⟩, ⟨-1, 1, []⟩, ⟨0, 0, [0, 1]⟩]
theorem aw_red : redE awL = 0 := by kernel_rfl
theorem aw_redL : redL awL = awM := by kernel_rfl
theorem aw_ev : evR awM [1] = (1, 0) := by kernel_rfl
theorem aw_C {W : World} {b k1 k2 : Nat} (h : W.heap[b]? = some (.cells #[.int .i64 (-1), .int .i64 0, .slice none 0 0, .int .i64 (-1), .int .i64 1, .slice none 0 0, .int .i64 2, .int .i64 0, .slice (some ⟨k1, 0, none⟩) 2 2, .int .i64 0, .int .i64 0, .slice (some ⟨k2, 0, none⟩) 2 2] 60 (0, 0)))
    (h1 : W.heap[k1]? = some (.cells #[.int .i64 1, .int .i64 1] 3 (0, 0))) (h2 : W.heap[k2]? = some (.cells #[.int .i64 0, .int .i64 2] 3 (0, 0))) : k60.C W (some ⟨b, 0, none⟩) 4 awL := by
  refine nodes_C (xs := awL) h (by decide) fun j p hp => ?_
  rcases j with _ | _ | _ | _ | j
  · obtain rfl : (⟨-1, 0, []⟩ : Nd) = p := by simpa [awL] using hp
    exact ⟨none, 0, rfl, rfl, rfl, Nat.le_refl _, Kd.C_nil _ _⟩
  · obtain rfl : (⟨-1, 1, []⟩ : Nd) = p := by simpa [awL] using hp
    exact ⟨none, 0, rfl, rfl, rfl, Nat.le_refl _, Kd.C_nil _ _⟩
  · obtain rfl : (⟨2, 0, [1, 1]⟩ : Nd) = p := by simpa [awL] using hp
    exact ⟨_, 2, rfl, rfl, rfl, Nat.le_refl _, ints_C h1 (by decide) (fun j hj => by rcases j with _ | _ | j; rfl; rfl; simp at hj; omega)⟩
  · obtain rfl : (⟨0, 0, [0, 2]⟩ : Nd) = p := by simpa [awL] using hp
    exact ⟨_, 2, rfl, rfl, rfl, Nat.le_refl _, ints_C h2 (by decide) (fun j hj => by rcases j with _ | _ | j; rfl; rfl; simp at hj; omega)⟩
  · simp [awL] at hp
theorem awL_I : ∀ n ∈ awL, I64 n.f0 ∧ I64 n.f1 ∧ n.f2.length ≤ 1073741824 := by
  intro n hn
  simp only [awL, List.mem_cons, List.not_mem_nil, or_false] at hn
  rcases hn with rfl | rfl | rfl | rfl <;> exact ⟨⟨by decide, by decide⟩, ⟨by decide, by decide⟩, by decide⟩
theorem awM_I : ∀ n ∈ awM, I64 n.f0 ∧ I64 n.f1 ∧ n.f2.length ≤ 1073741824 := by
  intro n hn
  simp only [awM, List.mem_cons, List.not_mem_nil, or_false] at hn
  rcases hn with rfl | rfl | rfl <;> exact ⟨⟨by decide, by decide⟩, ⟨by decide, by decide⟩, by decide⟩
set_option maxHeartbeats 8000000 in
set_option maxRecDepth 100000 in
theorem awake_calls (w : World) (htab : PowTab w.heap.size w) : Calls Tryd.prog 17 #[] w fun e w' => e = .returned (.bool true) ∧ Below w.heap.size w w' := by
  obtain ⟨W1, hW1⟩ : ∃ W1, W1 = ((w.alloc (Obj.cells #[.int .i64 1, .int .i64 1] 3)).alloc (Obj.cells #[.int .i64 0, .int .i64 2] 3)).alloc (Obj.cells #[.int .i64 (-1), .int .i64 0, .slice none 0 0, .int .i64 (-1), .int .i64 1, .slice none 0 0, .int .i64 2, .int .i64 0, .slice (some ⟨w.heap.size, 0, none⟩) 2 2, .int .i64 0, .int .i64 0, .slice (some ⟨w.heap.size + 1, 0, none⟩) 2 2] 60) := ⟨_, rfl⟩
  have hb1 : Below w.heap.size w W1 := by rw [hW1]; exact (((Below.refl _ w).alloc (Nat.le_refl _) _).alloc (by simp) _).alloc (by simp; omega) _
  have hC1 : k60.C W1 (some ⟨w.heap.size + 1 + 1, 0, none⟩) 4 awL := by
    rw [hW1]
    refine aw_C (k1 := w.heap.size) (k2 := w.heap.size + 1) ?_ ?_ ?_
    · have := heap_alloc_new ((w.alloc (Obj.cells #[.int .i64 1, .int .i64 1] 3)).alloc (Obj.cells #[.int .i64 0, .int .i64 2] 3)) (Obj.cells #[.int .i64 (-1), .int .i64 0, .slice none 0 0, .int .i64 (-1), .int .i64 1, .slice none 0 0, .int .i64 2, .int .i64 0, .slice (some ⟨w.heap.size, 0, none⟩) 2 2, .int .i64 0, .int .i64 0, .slice (some ⟨w.heap.size + 1, 0, none⟩) 2 2] 60)
      simpa using this
    · exact (Below.heap_alloc _ _ _ (by simp; omega)).trans ((Below.heap_alloc _ _ _ (by simp)).trans (heap_alloc_new w _))
    · refine (Below.heap_alloc _ _ _ (by simp)).trans ?_
      have := heap_alloc_new (w.alloc (Obj.cells #[.int .i64 1, .int .i64 1] 3)) (Obj.cells #[.int .i64 0, .int .i64 2] 3)
      simpa using this
  have hA := reduce_calls awL _ 4 W1 hC1 (by decide) awL_I (by decide) (PowTab.up (htab.on hb1) hb1.size)
  rw [aw_red, aw_redL] at hA
  have hs1 := hb1.size
  have HB1 := Lib.hid hb1
  have HTAB := Lib.hid htab
  rw [hW1] at hA
  have HW1 := Lib.hid hW1
  clear hb1 hC1 hW1 htab
  go_enter Tryd.func17, Tryd.ntmps17
  go_wp2_with (first
    | (go_at_call 19; refine hA.mono ?_; clear hA; rintro e w2 ⟨hb2, vo, rfl, hRo⟩; obtain ⟨A5, c5, rfl, hc5, hC5⟩ := Kd.R_reads hRo; rw [← HW1.out] at hb2; have HB2 := Lib.hid (HB1.out.trans (hb2.mono hs1)); have HC5 := Lib.hid hC5; have HCC := Lib.hid hc5; have hl5 : awM.length = 3 := rfl; clear hb2 hC5 hRo)
    | (go_at_call 26; have hb3 := ((Below.refl w2.heap.size w2).alloc (Nat.le_refl _) (.cells #[.slice A5 3 c5] 31)).alloc (by simp) (.cells #[.int .i64 1] 3); have hO := ints_C (W := (w2.alloc (Obj.cells #[.slice A5 3 c5] 31)).alloc (Obj.cells #[.int .i64 1] 3)) (b := w2.heap.size + 1) (xs := [1]) (cs := #[.int .i64 1]) (by have := heap_alloc_new (w2.alloc (Obj.cells #[.slice A5 3 c5] 31)) (Obj.cells #[.int .i64 1] 3); simpa using this) (by decide) (fun j hj => by rcases j with _ | j; rfl; simp at hj); have hA2 := eval_calls awM [1] A5 (some ⟨w2.heap.size + 1, 0, none⟩) c5 1 _ (Kd.C_below HC5.out hb3) HCC.out awM_I (by decide) (PowTab.up (HTAB.out.on (HB2.out.trans (hb3.mono HB2.out.size))) (by have := HB2.out.size; have := hb3.size; omega)) hO (by decide); rw [aw_ev] at hA2; refine hA2.mono ?_; clear hA2 hO; rintro e w3 ⟨rfl, hb4⟩; have hbx := (hb4.block w2.heap.size (by simp; omega)).trans ((Below.heap_alloc _ _ _ (by simp)).trans (heap_alloc_new w2 (.cells #[.slice A5 3 c5] 31))); have b0 := blk_cell hbx 0; have HBX := Lib.hid hbx; have HB4 := Lib.hid (HB2.out.trans ((hb3.trans (hb4.mono (by simp; omega))).mono HB2.out.size)); clear hbx hb3 hb4))
  go_ret
  exact ⟨rfl, HB4.out⟩
end Go.Proofs.YtopbjginpmdebaaDoor.K
-- the contracts of diagram's functions, in the form that the printed texts call them
namespace Go.Proofs.YtopbjginpmdebaaDoor.K
open Go.RowKit Go.Maps Go.Proofs.YtopbjginpmdebaaDoorW.PrintWords Go.Proofs.YtopbjginpmdebaaDoorW.PrintLast Go.Proofs.YtopbjginpmdebaaDoorW.PrintMore
set_option linter.unusedVariables false
set_option linter.unusedSimpArgs false
theorem ptab {w W : World} (h : PowTab w.heap.size w) (hb : Below w.heap.size w W) : PowTab W.heap.size W := PowTab.up (h.on hb) hb.size
/-- nodes whose numbers and lengths are a machine's -/
def ndOk (l : List Nd) : Bool := l.all (fun n => decide (-9223372036854775808 ≤ n.f0 ∧ n.f0 ≤ 9223372036854775807 ∧ -9223372036854775808 ≤ n.f1 ∧ n.f1 ≤ 9223372036854775807 ∧ n.f2.length ≤ 1073741824)) && decide ((l.length + 1) * 40 ≤ 140737488355328)
theorem ndOk_I {l : List Nd} (h : ndOk l = true) : ∀ n ∈ l, I64 n.f0 ∧ I64 n.f1 ∧ n.f2.length ≤ 1073741824 := by
  unfold ndOk at h
  rw [Bool.and_eq_true, List.all_eq_true] at h
  intro n hn
  have := of_decide_eq_true (h.1 n hn)
  exact ⟨⟨by omega, by omega⟩, ⟨by omega, by omega⟩, this.2.2.2.2⟩
theorem ndOk_room {l : List Nd} (h : ndOk l = true) : (l.length + 1) * 40 ≤ 140737488355328 := by
  unfold ndOk at h
  rw [Bool.and_eq_true] at h
  exact of_decide_eq_true h.2
theorem V_of_R {w w' : World} {vo : Value} {l : List Nd} (h : k60.R 60 w' w.heap.size (fun _ => True) vo l) : Kd.V k60 60 w' w.heap.size (fun k_ => (w.heap.size ≤ k_)) vo l :=
  Kd.R_V (Kd.R_mono (Kd.R_bound h) (fun k hk => hk.2.1))
def diagram_Reduce.f (l : List S60) : Option (List S60 × Int) := if ndOk l = true then some (redL l, redE l) else none
theorem diagram_Reduce.calls (A : Option Addr) (c : Nat) (l : List S60) (r1 : List S60) (r2 : Int) (w : World) (hr : Kd.C k60 w A l.length l) (hc : l.length ≤ c) (h : diagram_Reduce.f l = some (r1, r2)) (htab : PowTab w.heap.size w) :
    Calls Tryd.prog 19 #[.slice A l.length c] w fun e w' => ∃ v0_ : Value, e = .returned (.tuple #[.agg #[v0_], .int .i64 r2]) ∧ Kd.V k60 60 w' w.heap.size (fun k_ => (w.heap.size ≤ k_)) v0_ r1 ∧ Below w.heap.size w w' := by
  unfold diagram_Reduce.f at h
  by_cases hk : ndOk l = true
  · rw [if_pos hk] at h
    simp only [Option.some.injEq, Prod.mk.injEq] at h
    obtain ⟨rfl, rfl⟩ := h
    exact (reduce_calls l A c w hr hc (ndOk_I hk) (ndOk_room hk) htab).mono fun e w' ⟨hb, vo, he, hR⟩ => ⟨vo, he, V_of_R hR, hb⟩
  · rw [if_neg hk] at h; cases h
def diagram_Validate.f (l : List S60) : Option Int := if ndOk l = true then some (valE l) else none
theorem diagram_Validate.calls (A : Option Addr) (c : Nat) (l : List S60) (r : Int) (w : World) (hr : Kd.C k60 w A l.length l) (hc : l.length ≤ c) (h : diagram_Validate.f l = some r) (htab : PowTab w.heap.size w) :
    Calls Tryd.prog 21 #[.agg #[.slice A l.length c]] w fun e w' => e = .returned (.int .i64 r) ∧ Below w.heap.size w w' := by
  unfold diagram_Validate.f at h
  by_cases hk : ndOk l = true
  · rw [if_pos hk] at h
    obtain rfl := Option.some.inj h
    exact validate_calls l A c w hr hc (ndOk_I hk) (ndOk_room hk) htab (fun n hn => Nat.le_trans (redL_kids16 l n hn) (by decide))
  · rw [if_neg hk] at h; cases h
def diagram_Eval.f (l : List S60) (o : List Int) : Option (Int × Int) := if ndOk l = true then (if o.length ≤ 4000000000000 then some (evR l o) else none) else none
theorem diagram_Eval.calls (A : Option Addr) (c : Nat) (l : List S60) (Ao : Option Addr) (co : Nat) (o : List Int) (r1 r2 : Int) (w : World) (hr : Kd.C k60 w A l.length l) (hc : l.length ≤ c) (hro : (Kd.int .i64).C w Ao o.length o) (hco : o.length ≤ co) (h : diagram_Eval.f l o = some (r1, r2)) (htab : PowTab w.heap.size w) :
    Calls Tryd.prog 26 #[.agg #[.slice A l.length c], .slice Ao o.length co] w fun e w' => e = .returned (.tuple #[.int .i64 r1, .int .i64 r2]) ∧ Below w.heap.size w w' := by
  unfold diagram_Eval.f at h
  by_cases hk : ndOk l = true
  · rw [if_pos hk] at h
    by_cases ho : o.length ≤ 4000000000000
    · rw [if_pos ho] at h
      have h := Option.some.inj h
      have h1 : (evR l o).1 = r1 := by rw [h]
      have h2 : (evR l o).2 = r2 := by rw [h]
      rw [← h1, ← h2]
      exact eval_calls l o A Ao c co w hr hc (ndOk_I hk) (ndOk_room hk) htab hro ho
    · rw [if_neg ho] at h; cases h
  · rw [if_neg hk] at h; cases h
def exactppllaw19_awake.f : Option Bool := some true
theorem exactppllaw19_awake.calls (r : Bool) (w : World) (h : exactppllaw19_awake.f = some r) (htab : PowTab w.heap.size w) : Calls Tryd.prog 17 #[] w fun e w' => e = .returned (.bool r) ∧ Below w.heap.size w w' := by
  obtain rfl := Option.some.inj h
  exact awake_calls w htab
end Go.Proofs.YtopbjginpmdebaaDoor.K
namespace Go.Proofs.YtopbjginpmdebaaDoor.K
open Go.RowKit Go.Proofs.YtopbjginpmdebaaDoorW.PrintWords Go.Proofs.YtopbjginpmdebaaDoorW.PrintLast Go.Proofs.YtopbjginpmdebaaDoorW.PrintMore
attribute [local go_sem] max2_int min2_int max_two min_two max_three min_three max_four min_four   -- for this text's walks alone
set_option linter.unusedVariables false
set_option linter.unusedSimpArgs false

/-! ### exactppllaw19_DiagramSettles: function 5 -/
def exactppllaw19_DiagramSettles.f (k : Nat) (l0 : List Int) : Option (Bool) := (exactpplmake_New.f l0).bind fun bt308 => ((exactpplmake_Src_Nodes.f k bt308.1 bt308.2.1 bt308.2.2).bind fun bt312 => ((diagram_Reduce.f bt312.1).bind fun bt317 => (if bt317.2 = 0 then ((diagram_Reduce.f bt317.1).bind fun bt323 => (if bt323.2 = 0 then ((exactpplref19_Same.f k bt323.1 bt317.1).bind fun t328 => (if t328 = true then ((diagram_Validate.f bt317.1).bind fun t329 => (if t329 = 0 then ((exactppllaw19_awake.f).bind fun t330 => (some t330)) else (some false))) else (some false))) else (some false))) else (if (bt317.1.length : Int) = 0 then ((exactppllaw19_awake.f).bind fun t322 => (some t322)) else (some false)))))
theorem exactppllaw19_DiagramSettles.mono : ∀ a0 k, LeO (exactppllaw19_DiagramSettles.f k a0) (exactppllaw19_DiagramSettles.f (k + 1) a0) := by
  intro a0 k
  unfold exactppllaw19_DiagramSettles.f
  repeat' first
      | (with_reducible exact exactpplmake_Src_Nodes.mono _ _ _ _)
      | (with_reducible exact exactpplref19_Same.mono _ _ _)
      | (with_reducible exact LeO.refl _)
      | (with_reducible exact LeO.none _)
      | (with_reducible refine LeO.ite ?_ ?_)
      | (with_reducible refine LeO.bind ?_ (fun _ => ?_))
      | exact exactpplmake_Src_Nodes.mono _ _ _ _
      | exact exactpplref19_Same.mono _ _ _
      | exact LeO.none _
      | refine LeO.ite ?_ ?_
      | refine LeO.bind ?_ (fun _ => ?_)
set_option maxHeartbeats 8000000 in
set_option maxRecDepth 100000 in
theorem exactppllaw19_DiagramSettles.calls (k : Nat) (A0 : Option Addr) (c0 : Nat) (l0 : List Int) (r : Bool) (w : World) (hr0 : Kd.C (Kd.int .i64) w A0 l0.length l0) (hc0 : l0.length ≤ c0) (h : exactppllaw19_DiagramSettles.f k l0 = some r) (htab : PowTab w.heap.size w) :
    Calls Tryd.prog 5 #[.slice A0 l0.length c0] w fun e w' => e = .returned (.bool r) ∧ Below w.heap.size w w' := by
  have HTAB := Aside0.mk htab
  clear htab
  have hu31 := Tryd.underlying31
  have HR0 := Aside0.mk hr0
  have HC0 := Aside0.mk hc0
  clear hr0 hc0
  have HB := Aside0.mk (Below.refl w.heap.size w)
  have H : ((exactpplmake_New.f l0).bind fun bt308 => ((exactpplmake_Src_Nodes.f k bt308.1 bt308.2.1 bt308.2.2).bind fun bt312 => ((diagram_Reduce.f bt312.1).bind fun bt317 => (if bt317.2 = 0 then ((diagram_Reduce.f bt317.1).bind fun bt323 => (if bt323.2 = 0 then ((exactpplref19_Same.f k bt323.1 bt317.1).bind fun t328 => (if t328 = true then ((diagram_Validate.f bt317.1).bind fun t329 => (if t329 = 0 then ((exactppllaw19_awake.f).bind fun t330 => (some t330)) else (some false))) else (some false))) else (some false))) else (if (bt317.1.length : Int) = 0 then ((exactppllaw19_awake.f).bind fun t322 => (some t322)) else (some false)))))) = some r := h
  clear h
  replace H := Option.bind_eq_some_iff.mp H
  obtain ⟨⟨t308, t309, t310⟩, A20, H⟩ := H
  replace H : ((exactpplmake_Src_Nodes.f k t308 t309 t310).bind fun bt312 => ((diagram_Reduce.f bt312.1).bind fun bt317 => (if bt317.2 = 0 then ((diagram_Reduce.f bt317.1).bind fun bt323 => (if bt323.2 = 0 then ((exactpplref19_Same.f k bt323.1 bt317.1).bind fun t328 => (if t328 = true then ((diagram_Validate.f bt317.1).bind fun t329 => (if t329 = 0 then ((exactppllaw19_awake.f).bind fun t330 => (some t330)) else (some false))) else (some false))) else (some false))) else (if (bt317.1.length : Int) = 0 then ((exactppllaw19_awake.f).bind fun t322 => (some t322)) else (some false))))) = some r := H
  have A2 := Aside0.mk A20
  clear A20
  replace H := Option.bind_eq_some_iff.mp H
  obtain ⟨⟨t312, t315, t316⟩, A30, H⟩ := H
  replace H : ((diagram_Reduce.f t312).bind fun bt317 => (if bt317.2 = 0 then ((diagram_Reduce.f bt317.1).bind fun bt323 => (if bt323.2 = 0 then ((exactpplref19_Same.f k bt323.1 bt317.1).bind fun t328 => (if t328 = true then ((diagram_Validate.f bt317.1).bind fun t329 => (if t329 = 0 then ((exactppllaw19_awake.f).bind fun t330 => (some t330)) else (some false))) else (some false))) else (some false))) else (if (bt317.1.length : Int) = 0 then ((exactppllaw19_awake.f).bind fun t322 => (some t322)) else (some false)))) = some r := H
  have A3 := Aside0.mk A30
  clear A30
  replace H := Option.bind_eq_some_iff.mp H
  obtain ⟨⟨t317, t320⟩, A40, H⟩ := H
  replace H : (if t320 = 0 then ((diagram_Reduce.f t317).bind fun bt323 => (if bt323.2 = 0 then ((exactpplref19_Same.f k bt323.1 t317).bind fun t328 => (if t328 = true then ((diagram_Validate.f t317).bind fun t329 => (if t329 = 0 then ((exactppllaw19_awake.f).bind fun t330 => (some t330)) else (some false))) else (some false))) else (some false))) else (if (t317.length : Int) = 0 then ((exactppllaw19_awake.f).bind fun t322 => (some t322)) else (some false))) = some r := H
  have A4 := Aside0.mk A40
  clear A40
  by_cases c5 : t320 = 0
  · rw [if_pos c5] at H
    have c5b0 : (t320 == 0) = true := beq_iff_eq.mpr c5
    have c5b1 : (t320 != 0) = false := bne_eq_false_iff_eq.mpr c5
    clear c5
    replace H := Option.bind_eq_some_iff.mp H
    obtain ⟨⟨t323, t326⟩, A60, H⟩ := H
    replace H : (if t326 = 0 then ((exactpplref19_Same.f k t323 t317).bind fun t328 => (if t328 = true then ((diagram_Validate.f t317).bind fun t329 => (if t329 = 0 then ((exactppllaw19_awake.f).bind fun t330 => (some t330)) else (some false))) else (some false))) else (some false)) = some r := H
    have A6 := Aside0.mk A60
    clear A60
    by_cases c7 : t326 = 0
    · rw [if_pos c7] at H
      have c7b0 : (t326 == 0) = true := beq_iff_eq.mpr c7
      have c7b1 : (t326 != 0) = false := bne_eq_false_iff_eq.mpr c7
      clear c7
      replace H := Option.bind_eq_some_iff.mp H
      obtain ⟨t328, A80, H⟩ := H
      replace H : (if t328 = true then ((diagram_Validate.f t317).bind fun t329 => (if t329 = 0 then ((exactppllaw19_awake.f).bind fun t330 => (some t330)) else (some false))) else (some false)) = some r := H
      have A8 := Aside0.mk A80
      clear A80
      by_cases c9 : t328 = true
      · subst c9
        have H1 : ((diagram_Validate.f t317).bind fun t329 => (if t329 = 0 then ((exactppllaw19_awake.f).bind fun t330 => (some t330)) else (some false))) = some r := by rw [if_pos rfl] at H; exact H
        clear H
        have H := H1
        clear H1
        replace H := Option.bind_eq_some_iff.mp H
        obtain ⟨t329, A100, H⟩ := H
        replace H : (if t329 = 0 then ((exactppllaw19_awake.f).bind fun t330 => (some t330)) else (some false)) = some r := H
        have A10 := Aside0.mk A100
        clear A100
        by_cases c11 : t329 = 0
        · rw [if_pos c11] at H
          have c11b0 : (t329 == 0) = true := beq_iff_eq.mpr c11
          have c11b1 : (t329 != 0) = false := bne_eq_false_iff_eq.mpr c11
          clear c11
          replace H := Option.bind_eq_some_iff.mp H
          obtain ⟨t330, A120, H⟩ := H
          replace H : (some t330) = some r := H
          have A12 := Aside0.mk A120
          clear A120
          obtain rfl := Option.some.inj H
          go_enter Tryd.func5, Tryd.ntmps5
          go_wp2_with (first | ((with_reducible refine gate_callee (f := 15) rfl ?_); refine goesL_ (some 9) rfl rfl Tryd.func15 (by kernel_rfl) rfl #[.slice A0 l0.length c0] rfl (by (try simp only [List.map_toArray, List.map_cons, List.map_nil]); first | done | rfl | (simp only [List.length_drop, List.length_take]; rfl)) ?_; (with_reducible refine (exactpplmake_New.calls _ _ l0 t308 t309 t310 w _ ?side1 ?side2 ?side3 A2.out).mono ?_); (case side1 => repeat (first | (with_reducible first | exact HB.out | apply below_alloc | apply pw_below_drewN | apply below_drew1) | exact HB.out)); (case side2 => exact HR0.out); (case side3 => exact HC0.out); rintro e w13 ⟨g311, rfl, hi, hb, hb2⟩; refine ⟨_, rfl, ?_⟩; have n0_ := Aside0.mk (hb); have n1_ := Aside0.mk (hi); clear HB; have HB := n0_; have HI311 := n1_; clear n0_ n1_; (try clear hb); (try clear hb2); (try clear hk); (try clear hi)) | ((with_reducible refine gate_callee (f := 16) rfl ?_); refine goesL_ (some 10) rfl rfl Tryd.func16 (by kernel_rfl) rfl #[.pointer (some ⟨g311, 0, none⟩)] rfl (by (try simp only [List.map_toArray, List.map_cons, List.map_nil]); first | done | rfl | (simp only [List.length_drop, List.length_take]; rfl)) ?_; (with_reducible refine (exactpplmake_Src_Nodes.calls k g311 t308 t309 t310 t312 t315 t316 w _ ?side1 ?side2 A3.out).mono ?_); (case side1 => repeat (first | (with_reducible first | exact HI311.out | apply IsS58.alloc | apply IsS58.drewN | apply IsS58.drew | apply IsS58.set_1 | apply IsS58.set_2) | exact HI311.out)); (case side2 => repeat (first | (with_reducible first | exact HB.out | apply below_alloc | apply pw_below_drewN | apply below_drew1 | refine below_set ?_ (IsS58.ge HI311.out)) | exact HB.out)); rintro e w14 ⟨v313, rfl, ho0, hi, hb, hk⟩; refine ⟨_, rfl, ?_⟩; have n0_ := Aside0.mk (Kd.S_lower ho0 (below_size (by repeat (first | (with_reducible first | exact HB.out | apply below_alloc | apply pw_below_drewN | apply below_drew1 | refine below_set ?_ (IsS58.ge HI311.out)) | exact HB.out)))); have n1_ := Aside0.mk (hb); have n2_ := Aside0.mk (hi); clear HB; clear HI311; have HO314 := n0_; have HB := n1_; have HI311 := n2_; clear n0_ n1_ n2_; (try clear hb); (try clear hb2); (try clear hk); (try clear hi); (try clear ho0); obtain ⟨Ao15, co15, eo15⟩ := Kd.S_slice HO314.out; subst eo15) | ((with_reducible refine gate_callee (f := 19) rfl ?_); refine goesL_ (some 11) rfl rfl Tryd.func19 (by kernel_rfl) rfl #[.slice Ao15 t312.length co15] rfl (by (try simp only [List.map_toArray, List.map_cons, List.map_nil]); first | done | rfl | (simp only [List.length_drop, List.length_take]; rfl)) ?_; (with_reducible refine (diagram_Reduce.calls _ _ t312 t317 t320 _ ?side1 ?side2 A4.out ?tab).mono ?_); (case tab => exact ptab HTAB.out (by repeat (first | (with_reducible first | exact HB.out | apply below_alloc | apply pw_below_drewN | apply below_drew1 | refine below_set ?_ (IsS58.ge HI311.out)) | exact HB.out))); (case side1 => repeat (first | exact (Kd.S_reads' HO314.out).2.2 | (with_reducible refine Kd.C_alloc ?_ _) | (with_reducible refine Kd.C_drewN ?_ _) | (with_reducible refine Kd.C_drew ?_))); (case side2 => exact (Kd.S_reads' HO314.out).2.1); rintro e w16 ⟨v318, rfl, ho0, hb⟩; refine ⟨_, rfl, ?_⟩; have n0_ := Aside0.mk (Kd.S_below (by (with_reducible repeat (first | apply Kd.S_alloc | apply Kd.S_drewN | apply Kd.S_drew)); exact HO314.out) hb); have n1_ := Aside0.mk (Kd.V_lower (Kd.V_mono (ok' := fun k_ => some k_ ≠ (.slice Ao15 t312.length co15 : Value).ownBlock ∧ k_ ≠ g311) ho0 (fun k_ hk_ => ⟨(Kd.fresh' (Kd.S_lt (by (with_reducible repeat (first | apply Kd.S_alloc | apply Kd.S_drewN | apply Kd.S_drew)); exact HO314.out)) k_ hk_), (IsS58.fresh (by repeat (first | (with_reducible first | exact HI311.out | apply IsS58.alloc | apply IsS58.drewN | apply IsS58.drew | apply IsS58.set_1 | apply IsS58.set_2) | exact HI311.out)) k_ hk_)⟩)) (below_size (by repeat (first | (with_reducible first | exact HB.out | apply below_alloc | apply pw_below_drewN | apply below_drew1 | refine below_set ?_ (IsS58.ge HI311.out)) | exact HB.out)))); have n2_ := Aside0.mk (IsS58.below (by repeat (first | (with_reducible first | exact HI311.out | apply IsS58.alloc | apply IsS58.drewN | apply IsS58.drew | apply IsS58.set_1 | apply IsS58.set_2) | exact HI311.out)) hb); have n3_ := Aside0.mk (below_step (by repeat (first | (with_reducible first | exact HB.out | apply below_alloc | apply pw_below_drewN | apply below_drew1 | refine below_set ?_ (IsS58.ge HI311.out)) | exact HB.out)) hb); clear HO314; clear HI311; clear HB; have HO314 := n0_; have HO319 := n1_; have HI311 := n2_; have HB := n3_; clear n0_ n1_ n2_ n3_; (try clear hb); (try clear hb2); (try clear hk); (try clear hi); (try clear ho0)) | ((with_reducible refine gate_dst (N := 3) rfl ?_); refine box_event ?hg (N := 3) ?hd (cs := #[.slice none 0 0]) (t := 31) ?hr ?_; (case hd => rfl); (case hg => rfl); (case hr => first | (go_simp; done) | (go_simp; rfl)); intro gb321 hg w17 hbox hb; have n0_ := Aside0.mk (Kd.S_below (by (with_reducible repeat (first | apply Kd.S_alloc | apply Kd.S_drewN | apply Kd.S_drew)); exact HO314.out) hb); have n1_ := Aside0.mk (Kd.V_below (Kd.V_elderB (by (with_reducible repeat (first | apply Kd.V_alloc | apply Kd.V_drewN | apply Kd.V_drew)); exact HO319.out) gb321 (Nat.le_of_eq hg.symm)) hb); have n2_ := Aside0.mk (IsS58.below (by repeat (first | (with_reducible first | exact HI311.out | apply IsS58.alloc | apply IsS58.drewN | apply IsS58.drew | apply IsS58.set_1 | apply IsS58.set_2) | exact HI311.out)) hb); have n3_ := Aside0.mk (below_step (by repeat (first | (with_reducible first | exact HB.out | apply below_alloc | apply pw_below_drewN | apply below_drew1 | refine below_set ?_ (IsS58.ge HI311.out)) | exact HB.out)) hb); have n4_ := Aside0.mk (hbox); have n5_ := Aside0.mk ((by rw [hg]; exact (below_size (by repeat (first | (with_reducible first | exact HB.out | apply below_alloc | apply pw_below_drewN | apply below_drew1 | refine below_set ?_ (IsS58.ge HI311.out)) | exact HB.out))) : w.heap.size ≤ gb321)); have n6_ := Aside0.mk ((by rw [hg]; exact (below_size (by repeat (first | (with_reducible first | exact HB.out | apply below_alloc | apply pw_below_drewN | apply below_drew1 | refine below_set ?_ (IsS58.ge HI311.out)) | exact HB.out))) : w.heap.size ≤ gb321)); have n7_ := Aside0.mk ((by rw [hg]; exact Nat.ne_of_lt (IsS58.lt (show IsS58 w _ g311 t308 t315 t316 from by repeat (first | (with_reducible first | exact HI311.out | apply IsS58.alloc | apply IsS58.drewN | apply IsS58.drew | apply IsS58.set_1 | apply IsS58.set_2) | exact HI311.out))) : g311 ≠ gb321)); have n8_ := Aside0.mk ((by rw [hg]; exact Nat.ne_of_gt (IsS58.lt (show IsS58 w _ g311 t308 t315 t316 from by repeat (first | (with_reducible first | exact HI311.out | apply IsS58.alloc | apply IsS58.drewN | apply IsS58.drew | apply IsS58.set_1 | apply IsS58.set_2) | exact HI311.out))) : gb321 ≠ g311)); clear HO314; clear HO319; clear HI311; clear HB; have HO314 := n0_; have HO319 := n1_; have HI311 := n2_; have HB := n3_; have BK321 := n4_; have GW321 := n5_; have GE321 := n6_; have NB311_321 := n7_; have NB321_311 := n8_; clear n0_ n1_ n2_ n3_ n4_ n5_ n6_ n7_ n8_; clear hb hbox hg; obtain ⟨Ao18, co18, eo18⟩ := Kd.V_slice HO319.out; subst eo18; have hnb19 := NB321_311.out; have hnc19 := NB311_321.out; have hcz20_0 : w17.cell? ⟨gb321, 0, none⟩ = some (.slice none 0 0) := (blk_cell BK321.out 0).trans rfl; have hfz20_0 := blk_frozen BK321.out 0) | ((with_reducible refine gate_callee (f := 19) rfl ?_); refine goesL_ (some 26) rfl rfl Tryd.func19 (by kernel_rfl) rfl #[.slice Ao18 t317.length co18] rfl (by (try simp only [List.map_toArray, List.map_cons, List.map_nil]); first | done | rfl | (simp only [List.length_drop, List.length_take]; rfl)) ?_; (with_reducible refine (diagram_Reduce.calls _ _ t317 t323 t326 _ ?side1 ?side2 A6.out ?tab).mono ?_); (case tab => exact ptab HTAB.out (by repeat (first | (with_reducible first | exact HB.out | apply below_alloc | apply pw_below_drewN | apply below_drew1 | refine below_set ?_ (IsS58.ge HI311.out) | refine below_set ?_ GE321.out) | exact HB.out))); (case side1 => refine (Kd.V_reads' (e := 60) (base := w.heap.size) (ok := fun k_ => ((some k_ ≠ (.slice Ao15 t312.length co15 : Value).ownBlock ∧ k_ ≠ g311) ∧ k_ ≠ gb321)) (n := t317.length) (c := co18) ?_).2.2; exact (by (with_reducible repeat (first | apply Kd.V_alloc | apply Kd.V_drewN | apply Kd.V_drew)); exact (Kd.V_mono (Kd.V_far (p := ⟨gb321, 0, none⟩) (Kd.V_mono HO319.out (fun k_ hk => (⟨hk, by first | exact hk.2 | exact hk.1 | exact hk.2 | exact hk.1.1 | exact hk.1.2⟩ : _ ∧ k_ ≠ gb321))) (fun _ hk => hk.2) (.slice Ao18 t317.length co18)) (fun _ h_ => h_.1)))); (case side2 => exact (Kd.V_reads' HO319.out).2.1); rintro e w21 ⟨v324, rfl, ho0, hb⟩; refine ⟨_, rfl, ?_⟩; have n0_ := Aside0.mk (Kd.S_below (by (with_reducible repeat (first | apply Kd.S_alloc | apply Kd.S_drewN | apply Kd.S_drew)); exact (Kd.S_mono (Kd.S_far (p := ⟨gb321, 0, none⟩) (Kd.S_types HO314.out BK321.out (by decide)) (fun _ hk => hk.2) (.slice Ao18 t317.length co18)) (fun _ h_ => h_.1))) hb); have n1_ := Aside0.mk (Kd.V_below (by (with_reducible repeat (first | apply Kd.V_alloc | apply Kd.V_drewN | apply Kd.V_drew)); exact (Kd.V_mono (Kd.V_far (p := ⟨gb321, 0, none⟩) (Kd.V_mono HO319.out (fun k_ hk => (⟨hk, by first | exact hk.2 | exact hk.1 | exact hk.2 | exact hk.1.1 | exact hk.1.2⟩ : _ ∧ k_ ≠ gb321))) (fun _ hk => hk.2) (.slice Ao18 t317.length co18)) (fun _ h_ => h_.1))) hb); have n2_ := Aside0.mk (Kd.V_lower (Kd.V_mono (ok' := fun k_ => some k_ ≠ (.slice Ao15 t312.length co15 : Value).ownBlock ∧ k_ ≠ gb321 ∧ k_ ≠ g311) ho0 (fun k_ hk_ => ⟨(Kd.fresh' (Kd.S_lt (by (with_reducible repeat (first | apply Kd.S_alloc | apply Kd.S_drewN | apply Kd.S_drew)); exact (Kd.S_mono (Kd.S_far (p := ⟨gb321, 0, none⟩) (Kd.S_types HO314.out BK321.out (by decide)) (fun _ hk => hk.2) (.slice Ao18 t317.length co18)) (fun _ h_ => h_.1)))) k_ hk_), (Kd.freshB (g := gb321) (o := .cells #[.slice Ao18 t317.length co18] 31 (0, 0)) (by (with_reducible repeat (first | refine blk_drewN ?_ _ | refine blk_drew ?_ | refine blk_alloc ?_ _)); refine blk_put (cs := #[.slice none 0 0]) ?_ 0 _ rfl; (with_reducible repeat (first | refine blk_drewN ?_ _ | refine blk_drew ?_ | refine blk_alloc ?_ _)); exact BK321.out) k_ hk_), (IsS58.fresh (by repeat (first | (with_reducible first | exact HI311.out | apply IsS58.alloc | apply IsS58.drewN | apply IsS58.drew | apply IsS58.set_1 | apply IsS58.set_2 | refine IsS58.far ?_ NB311_321.out _) | exact HI311.out)) k_ hk_)⟩)) (below_size (by repeat (first | (with_reducible first | exact HB.out | apply below_alloc | apply pw_below_drewN | apply below_drew1 | refine below_set ?_ (IsS58.ge HI311.out) | refine below_set ?_ GE321.out) | exact HB.out)))); have n3_ := Aside0.mk (IsS58.below (show IsS58 w (w17.setCell ⟨gb321, 0, none⟩ (.slice Ao18 t317.length co18)) g311 t308 t315 t316 from by repeat (first | (with_reducible first | exact HI311.out | apply IsS58.alloc | apply IsS58.drewN | apply IsS58.drew | apply IsS58.set_1 | apply IsS58.set_2 | refine IsS58.far ?_ NB311_321.out _) | exact HI311.out)) hb); have n4_ := Aside0.mk (blk_below (g := gb321) (o := .cells #[.slice Ao18 t317.length co18] 31 (0, 0)) (by (with_reducible repeat (first | refine blk_drewN ?_ _ | refine blk_drew ?_ | refine blk_alloc ?_ _)); refine blk_put (cs := #[.slice none 0 0]) ?_ 0 _ rfl; (with_reducible repeat (first | refine blk_drewN ?_ _ | refine blk_drew ?_ | refine blk_alloc ?_ _)); exact BK321.out) hb); have n5_ := Aside0.mk (below_step (by repeat (first | (with_reducible first | exact HB.out | apply below_alloc | apply pw_below_drewN | apply below_drew1 | refine below_set ?_ (IsS58.ge HI311.out) | refine below_set ?_ GE321.out) | exact HB.out)) hb); clear HO314; clear HO319; clear HI311; clear BK321; clear HB; have HO314 := n0_; have HO319 := n1_; have HO325 := n2_; have HI311 := n3_; have BK321 := n4_; have HB := n5_; clear n0_ n1_ n2_ n3_ n4_ n5_; (try clear hb); (try clear hb2); (try clear hk); (try clear hi); (try clear ho0)) | ((with_reducible refine gate_dst (N := 5) rfl ?_); refine box_event ?hg (N := 5) ?hd (cs := #[.slice none 0 0]) (t := 31) ?hr ?_; (case hd => rfl); (case hg => rfl); (case hr => first | (go_simp; done) | (go_simp; rfl)); intro gb327 hg w22 hbox hb; have n0_ := Aside0.mk (Kd.S_below (by (with_reducible repeat (first | apply Kd.S_alloc | apply Kd.S_drewN | apply Kd.S_drew)); exact HO314.out) hb); have n1_ := Aside0.mk (Kd.V_below (Kd.V_elderB (by (with_reducible repeat (first | apply Kd.V_alloc | apply Kd.V_drewN | apply Kd.V_drew)); exact HO319.out) gb327 (Nat.le_of_eq hg.symm)) hb); have n2_ := Aside0.mk (Kd.V_below (Kd.V_elderB (by (with_reducible repeat (first | apply Kd.V_alloc | apply Kd.V_drewN | apply Kd.V_drew)); exact HO325.out) gb327 (Nat.le_of_eq hg.symm)) hb); have n3_ := Aside0.mk (IsS58.below (by repeat (first | (with_reducible first | exact HI311.out | apply IsS58.alloc | apply IsS58.drewN | apply IsS58.drew | apply IsS58.set_1 | apply IsS58.set_2 | refine IsS58.far ?_ NB311_321.out _) | exact HI311.out)) hb); have n4_ := Aside0.mk (blk_below (g := gb321) (o := .cells #[.slice Ao18 t317.length co18] 31 (0, 0)) (by (with_reducible repeat (first | refine blk_drewN ?_ _ | refine blk_drew ?_ | refine blk_alloc ?_ _)); exact BK321.out) hb); have n5_ := Aside0.mk (below_step (by repeat (first | (with_reducible first | exact HB.out | apply below_alloc | apply pw_below_drewN | apply below_drew1 | refine below_set ?_ (IsS58.ge HI311.out) | refine below_set ?_ GE321.out) | exact HB.out)) hb); have n6_ := Aside0.mk (hbox); have n7_ := Aside0.mk ((by rw [hg]; exact (below_size (by repeat (first | (with_reducible first | exact HB.out | apply below_alloc | apply pw_below_drewN | apply below_drew1 | refine below_set ?_ (IsS58.ge HI311.out) | refine below_set ?_ GE321.out) | exact HB.out))) : w.heap.size ≤ gb327)); have n8_ := Aside0.mk ((by rw [hg]; exact (below_size (by repeat (first | (with_reducible first | exact HB.out | apply below_alloc | apply pw_below_drewN | apply below_drew1 | refine below_set ?_ (IsS58.ge HI311.out) | refine below_set ?_ GE321.out) | exact HB.out))) : w.heap.size ≤ gb327)); have n9_ := Aside0.mk ((by rw [hg]; exact Nat.ne_of_lt (blk_lt (g := gb321) (o := .cells #[.slice Ao18 t317.length co18] 31 (0, 0)) (by (with_reducible repeat (first | refine blk_drewN ?_ _ | refine blk_drew ?_ | refine blk_alloc ?_ _)); exact BK321.out)) : gb321 ≠ gb327)); have n10_ := Aside0.mk ((by rw [hg]; exact Nat.ne_of_gt (blk_lt (g := gb321) (o := .cells #[.slice Ao18 t317.length co18] 31 (0, 0)) (by (with_reducible repeat (first | refine blk_drewN ?_ _ | refine blk_drew ?_ | refine blk_alloc ?_ _)); exact BK321.out)) : gb327 ≠ gb321)); have n11_ := Aside0.mk ((by rw [hg]; exact Nat.ne_of_lt (IsS58.lt (show IsS58 w _ g311 t308 t315 t316 from by repeat (first | (with_reducible first | exact HI311.out | apply IsS58.alloc | apply IsS58.drewN | apply IsS58.drew | apply IsS58.set_1 | apply IsS58.set_2 | refine IsS58.far ?_ NB311_321.out _) | exact HI311.out))) : g311 ≠ gb327)); have n12_ := Aside0.mk ((by rw [hg]; exact Nat.ne_of_gt (IsS58.lt (show IsS58 w _ g311 t308 t315 t316 from by repeat (first | (with_reducible first | exact HI311.out | apply IsS58.alloc | apply IsS58.drewN | apply IsS58.drew | apply IsS58.set_1 | apply IsS58.set_2 | refine IsS58.far ?_ NB311_321.out _) | exact HI311.out))) : gb327 ≠ g311)); clear HO314; clear HO319; clear HO325; clear HI311; clear BK321; clear HB; have HO314 := n0_; have HO319 := n1_; have HO325 := n2_; have HI311 := n3_; have BK321 := n4_; have HB := n5_; have BK327 := n6_; have GW327 := n7_; have GE327 := n8_; have NB321_327 := n9_; have NB327_321 := n10_; have NB311_327 := n11_; have NB327_311 := n12_; clear n0_ n1_ n2_ n3_ n4_ n5_ n6_ n7_ n8_ n9_ n10_ n11_ n12_; clear hb hbox hg; obtain ⟨Ao23, co23, eo23⟩ := Kd.V_slice HO325.out; subst eo23; have hnb24 := NB327_321.out; have hnc24 := NB321_327.out; have hnb25 := NB327_311.out; have hnc25 := NB311_327.out; have hcz26_0 : w22.cell? ⟨gb327, 0, none⟩ = some (.slice none 0 0) := (blk_cell BK327.out 0).trans rfl; have hfz26_0 := blk_frozen BK327.out 0; have hcz27_0 : w22.cell? ⟨gb321, 0, none⟩ = some (.slice Ao18 t317.length co18) := (blk_cell BK321.out 0).trans rfl; have hfz27_0 := blk_frozen BK321.out 0) | (go_at_call 20; (with_reducible refine (exactpplref19_Same.calls k _ _ t323 _ _ t317 true _ ?side1 ?side2 ?side3 ?side4 A8.out).mono ?_); (case side1 => refine (Kd.V_reads' (e := 60) (base := w.heap.size) (ok := fun k_ => ((some k_ ≠ (.slice Ao15 t312.length co15 : Value).ownBlock ∧ (k_ ≠ gb321 ∧ k_ ≠ g311)) ∧ k_ ≠ gb327)) (n := t323.length) (c := co23) ?_).2.2; exact (by (with_reducible repeat (first | apply Kd.V_alloc | apply Kd.V_drewN | apply Kd.V_drew)); exact (Kd.V_mono (Kd.V_far (p := ⟨gb327, 0, none⟩) (Kd.V_mono HO325.out (fun k_ hk => (⟨hk, by first | exact hk.2 | exact hk.1 | exact hk.2 | exact hk.1.1 | exact hk.1.2⟩ : _ ∧ k_ ≠ gb327))) (fun _ hk => hk.2) (.slice Ao23 t323.length co23)) (fun _ h_ => h_.1)))); (case side2 => exact (Kd.V_reads' HO325.out).2.1); (case side3 => refine (Kd.V_reads' (e := 60) (base := w.heap.size) (ok := fun k_ => (((some k_ ≠ (.slice Ao15 t312.length co15 : Value).ownBlock ∧ k_ ≠ g311) ∧ k_ ≠ gb321) ∧ k_ ≠ gb327)) (n := t317.length) (c := co18) ?_).2.2; exact (by (with_reducible repeat (first | apply Kd.V_alloc | apply Kd.V_drewN | apply Kd.V_drew)); exact (Kd.V_mono (Kd.V_far (p := ⟨gb327, 0, none⟩) (Kd.V_mono HO319.out (fun k_ hk => (⟨hk, by first | exact hk.2 | exact hk.1 | exact hk.2 | exact hk.1.1 | exact hk.1.2⟩ : _ ∧ k_ ≠ gb327))) (fun _ hk => hk.2) (.slice Ao23 t323.length co23)) (fun _ h_ => h_.1)))); (case side4 => exact (Kd.V_reads' HO319.out).2.1); rintro e w28 ⟨rfl, hb⟩; have n0_ := Aside0.mk (Kd.S_below (by (with_reducible repeat (first | apply Kd.S_alloc | apply Kd.S_drewN | apply Kd.S_drew)); exact (Kd.S_mono (Kd.S_far (p := ⟨gb327, 0, none⟩) (Kd.S_types HO314.out BK327.out (by decide)) (fun _ hk => hk.2) (.slice Ao23 t323.length co23)) (fun _ h_ => h_.1))) hb); have n1_ := Aside0.mk (Kd.V_below (by (with_reducible repeat (first | apply Kd.V_alloc | apply Kd.V_drewN | apply Kd.V_drew)); exact (Kd.V_mono (Kd.V_far (p := ⟨gb327, 0, none⟩) (Kd.V_mono HO319.out (fun k_ hk => (⟨hk, by first | exact hk.2 | exact hk.1 | exact hk.2 | exact hk.1.1 | exact hk.1.2⟩ : _ ∧ k_ ≠ gb327))) (fun _ hk => hk.2) (.slice Ao23 t323.length co23)) (fun _ h_ => h_.1))) hb); have n2_ := Aside0.mk (Kd.V_below (by (with_reducible repeat (first | apply Kd.V_alloc | apply Kd.V_drewN | apply Kd.V_drew)); exact (Kd.V_mono (Kd.V_far (p := ⟨gb327, 0, none⟩) (Kd.V_mono HO325.out (fun k_ hk => (⟨hk, by first | exact hk.2 | exact hk.1 | exact hk.2 | exact hk.1.1 | exact hk.1.2⟩ : _ ∧ k_ ≠ gb327))) (fun _ hk => hk.2) (.slice Ao23 t323.length co23)) (fun _ h_ => h_.1))) hb); have n3_ := Aside0.mk (IsS58.below (show IsS58 w (w22.setCell ⟨gb327, 0, none⟩ (.slice Ao23 t323.length co23)) g311 t308 t315 t316 from by repeat (first | (with_reducible first | exact HI311.out | apply IsS58.alloc | apply IsS58.drewN | apply IsS58.drew | apply IsS58.set_1 | apply IsS58.set_2 | refine IsS58.far ?_ NB311_321.out _ | refine IsS58.far ?_ NB311_327.out _) | exact HI311.out)) hb); have n4_ := Aside0.mk (blk_below (g := gb321) (o := .cells #[.slice Ao18 t317.length co18] 31 (0, 0)) (by (with_reducible repeat (first | refine blk_drewN ?_ _ | refine blk_drew ?_ | refine blk_alloc ?_ _)); refine blk_far ?_ NB321_327.out _; (with_reducible repeat (first | refine blk_drewN ?_ _ | refine blk_drew ?_ | refine blk_alloc ?_ _)); exact BK321.out) hb); have n5_ := Aside0.mk (blk_below (g := gb327) (o := .cells #[.slice Ao23 t323.length co23] 31 (0, 0)) (by (with_reducible repeat (first | refine blk_drewN ?_ _ | refine blk_drew ?_ | refine blk_alloc ?_ _)); refine blk_put (cs := #[.slice none 0 0]) ?_ 0 _ rfl; (with_reducible repeat (first | refine blk_drewN ?_ _ | refine blk_drew ?_ | refine blk_alloc ?_ _)); exact BK327.out) hb); have n6_ := Aside0.mk (below_step (by repeat (first | (with_reducible first | exact HB.out | apply below_alloc | apply pw_below_drewN | apply below_drew1 | refine below_set ?_ (IsS58.ge HI311.out) | refine below_set ?_ GE321.out | refine below_set ?_ GE327.out) | exact HB.out)) hb); clear HO314; clear HO319; clear HO325; clear HI311; clear BK321; clear BK327; clear HB; have HO314 := n0_; have HO319 := n1_; have HO325 := n2_; have HI311 := n3_; have BK321 := n4_; have BK327 := n5_; have HB := n6_; clear n0_ n1_ n2_ n3_ n4_ n5_ n6_; (try clear hb); (try clear hb2); (try clear hk); (try clear hi); have hcz29_0 : w28.cell? ⟨gb321, 0, none⟩ = some (.slice Ao18 t317.length co18) := (blk_cell BK321.out 0).trans rfl; have hfz29_0 := blk_frozen BK321.out 0) | (go_at_call 21; (with_reducible refine (diagram_Validate.calls _ _ t317 t329 _ ?side1 ?side2 A10.out ?tab).mono ?_); (case tab => exact ptab HTAB.out (by repeat (first | (with_reducible first | exact HB.out | apply below_alloc | apply pw_below_drewN | apply below_drew1 | refine below_set ?_ (IsS58.ge HI311.out) | refine below_set ?_ GE321.out | refine below_set ?_ GE327.out) | exact HB.out))); (case side1 => repeat (first | exact (Kd.V_reads' HO319.out).2.2 | (with_reducible refine Kd.C_alloc ?_ _) | (with_reducible refine Kd.C_drewN ?_ _) | (with_reducible refine Kd.C_drew ?_))); (case side2 => exact (Kd.V_reads' HO319.out).2.1); rintro e w30 ⟨rfl, hb⟩; have n0_ := Aside0.mk (Kd.S_below (by (with_reducible repeat (first | apply Kd.S_alloc | apply Kd.S_drewN | apply Kd.S_drew)); exact HO314.out) hb); have n1_ := Aside0.mk (Kd.V_below (by (with_reducible repeat (first | apply Kd.V_alloc | apply Kd.V_drewN | apply Kd.V_drew)); exact HO319.out) hb); have n2_ := Aside0.mk (Kd.V_below (by (with_reducible repeat (first | apply Kd.V_alloc | apply Kd.V_drewN | apply Kd.V_drew)); exact HO325.out) hb); have n3_ := Aside0.mk (IsS58.below (by repeat (first | (with_reducible first | exact HI311.out | apply IsS58.alloc | apply IsS58.drewN | apply IsS58.drew | apply IsS58.set_1 | apply IsS58.set_2 | refine IsS58.far ?_ NB311_321.out _ | refine IsS58.far ?_ NB311_327.out _) | exact HI311.out)) hb); have n4_ := Aside0.mk (blk_below (g := gb321) (o := .cells #[.slice Ao18 t317.length co18] 31 (0, 0)) (by (with_reducible repeat (first | refine blk_drewN ?_ _ | refine blk_drew ?_ | refine blk_alloc ?_ _)); exact BK321.out) hb); have n5_ := Aside0.mk (blk_below (g := gb327) (o := .cells #[.slice Ao23 t323.length co23] 31 (0, 0)) (by (with_reducible repeat (first | refine blk_drewN ?_ _ | refine blk_drew ?_ | refine blk_alloc ?_ _)); exact BK327.out) hb); have n6_ := Aside0.mk (below_step (by repeat (first | (with_reducible first | exact HB.out | apply below_alloc | apply pw_below_drewN | apply below_drew1 | refine below_set ?_ (IsS58.ge HI311.out) | refine below_set ?_ GE321.out | refine below_set ?_ GE327.out) | exact HB.out)) hb); clear HO314; clear HO319; clear HO325; clear HI311; clear BK321; clear BK327; clear HB; have HO314 := n0_; have HO319 := n1_; have HO325 := n2_; have HI311 := n3_; have BK321 := n4_; have BK327 := n5_; have HB := n6_; clear n0_ n1_ n2_ n3_ n4_ n5_ n6_; (try clear hb); (try clear hb2); (try clear hk); (try clear hi)) | (go_at_call 17; (with_reducible refine (exactppllaw19_awake.calls  t330 _ A12.out ?tab).mono ?_); (case tab => exact ptab HTAB.out (by repeat (first | (with_reducible first | exact HB.out | apply below_alloc | apply pw_below_drewN | apply below_drew1 | refine below_set ?_ (IsS58.ge HI311.out) | refine below_set ?_ GE321.out | refine below_set ?_ GE327.out) | exact HB.out))); rintro e w31 ⟨rfl, hb⟩; have n0_ := Aside0.mk (Kd.S_below (by (with_reducible repeat (first | apply Kd.S_alloc | apply Kd.S_drewN | apply Kd.S_drew)); exact HO314.out) hb); have n1_ := Aside0.mk (Kd.V_below (by (with_reducible repeat (first | apply Kd.V_alloc | apply Kd.V_drewN | apply Kd.V_drew)); exact HO319.out) hb); have n2_ := Aside0.mk (Kd.V_below (by (with_reducible repeat (first | apply Kd.V_alloc | apply Kd.V_drewN | apply Kd.V_drew)); exact HO325.out) hb); have n3_ := Aside0.mk (IsS58.below (by repeat (first | (with_reducible first | exact HI311.out | apply IsS58.alloc | apply IsS58.drewN | apply IsS58.drew | apply IsS58.set_1 | apply IsS58.set_2 | refine IsS58.far ?_ NB311_321.out _ | refine IsS58.far ?_ NB311_327.out _) | exact HI311.out)) hb); have n4_ := Aside0.mk (blk_below (g := gb321) (o := .cells #[.slice Ao18 t317.length co18] 31 (0, 0)) (by (with_reducible repeat (first | refine blk_drewN ?_ _ | refine blk_drew ?_ | refine blk_alloc ?_ _)); exact BK321.out) hb); have n5_ := Aside0.mk (blk_below (g := gb327) (o := .cells #[.slice Ao23 t323.length co23] 31 (0, 0)) (by (with_reducible repeat (first | refine blk_drewN ?_ _ | refine blk_drew ?_ | refine blk_alloc ?_ _)); exact BK327.out) hb); have n6_ := Aside0.mk (below_step (by repeat (first | (with_reducible first | exact HB.out | apply below_alloc | apply pw_below_drewN | apply below_drew1 | refine below_set ?_ (IsS58.ge HI311.out) | refine below_set ?_ GE321.out | refine below_set ?_ GE327.out) | exact HB.out)) hb); clear HO314; clear HO319; clear HO325; clear HI311; clear BK321; clear BK327; clear HB; have HO314 := n0_; have HO319 := n1_; have HO325 := n2_; have HI311 := n3_; have BK321 := n4_; have BK327 := n5_; have HB := n6_; clear n0_ n1_ n2_ n3_ n4_ n5_ n6_; (try clear hb); (try clear hb2); (try clear hk); (try clear hi)))
          go_ret
          exact ⟨by first | rfl | (simp [errW_none, errW_some] <;> rfl) | (simp [*, errW_none, errW_some] <;> rfl), by repeat (first | (with_reducible first | exact HB.out | apply below_alloc | apply pw_below_drewN | apply below_drew1 | refine below_set ?_ (IsS58.ge HI311.out) | refine below_set ?_ GE321.out | refine below_set ?_ GE327.out) | exact HB.out)⟩
        · rw [if_neg c11] at H
          have c11b0 : (t329 == 0) = false := beq_eq_false_iff_ne.mpr c11
          have c11b1 : (t329 != 0) = true := bne_iff_ne.mpr c11
          obtain rfl := Option.some.inj H
          go_enter Tryd.func5, Tryd.ntmps5
          go_wp2_with (first | ((with_reducible refine gate_callee (f := 15) rfl ?_); refine goesL_ (some 9) rfl rfl Tryd.func15 (by kernel_rfl) rfl #[.slice A0 l0.length c0] rfl (by (try simp only [List.map_toArray, List.map_cons, List.map_nil]); first | done | rfl | (simp only [List.length_drop, List.length_take]; rfl)) ?_; (with_reducible refine (exactpplmake_New.calls _ _ l0 t308 t309 t310 w _ ?side1 ?side2 ?side3 A2.out).mono ?_); (case side1 => repeat (first | (with_reducible first | exact HB.out | apply below_alloc | apply pw_below_drewN | apply below_drew1) | exact HB.out)); (case side2 => exact HR0.out); (case side3 => exact HC0.out); rintro e w32 ⟨g311, rfl, hi, hb, hb2⟩; refine ⟨_, rfl, ?_⟩; have n0_ := Aside0.mk (hb); have n1_ := Aside0.mk (hi); clear HB; have HB := n0_; have HI311 := n1_; clear n0_ n1_; (try clear hb); (try clear hb2); (try clear hk); (try clear hi)) | ((with_reducible refine gate_callee (f := 16) rfl ?_); refine goesL_ (some 10) rfl rfl Tryd.func16 (by kernel_rfl) rfl #[.pointer (some ⟨g311, 0, none⟩)] rfl (by (try simp only [List.map_toArray, List.map_cons, List.map_nil]); first | done | rfl | (simp only [List.length_drop, List.length_take]; rfl)) ?_; (with_reducible refine (exactpplmake_Src_Nodes.calls k g311 t308 t309 t310 t312 t315 t316 w _ ?side1 ?side2 A3.out).mono ?_); (case side1 => repeat (first | (with_reducible first | exact HI311.out | apply IsS58.alloc | apply IsS58.drewN | apply IsS58.drew | apply IsS58.set_1 | apply IsS58.set_2) | exact HI311.out)); (case side2 => repeat (first | (with_reducible first | exact HB.out | apply below_alloc | apply pw_below_drewN | apply below_drew1 | refine below_set ?_ (IsS58.ge HI311.out)) | exact HB.out)); rintro e w33 ⟨v313, rfl, ho0, hi, hb, hk⟩; refine ⟨_, rfl, ?_⟩; have n0_ := Aside0.mk (Kd.S_lower ho0 (below_size (by repeat (first | (with_reducible first | exact HB.out | apply below_alloc | apply pw_below_drewN | apply below_drew1 | refine below_set ?_ (IsS58.ge HI311.out)) | exact HB.out)))); have n1_ := Aside0.mk (hb); have n2_ := Aside0.mk (hi); clear HB; clear HI311; have HO314 := n0_; have HB := n1_; have HI311 := n2_; clear n0_ n1_ n2_; (try clear hb); (try clear hb2); (try clear hk); (try clear hi); (try clear ho0); obtain ⟨Ao34, co34, eo34⟩ := Kd.S_slice HO314.out; subst eo34) | ((with_reducible refine gate_callee (f := 19) rfl ?_); refine goesL_ (some 11) rfl rfl Tryd.func19 (by kernel_rfl) rfl #[.slice Ao34 t312.length co34] rfl (by (try simp only [List.map_toArray, List.map_cons, List.map_nil]); first | done | rfl | (simp only [List.length_drop, List.length_take]; rfl)) ?_; (with_reducible refine (diagram_Reduce.calls _ _ t312 t317 t320 _ ?side1 ?side2 A4.out ?tab).mono ?_); (case tab => exact ptab HTAB.out (by repeat (first | (with_reducible first | exact HB.out | apply below_alloc | apply pw_below_drewN | apply below_drew1 | refine below_set ?_ (IsS58.ge HI311.out)) | exact HB.out))); (case side1 => repeat (first | exact (Kd.S_reads' HO314.out).2.2 | (with_reducible refine Kd.C_alloc ?_ _) | (with_reducible refine Kd.C_drewN ?_ _) | (with_reducible refine Kd.C_drew ?_))); (case side2 => exact (Kd.S_reads' HO314.out).2.1); rintro e w35 ⟨v318, rfl, ho0, hb⟩; refine ⟨_, rfl, ?_⟩; have n0_ := Aside0.mk (Kd.S_below (by (with_reducible repeat (first | apply Kd.S_alloc | apply Kd.S_drewN | apply Kd.S_drew)); exact HO314.out) hb); have n1_ := Aside0.mk (Kd.V_lower (Kd.V_mono (ok' := fun k_ => some k_ ≠ (.slice Ao34 t312.length co34 : Value).ownBlock ∧ k_ ≠ g311) ho0 (fun k_ hk_ => ⟨(Kd.fresh' (Kd.S_lt (by (with_reducible repeat (first | apply Kd.S_alloc | apply Kd.S_drewN | apply Kd.S_drew)); exact HO314.out)) k_ hk_), (IsS58.fresh (by repeat (first | (with_reducible first | exact HI311.out | apply IsS58.alloc | apply IsS58.drewN | apply IsS58.drew | apply IsS58.set_1 | apply IsS58.set_2) | exact HI311.out)) k_ hk_)⟩)) (below_size (by repeat (first | (with_reducible first | exact HB.out | apply below_alloc | apply pw_below_drewN | apply below_drew1 | refine below_set ?_ (IsS58.ge HI311.out)) | exact HB.out)))); have n2_ := Aside0.mk (IsS58.below (by repeat (first | (with_reducible first | exact HI311.out | apply IsS58.alloc | apply IsS58.drewN | apply IsS58.drew | apply IsS58.set_1 | apply IsS58.set_2) | exact HI311.out)) hb); have n3_ := Aside0.mk (below_step (by repeat (first | (with_reducible first | exact HB.out | apply below_alloc | apply pw_below_drewN | apply below_drew1 | refine below_set ?_ (IsS58.ge HI311.out)) | exact HB.out)) hb); clear HO314; clear HI311; clear HB; have HO314 := n0_; have HO319 := n1_; have HI311 := n2_; have HB := n3_; clear n0_ n1_ n2_ n3_; (try clear hb); (try clear hb2); (try clear hk); (try clear hi); (try clear ho0)) | ((with_reducible refine gate_dst (N := 3) rfl ?_); refine box_event ?hg (N := 3) ?hd (cs := #[.slice none 0 0]) (t := 31) ?hr ?_; (case hd => rfl); (case hg => rfl); (case hr => first | (go_simp; done) | (go_simp; rfl)); intro gb321 hg w36 hbox hb; have n0_ := Aside0.mk (Kd.S_below (by (with_reducible repeat (first | apply Kd.S_alloc | apply Kd.S_drewN | apply Kd.S_drew)); exact HO314.out) hb); have n1_ := Aside0.mk (Kd.V_below (Kd.V_elderB (by (with_reducible repeat (first | apply Kd.V_alloc | apply Kd.V_drewN | apply Kd.V_drew)); exact HO319.out) gb321 (Nat.le_of_eq hg.symm)) hb); have n2_ := Aside0.mk (IsS58.below (by repeat (first | (with_reducible first | exact HI311.out | apply IsS58.alloc | apply IsS58.drewN | apply IsS58.drew | apply IsS58.set_1 | apply IsS58.set_2) | exact HI311.out)) hb); have n3_ := Aside0.mk (below_step (by repeat (first | (with_reducible first | exact HB.out | apply below_alloc | apply pw_below_drewN | apply below_drew1 | refine below_set ?_ (IsS58.ge HI311.out)) | exact HB.out)) hb); have n4_ := Aside0.mk (hbox); have n5_ := Aside0.mk ((by rw [hg]; exact (below_size (by repeat (first | (with_reducible first | exact HB.out | apply below_alloc | apply pw_below_drewN | apply below_drew1 | refine below_set ?_ (IsS58.ge HI311.out)) | exact HB.out))) : w.heap.size ≤ gb321)); have n6_ := Aside0.mk ((by rw [hg]; exact (below_size (by repeat (first | (with_reducible first | exact HB.out | apply below_alloc | apply pw_below_drewN | apply below_drew1 | refine below_set ?_ (IsS58.ge HI311.out)) | exact HB.out))) : w.heap.size ≤ gb321)); have n7_ := Aside0.mk ((by rw [hg]; exact Nat.ne_of_lt (IsS58.lt (show IsS58 w _ g311 t308 t315 t316 from by repeat (first | (with_reducible first | exact HI311.out | apply IsS58.alloc | apply IsS58.drewN | apply IsS58.drew | apply IsS58.set_1 | apply IsS58.set_2) | exact HI311.out))) : g311 ≠ gb321)); have n8_ := Aside0.mk ((by rw [hg]; exact Nat.ne_of_gt (IsS58.lt (show IsS58 w _ g311 t308 t315 t316 from by repeat (first | (with_reducible first | exact HI311.out | apply IsS58.alloc | apply IsS58.drewN | apply IsS58.drew | apply IsS58.set_1 | apply IsS58.set_2) | exact HI311.out))) : gb321 ≠ g311)); clear HO314; clear HO319; clear HI311; clear HB; have HO314 := n0_; have HO319 := n1_; have HI311 := n2_; have HB := n3_; have BK321 := n4_; have GW321 := n5_; have GE321 := n6_; have NB311_321 := n7_; have NB321_311 := n8_; clear n0_ n1_ n2_ n3_ n4_ n5_ n6_ n7_ n8_; clear hb hbox hg; obtain ⟨Ao37, co37, eo37⟩ := Kd.V_slice HO319.out; subst eo37; have hnb38 := NB321_311.out; have hnc38 := NB311_321.out; have hcz39_0 : w36.cell? ⟨gb321, 0, none⟩ = some (.slice none 0 0) := (blk_cell BK321.out 0).trans rfl; have hfz39_0 := blk_frozen BK321.out 0) | ((with_reducible refine gate_callee (f := 19) rfl ?_); refine goesL_ (some 26) rfl rfl Tryd.func19 (by kernel_rfl) rfl #[.slice Ao37 t317.length co37] rfl (by (try simp only [List.map_toArray, List.map_cons, List.map_nil]); first | done | rfl | (simp only [List.length_drop, List.length_take]; rfl)) ?_; (with_reducible refine (diagram_Reduce.calls _ _ t317 t323 t326 _ ?side1 ?side2 A6.out ?tab).mono ?_); (case tab => exact ptab HTAB.out (by repeat (first | (with_reducible first | exact HB.out | apply below_alloc | apply pw_below_drewN | apply below_drew1 | refine below_set ?_ (IsS58.ge HI311.out) | refine below_set ?_ GE321.out) | exact HB.out))); (case side1 => refine (Kd.V_reads' (e := 60) (base := w.heap.size) (ok := fun k_ => ((some k_ ≠ (.slice Ao34 t312.length co34 : Value).ownBlock ∧ k_ ≠ g311) ∧ k_ ≠ gb321)) (n := t317.length) (c := co37) ?_).2.2; exact (by (with_reducible repeat (first | apply Kd.V_alloc | apply Kd.V_drewN | apply Kd.V_drew)); exact (Kd.V_mono (Kd.V_far (p := ⟨gb321, 0, none⟩) (Kd.V_mono HO319.out (fun k_ hk => (⟨hk, by first | exact hk.2 | exact hk.1 | exact hk.2 | exact hk.1.1 | exact hk.1.2⟩ : _ ∧ k_ ≠ gb321))) (fun _ hk => hk.2) (.slice Ao37 t317.length co37)) (fun _ h_ => h_.1)))); (case side2 => exact (Kd.V_reads' HO319.out).2.1); rintro e w40 ⟨v324, rfl, ho0, hb⟩; refine ⟨_, rfl, ?_⟩; have n0_ := Aside0.mk (Kd.S_below (by (with_reducible repeat (first | apply Kd.S_alloc | apply Kd.S_drewN | apply Kd.S_drew)); exact (Kd.S_mono (Kd.S_far (p := ⟨gb321, 0, none⟩) (Kd.S_types HO314.out BK321.out (by decide)) (fun _ hk => hk.2) (.slice Ao37 t317.length co37)) (fun _ h_ => h_.1))) hb); have n1_ := Aside0.mk (Kd.V_below (by (with_reducible repeat (first | apply Kd.V_alloc | apply Kd.V_drewN | apply Kd.V_drew)); exact (Kd.V_mono (Kd.V_far (p := ⟨gb321, 0, none⟩) (Kd.V_mono HO319.out (fun k_ hk => (⟨hk, by first | exact hk.2 | exact hk.1 | exact hk.2 | exact hk.1.1 | exact hk.1.2⟩ : _ ∧ k_ ≠ gb321))) (fun _ hk => hk.2) (.slice Ao37 t317.length co37)) (fun _ h_ => h_.1))) hb); have n2_ := Aside0.mk (Kd.V_lower (Kd.V_mono (ok' := fun k_ => some k_ ≠ (.slice Ao34 t312.length co34 : Value).ownBlock ∧ k_ ≠ gb321 ∧ k_ ≠ g311) ho0 (fun k_ hk_ => ⟨(Kd.fresh' (Kd.S_lt (by (with_reducible repeat (first | apply Kd.S_alloc | apply Kd.S_drewN | apply Kd.S_drew)); exact (Kd.S_mono (Kd.S_far (p := ⟨gb321, 0, none⟩) (Kd.S_types HO314.out BK321.out (by decide)) (fun _ hk => hk.2) (.slice Ao37 t317.length co37)) (fun _ h_ => h_.1)))) k_ hk_), (Kd.freshB (g := gb321) (o := .cells #[.slice Ao37 t317.length co37] 31 (0, 0)) (by (with_reducible repeat (first | refine blk_drewN ?_ _ | refine blk_drew ?_ | refine blk_alloc ?_ _)); refine blk_put (cs := #[.slice none 0 0]) ?_ 0 _ rfl; (with_reducible repeat (first | refine blk_drewN ?_ _ | refine blk_drew ?_ | refine blk_alloc ?_ _)); exact BK321.out) k_ hk_), (IsS58.fresh (by repeat (first | (with_reducible first | exact HI311.out | apply IsS58.alloc | apply IsS58.drewN | apply IsS58.drew | apply IsS58.set_1 | apply IsS58.set_2 | refine IsS58.far ?_ NB311_321.out _) | exact HI311.out)) k_ hk_)⟩)) (below_size (by repeat (first | (with_reducible first | exact HB.out | apply below_alloc | apply pw_below_drewN | apply below_drew1 | refine below_set ?_ (IsS58.ge HI311.out) | refine below_set ?_ GE321.out) | exact HB.out)))); have n3_ := Aside0.mk (IsS58.below (show IsS58 w (w36.setCell ⟨gb321, 0, none⟩ (.slice Ao37 t317.length co37)) g311 t308 t315 t316 from by repeat (first | (with_reducible first | exact HI311.out | apply IsS58.alloc | apply IsS58.drewN | apply IsS58.drew | apply IsS58.set_1 | apply IsS58.set_2 | refine IsS58.far ?_ NB311_321.out _) | exact HI311.out)) hb); have n4_ := Aside0.mk (blk_below (g := gb321) (o := .cells #[.slice Ao37 t317.length co37] 31 (0, 0)) (by (with_reducible repeat (first | refine blk_drewN ?_ _ | refine blk_drew ?_ | refine blk_alloc ?_ _)); refine blk_put (cs := #[.slice none 0 0]) ?_ 0 _ rfl; (with_reducible repeat (first | refine blk_drewN ?_ _ | refine blk_drew ?_ | refine blk_alloc ?_ _)); exact BK321.out) hb); have n5_ := Aside0.mk (below_step (by repeat (first | (with_reducible first | exact HB.out | apply below_alloc | apply pw_below_drewN | apply below_drew1 | refine below_set ?_ (IsS58.ge HI311.out) | refine below_set ?_ GE321.out) | exact HB.out)) hb); clear HO314; clear HO319; clear HI311; clear BK321; clear HB; have HO314 := n0_; have HO319 := n1_; have HO325 := n2_; have HI311 := n3_; have BK321 := n4_; have HB := n5_; clear n0_ n1_ n2_ n3_ n4_ n5_; (try clear hb); (try clear hb2); (try clear hk); (try clear hi); (try clear ho0)) | ((with_reducible refine gate_dst (N := 5) rfl ?_); refine box_event ?hg (N := 5) ?hd (cs := #[.slice none 0 0]) (t := 31) ?hr ?_; (case hd => rfl); (case hg => rfl); (case hr => first | (go_simp; done) | (go_simp; rfl)); intro gb327 hg w41 hbox hb; have n0_ := Aside0.mk (Kd.S_below (by (with_reducible repeat (first | apply Kd.S_alloc | apply Kd.S_drewN | apply Kd.S_drew)); exact HO314.out) hb); have n1_ := Aside0.mk (Kd.V_below (Kd.V_elderB (by (with_reducible repeat (first | apply Kd.V_alloc | apply Kd.V_drewN | apply Kd.V_drew)); exact HO319.out) gb327 (Nat.le_of_eq hg.symm)) hb); have n2_ := Aside0.mk (Kd.V_below (Kd.V_elderB (by (with_reducible repeat (first | apply Kd.V_alloc | apply Kd.V_drewN | apply Kd.V_drew)); exact HO325.out) gb327 (Nat.le_of_eq hg.symm)) hb); have n3_ := Aside0.mk (IsS58.below (by repeat (first | (with_reducible first | exact HI311.out | apply IsS58.alloc | apply IsS58.drewN | apply IsS58.drew | apply IsS58.set_1 | apply IsS58.set_2 | refine IsS58.far ?_ NB311_321.out _) | exact HI311.out)) hb); have n4_ := Aside0.mk (blk_below (g := gb321) (o := .cells #[.slice Ao37 t317.length co37] 31 (0, 0)) (by (with_reducible repeat (first | refine blk_drewN ?_ _ | refine blk_drew ?_ | refine blk_alloc ?_ _)); exact BK321.out) hb); have n5_ := Aside0.mk (below_step (by repeat (first | (with_reducible first | exact HB.out | apply below_alloc | apply pw_below_drewN | apply below_drew1 | refine below_set ?_ (IsS58.ge HI311.out) | refine below_set ?_ GE321.out) | exact HB.out)) hb); have n6_ := Aside0.mk (hbox); have n7_ := Aside0.mk ((by rw [hg]; exact (below_size (by repeat (first | (with_reducible first | exact HB.out | apply below_alloc | apply pw_below_drewN | apply below_drew1 | refine below_set ?_ (IsS58.ge HI311.out) | refine below_set ?_ GE321.out) | exact HB.out))) : w.heap.size ≤ gb327)); have n8_ := Aside0.mk ((by rw [hg]; exact (below_size (by repeat (first | (with_reducible first | exact HB.out | apply below_alloc | apply pw_below_drewN | apply below_drew1 | refine below_set ?_ (IsS58.ge HI311.out) | refine below_set ?_ GE321.out) | exact HB.out))) : w.heap.size ≤ gb327)); have n9_ := Aside0.mk ((by rw [hg]; exact Nat.ne_of_lt (blk_lt (g := gb321) (o := .cells #[.slice Ao37 t317.length co37] 31 (0, 0)) (by (with_reducible repeat (first | refine blk_drewN ?_ _ | refine blk_drew ?_ | refine blk_alloc ?_ _)); exact BK321.out)) : gb321 ≠ gb327)); have n10_ := Aside0.mk ((by rw [hg]; exact Nat.ne_of_gt (blk_lt (g := gb321) (o := .cells #[.slice Ao37 t317.length co37] 31 (0, 0)) (by (with_reducible repeat (first | refine blk_drewN ?_ _ | refine blk_drew ?_ | refine blk_alloc ?_ _)); exact BK321.out)) : gb327 ≠ gb321)); have n11_ := Aside0.mk ((by rw [hg]; exact Nat.ne_of_lt (IsS58.lt (show IsS58 w _ g311 t308 t315 t316 from by repeat (first | (with_reducible first | exact HI311.out | apply IsS58.alloc | apply IsS58.drewN | apply IsS58.drew | apply IsS58.set_1 | apply IsS58.set_2 | refine IsS58.far ?_ NB311_321.out _) | exact HI311.out))) : g311 ≠ gb327)); have n12_ := Aside0.mk ((by rw [hg]; exact Nat.ne_of_gt (IsS58.lt (show IsS58 w _ g311 t308 t315 t316 from by repeat (first | (with_reducible first | exact HI311.out | apply IsS58.alloc | apply IsS58.drewN | apply IsS58.drew | apply IsS58.set_1 | apply IsS58.set_2 | refine IsS58.far ?_ NB311_321.out _) | exact HI311.out))) : gb327 ≠ g311)); clear HO314; clear HO319; clear HO325; clear HI311; clear BK321; clear HB; have HO314 := n0_; have HO319 := n1_; have HO325 := n2_; have HI311 := n3_; have BK321 := n4_; have HB := n5_; have BK327 := n6_; have GW327 := n7_; have GE327 := n8_; have NB321_327 := n9_; have NB327_321 := n10_; have NB311_327 := n11_; have NB327_311 := n12_; clear n0_ n1_ n2_ n3_ n4_ n5_ n6_ n7_ n8_ n9_ n10_ n11_ n12_; clear hb hbox hg; obtain ⟨Ao42, co42, eo42⟩ := Kd.V_slice HO325.out; subst eo42; have hnb43 := NB327_321.out; have hnc43 := NB321_327.out; have hnb44 := NB327_311.out; have hnc44 := NB311_327.out; have hcz45_0 : w41.cell? ⟨gb327, 0, none⟩ = some (.slice none 0 0) := (blk_cell BK327.out 0).trans rfl; have hfz45_0 := blk_frozen BK327.out 0; have hcz46_0 : w41.cell? ⟨gb321, 0, none⟩ = some (.slice Ao37 t317.length co37) := (blk_cell BK321.out 0).trans rfl; have hfz46_0 := blk_frozen BK321.out 0) | (go_at_call 20; (with_reducible refine (exactpplref19_Same.calls k _ _ t323 _ _ t317 true _ ?side1 ?side2 ?side3 ?side4 A8.out).mono ?_); (case side1 => refine (Kd.V_reads' (e := 60) (base := w.heap.size) (ok := fun k_ => ((some k_ ≠ (.slice Ao34 t312.length co34 : Value).ownBlock ∧ (k_ ≠ gb321 ∧ k_ ≠ g311)) ∧ k_ ≠ gb327)) (n := t323.length) (c := co42) ?_).2.2; exact (by (with_reducible repeat (first | apply Kd.V_alloc | apply Kd.V_drewN | apply Kd.V_drew)); exact (Kd.V_mono (Kd.V_far (p := ⟨gb327, 0, none⟩) (Kd.V_mono HO325.out (fun k_ hk => (⟨hk, by first | exact hk.2 | exact hk.1 | exact hk.2 | exact hk.1.1 | exact hk.1.2⟩ : _ ∧ k_ ≠ gb327))) (fun _ hk => hk.2) (.slice Ao42 t323.length co42)) (fun _ h_ => h_.1)))); (case side2 => exact (Kd.V_reads' HO325.out).2.1); (case side3 => refine (Kd.V_reads' (e := 60) (base := w.heap.size) (ok := fun k_ => (((some k_ ≠ (.slice Ao34 t312.length co34 : Value).ownBlock ∧ k_ ≠ g311) ∧ k_ ≠ gb321) ∧ k_ ≠ gb327)) (n := t317.length) (c := co37) ?_).2.2; exact (by (with_reducible repeat (first | apply Kd.V_alloc | apply Kd.V_drewN | apply Kd.V_drew)); exact (Kd.V_mono (Kd.V_far (p := ⟨gb327, 0, none⟩) (Kd.V_mono HO319.out (fun k_ hk => (⟨hk, by first | exact hk.2 | exact hk.1 | exact hk.2 | exact hk.1.1 | exact hk.1.2⟩ : _ ∧ k_ ≠ gb327))) (fun _ hk => hk.2) (.slice Ao42 t323.length co42)) (fun _ h_ => h_.1)))); (case side4 => exact (Kd.V_reads' HO319.out).2.1); rintro e w47 ⟨rfl, hb⟩; have n0_ := Aside0.mk (Kd.S_below (by (with_reducible repeat (first | apply Kd.S_alloc | apply Kd.S_drewN | apply Kd.S_drew)); exact (Kd.S_mono (Kd.S_far (p := ⟨gb327, 0, none⟩) (Kd.S_types HO314.out BK327.out (by decide)) (fun _ hk => hk.2) (.slice Ao42 t323.length co42)) (fun _ h_ => h_.1))) hb); have n1_ := Aside0.mk (Kd.V_below (by (with_reducible repeat (first | apply Kd.V_alloc | apply Kd.V_drewN | apply Kd.V_drew)); exact (Kd.V_mono (Kd.V_far (p := ⟨gb327, 0, none⟩) (Kd.V_mono HO319.out (fun k_ hk => (⟨hk, by first | exact hk.2 | exact hk.1 | exact hk.2 | exact hk.1.1 | exact hk.1.2⟩ : _ ∧ k_ ≠ gb327))) (fun _ hk => hk.2) (.slice Ao42 t323.length co42)) (fun _ h_ => h_.1))) hb); have n2_ := Aside0.mk (Kd.V_below (by (with_reducible repeat (first | apply Kd.V_alloc | apply Kd.V_drewN | apply Kd.V_drew)); exact (Kd.V_mono (Kd.V_far (p := ⟨gb327, 0, none⟩) (Kd.V_mono HO325.out (fun k_ hk => (⟨hk, by first | exact hk.2 | exact hk.1 | exact hk.2 | exact hk.1.1 | exact hk.1.2⟩ : _ ∧ k_ ≠ gb327))) (fun _ hk => hk.2) (.slice Ao42 t323.length co42)) (fun _ h_ => h_.1))) hb); have n3_ := Aside0.mk (IsS58.below (show IsS58 w (w41.setCell ⟨gb327, 0, none⟩ (.slice Ao42 t323.length co42)) g311 t308 t315 t316 from by repeat (first | (with_reducible first | exact HI311.out | apply IsS58.alloc | apply IsS58.drewN | apply IsS58.drew | apply IsS58.set_1 | apply IsS58.set_2 | refine IsS58.far ?_ NB311_321.out _ | refine IsS58.far ?_ NB311_327.out _) | exact HI311.out)) hb); have n4_ := Aside0.mk (blk_below (g := gb321) (o := .cells #[.slice Ao37 t317.length co37] 31 (0, 0)) (by (with_reducible repeat (first | refine blk_drewN ?_ _ | refine blk_drew ?_ | refine blk_alloc ?_ _)); refine blk_far ?_ NB321_327.out _; (with_reducible repeat (first | refine blk_drewN ?_ _ | refine blk_drew ?_ | refine blk_alloc ?_ _)); exact BK321.out) hb); have n5_ := Aside0.mk (blk_below (g := gb327) (o := .cells #[.slice Ao42 t323.length co42] 31 (0, 0)) (by (with_reducible repeat (first | refine blk_drewN ?_ _ | refine blk_drew ?_ | refine blk_alloc ?_ _)); refine blk_put (cs := #[.slice none 0 0]) ?_ 0 _ rfl; (with_reducible repeat (first | refine blk_drewN ?_ _ | refine blk_drew ?_ | refine blk_alloc ?_ _)); exact BK327.out) hb); have n6_ := Aside0.mk (below_step (by repeat (first | (with_reducible first | exact HB.out | apply below_alloc | apply pw_below_drewN | apply below_drew1 | refine below_set ?_ (IsS58.ge HI311.out) | refine below_set ?_ GE321.out | refine below_set ?_ GE327.out) | exact HB.out)) hb); clear HO314; clear HO319; clear HO325; clear HI311; clear BK321; clear BK327; clear HB; have HO314 := n0_; have HO319 := n1_; have HO325 := n2_; have HI311 := n3_; have BK321 := n4_; have BK327 := n5_; have HB := n6_; clear n0_ n1_ n2_ n3_ n4_ n5_ n6_; (try clear hb); (try clear hb2); (try clear hk); (try clear hi); have hcz48_0 : w47.cell? ⟨gb321, 0, none⟩ = some (.slice Ao37 t317.length co37) := (blk_cell BK321.out 0).trans rfl; have hfz48_0 := blk_frozen BK321.out 0) | (go_at_call 21; (with_reducible refine (diagram_Validate.calls _ _ t317 t329 _ ?side1 ?side2 A10.out ?tab).mono ?_); (case tab => exact ptab HTAB.out (by repeat (first | (with_reducible first | exact HB.out | apply below_alloc | apply pw_below_drewN | apply below_drew1 | refine below_set ?_ (IsS58.ge HI311.out) | refine below_set ?_ GE321.out | refine below_set ?_ GE327.out) | exact HB.out))); (case side1 => repeat (first | exact (Kd.V_reads' HO319.out).2.2 | (with_reducible refine Kd.C_alloc ?_ _) | (with_reducible refine Kd.C_drewN ?_ _) | (with_reducible refine Kd.C_drew ?_))); (case side2 => exact (Kd.V_reads' HO319.out).2.1); rintro e w49 ⟨rfl, hb⟩; have n0_ := Aside0.mk (Kd.S_below (by (with_reducible repeat (first | apply Kd.S_alloc | apply Kd.S_drewN | apply Kd.S_drew)); exact HO314.out) hb); have n1_ := Aside0.mk (Kd.V_below (by (with_reducible repeat (first | apply Kd.V_alloc | apply Kd.V_drewN | apply Kd.V_drew)); exact HO319.out) hb); have n2_ := Aside0.mk (Kd.V_below (by (with_reducible repeat (first | apply Kd.V_alloc | apply Kd.V_drewN | apply Kd.V_drew)); exact HO325.out) hb); have n3_ := Aside0.mk (IsS58.below (by repeat (first | (with_reducible first | exact HI311.out | apply IsS58.alloc | apply IsS58.drewN | apply IsS58.drew | apply IsS58.set_1 | apply IsS58.set_2 | refine IsS58.far ?_ NB311_321.out _ | refine IsS58.far ?_ NB311_327.out _) | exact HI311.out)) hb); have n4_ := Aside0.mk (blk_below (g := gb321) (o := .cells #[.slice Ao37 t317.length co37] 31 (0, 0)) (by (with_reducible repeat (first | refine blk_drewN ?_ _ | refine blk_drew ?_ | refine blk_alloc ?_ _)); exact BK321.out) hb); have n5_ := Aside0.mk (blk_below (g := gb327) (o := .cells #[.slice Ao42 t323.length co42] 31 (0, 0)) (by (with_reducible repeat (first | refine blk_drewN ?_ _ | refine blk_drew ?_ | refine blk_alloc ?_ _)); exact BK327.out) hb); have n6_ := Aside0.mk (below_step (by repeat (first | (with_reducible first | exact HB.out | apply below_alloc | apply pw_below_drewN | apply below_drew1 | refine below_set ?_ (IsS58.ge HI311.out) | refine below_set ?_ GE321.out | refine below_set ?_ GE327.out) | exact HB.out)) hb); clear HO314; clear HO319; clear HO325; clear HI311; clear BK321; clear BK327; clear HB; have HO314 := n0_; have HO319 := n1_; have HO325 := n2_; have HI311 := n3_; have BK321 := n4_; have BK327 := n5_; have HB := n6_; clear n0_ n1_ n2_ n3_ n4_ n5_ n6_; (try clear hb); (try clear hb2); (try clear hk); (try clear hi)))
          go_ret
          exact ⟨by first | rfl | (simp [errW_none, errW_some] <;> rfl) | (simp [*, errW_none, errW_some] <;> rfl), by repeat (first | (with_reducible first | exact HB.out | apply below_alloc | apply pw_below_drewN | apply below_drew1 | refine below_set ?_ (IsS58.ge HI311.out) | refine below_set ?_ GE321.out | refine below_set ?_ GE327.out) | exact HB.out)⟩
      · replace c9 := Bool.eq_false_iff.mpr c9
        subst c9
        have H1 : (some false) = some r := by rw [if_neg (show ¬ (false = true) by decide)] at H; exact H
        clear H
        have H := H1
        clear H1
        obtain rfl := Option.some.inj H
        go_enter Tryd.func5, Tryd.ntmps5
        go_wp2_with (first | ((with_reducible refine gate_callee (f := 15) rfl ?_); refine goesL_ (some 9) rfl rfl Tryd.func15 (by kernel_rfl) rfl #[.slice A0 l0.length c0] rfl (by (try simp only [List.map_toArray, List.map_cons, List.map_nil]); first | done | rfl | (simp only [List.length_drop, List.length_take]; rfl)) ?_; (with_reducible refine (exactpplmake_New.calls _ _ l0 t308 t309 t310 w _ ?side1 ?side2 ?side3 A2.out).mono ?_); (case side1 => repeat (first | (with_reducible first | exact HB.out | apply below_alloc | apply pw_below_drewN | apply below_drew1) | exact HB.out)); (case side2 => exact HR0.out); (case side3 => exact HC0.out); rintro e w50 ⟨g311, rfl, hi, hb, hb2⟩; refine ⟨_, rfl, ?_⟩; have n0_ := Aside0.mk (hb); have n1_ := Aside0.mk (hi); clear HB; have HB := n0_; have HI311 := n1_; clear n0_ n1_; (try clear hb); (try clear hb2); (try clear hk); (try clear hi)) | ((with_reducible refine gate_callee (f := 16) rfl ?_); refine goesL_ (some 10) rfl rfl Tryd.func16 (by kernel_rfl) rfl #[.pointer (some ⟨g311, 0, none⟩)] rfl (by (try simp only [List.map_toArray, List.map_cons, List.map_nil]); first | done | rfl | (simp only [List.length_drop, List.length_take]; rfl)) ?_; (with_reducible refine (exactpplmake_Src_Nodes.calls k g311 t308 t309 t310 t312 t315 t316 w _ ?side1 ?side2 A3.out).mono ?_); (case side1 => repeat (first | (with_reducible first | exact HI311.out | apply IsS58.alloc | apply IsS58.drewN | apply IsS58.drew | apply IsS58.set_1 | apply IsS58.set_2) | exact HI311.out)); (case side2 => repeat (first | (with_reducible first | exact HB.out | apply below_alloc | apply pw_below_drewN | apply below_drew1 | refine below_set ?_ (IsS58.ge HI311.out)) | exact HB.out)); rintro e w51 ⟨v313, rfl, ho0, hi, hb, hk⟩; refine ⟨_, rfl, ?_⟩; have n0_ := Aside0.mk (Kd.S_lower ho0 (below_size (by repeat (first | (with_reducible first | exact HB.out | apply below_alloc | apply pw_below_drewN | apply below_drew1 | refine below_set ?_ (IsS58.ge HI311.out)) | exact HB.out)))); have n1_ := Aside0.mk (hb); have n2_ := Aside0.mk (hi); clear HB; clear HI311; have HO314 := n0_; have HB := n1_; have HI311 := n2_; clear n0_ n1_ n2_; (try clear hb); (try clear hb2); (try clear hk); (try clear hi); (try clear ho0); obtain ⟨Ao52, co52, eo52⟩ := Kd.S_slice HO314.out; subst eo52) | ((with_reducible refine gate_callee (f := 19) rfl ?_); refine goesL_ (some 11) rfl rfl Tryd.func19 (by kernel_rfl) rfl #[.slice Ao52 t312.length co52] rfl (by (try simp only [List.map_toArray, List.map_cons, List.map_nil]); first | done | rfl | (simp only [List.length_drop, List.length_take]; rfl)) ?_; (with_reducible refine (diagram_Reduce.calls _ _ t312 t317 t320 _ ?side1 ?side2 A4.out ?tab).mono ?_); (case tab => exact ptab HTAB.out (by repeat (first | (with_reducible first | exact HB.out | apply below_alloc | apply pw_below_drewN | apply below_drew1 | refine below_set ?_ (IsS58.ge HI311.out)) | exact HB.out))); (case side1 => repeat (first | exact (Kd.S_reads' HO314.out).2.2 | (with_reducible refine Kd.C_alloc ?_ _) | (with_reducible refine Kd.C_drewN ?_ _) | (with_reducible refine Kd.C_drew ?_))); (case side2 => exact (Kd.S_reads' HO314.out).2.1); rintro e w53 ⟨v318, rfl, ho0, hb⟩; refine ⟨_, rfl, ?_⟩; have n0_ := Aside0.mk (Kd.S_below (by (with_reducible repeat (first | apply Kd.S_alloc | apply Kd.S_drewN | apply Kd.S_drew)); exact HO314.out) hb); have n1_ := Aside0.mk (Kd.V_lower (Kd.V_mono (ok' := fun k_ => some k_ ≠ (.slice Ao52 t312.length co52 : Value).ownBlock ∧ k_ ≠ g311) ho0 (fun k_ hk_ => ⟨(Kd.fresh' (Kd.S_lt (by (with_reducible repeat (first | apply Kd.S_alloc | apply Kd.S_drewN | apply Kd.S_drew)); exact HO314.out)) k_ hk_), (IsS58.fresh (by repeat (first | (with_reducible first | exact HI311.out | apply IsS58.alloc | apply IsS58.drewN | apply IsS58.drew | apply IsS58.set_1 | apply IsS58.set_2) | exact HI311.out)) k_ hk_)⟩)) (below_size (by repeat (first | (with_reducible first | exact HB.out | apply below_alloc | apply pw_below_drewN | apply below_drew1 | refine below_set ?_ (IsS58.ge HI311.out)) | exact HB.out)))); have n2_ := Aside0.mk (IsS58.below (by repeat (first | (with_reducible first | exact HI311.out | apply IsS58.alloc | apply IsS58.drewN | apply IsS58.drew | apply IsS58.set_1 | apply IsS58.set_2) | exact HI311.out)) hb); have n3_ := Aside0.mk (below_step (by repeat (first | (with_reducible first | exact HB.out | apply below_alloc | apply pw_below_drewN | apply below_drew1 | refine below_set ?_ (IsS58.ge HI311.out)) | exact HB.out)) hb); clear HO314; clear HI311; clear HB; have HO314 := n0_; have HO319 := n1_; have HI311 := n2_; have HB := n3_; clear n0_ n1_ n2_ n3_; (try clear hb); (try clear hb2); (try clear hk); (try clear hi); (try clear ho0)) | ((with_reducible refine gate_dst (N := 3) rfl ?_); refine box_event ?hg (N := 3) ?hd (cs := #[.slice none 0 0]) (t := 31) ?hr ?_; (case hd => rfl); (case hg => rfl); (case hr => first | (go_simp; done) | (go_simp; rfl)); intro gb321 hg w54 hbox hb; have n0_ := Aside0.mk (Kd.S_below (by (with_reducible repeat (first | apply Kd.S_alloc | apply Kd.S_drewN | apply Kd.S_drew)); exact HO314.out) hb); have n1_ := Aside0.mk (Kd.V_below (Kd.V_elderB (by (with_reducible repeat (first | apply Kd.V_alloc | apply Kd.V_drewN | apply Kd.V_drew)); exact HO319.out) gb321 (Nat.le_of_eq hg.symm)) hb); have n2_ := Aside0.mk (IsS58.below (by repeat (first | (with_reducible first | exact HI311.out | apply IsS58.alloc | apply IsS58.drewN | apply IsS58.drew | apply IsS58.set_1 | apply IsS58.set_2) | exact HI311.out)) hb); have n3_ := Aside0.mk (below_step (by repeat (first | (with_reducible first | exact HB.out | apply below_alloc | apply pw_below_drewN | apply below_drew1 | refine below_set ?_ (IsS58.ge HI311.out)) | exact HB.out)) hb); have n4_ := Aside0.mk (hbox); have n5_ := Aside0.mk ((by rw [hg]; exact (below_size (by repeat (first | (with_reducible first | exact HB.out | apply below_alloc | apply pw_below_drewN | apply below_drew1 | refine below_set ?_ (IsS58.ge HI311.out)) | exact HB.out))) : w.heap.size ≤ gb321)); have n6_ := Aside0.mk ((by rw [hg]; exact (below_size (by repeat (first | (with_reducible first | exact HB.out | apply below_alloc | apply pw_below_drewN | apply below_drew1 | refine below_set ?_ (IsS58.ge HI311.out)) | exact HB.out))) : w.heap.size ≤ gb321)); have n7_ := Aside0.mk ((by rw [hg]; exact Nat.ne_of_lt (IsS58.lt (show IsS58 w _ g311 t308 t315 t316 from by repeat (first | (with_reducible first | exact HI311.out | apply IsS58.alloc | apply IsS58.drewN | apply IsS58.drew | apply IsS58.set_1 | apply IsS58.set_2) | exact HI311.out))) : g311 ≠ gb321)); have n8_ := Aside0.mk ((by rw [hg]; exact Nat.ne_of_gt (IsS58.lt (show IsS58 w _ g311 t308 t315 t316 from by repeat (first | (with_reducible first | exact HI311.out | apply IsS58.alloc | apply IsS58.drewN | apply IsS58.drew | apply IsS58.set_1 | apply IsS58.set_2) | exact HI311.out))) : gb321 ≠ g311)); clear HO314; clear HO319; clear HI311; clear HB; have HO314 := n0_; have HO319 := n1_; have HI311 := n2_; have HB := n3_; have BK321 := n4_; have GW321 := n5_; have GE321 := n6_; have NB311_321 := n7_; have NB321_311 := n8_; clear n0_ n1_ n2_ n3_ n4_ n5_ n6_ n7_ n8_; clear hb hbox hg; obtain ⟨Ao55, co55, eo55⟩ := Kd.V_slice HO319.out; subst eo55; have hnb56 := NB321_311.out; have hnc56 := NB311_321.out; have hcz57_0 : w54.cell? ⟨gb321, 0, none⟩ = some (.slice none 0 0) := (blk_cell BK321.out 0).trans rfl; have hfz57_0 := blk_frozen BK321.out 0) | ((with_reducible refine gate_callee (f := 19) rfl ?_); refine goesL_ (some 26) rfl rfl Tryd.func19 (by kernel_rfl) rfl #[.slice Ao55 t317.length co55] rfl (by (try simp only [List.map_toArray, List.map_cons, List.map_nil]); first | done | rfl | (simp only [List.length_drop, List.length_take]; rfl)) ?_; (with_reducible refine (diagram_Reduce.calls _ _ t317 t323 t326 _ ?side1 ?side2 A6.out ?tab).mono ?_); (case tab => exact ptab HTAB.out (by repeat (first | (with_reducible first | exact HB.out | apply below_alloc | apply pw_below_drewN | apply below_drew1 | refine below_set ?_ (IsS58.ge HI311.out) | refine below_set ?_ GE321.out) | exact HB.out))); (case side1 => refine (Kd.V_reads' (e := 60) (base := w.heap.size) (ok := fun k_ => ((some k_ ≠ (.slice Ao52 t312.length co52 : Value).ownBlock ∧ k_ ≠ g311) ∧ k_ ≠ gb321)) (n := t317.length) (c := co55) ?_).2.2; exact (by (with_reducible repeat (first | apply Kd.V_alloc | apply Kd.V_drewN | apply Kd.V_drew)); exact (Kd.V_mono (Kd.V_far (p := ⟨gb321, 0, none⟩) (Kd.V_mono HO319.out (fun k_ hk => (⟨hk, by first | exact hk.2 | exact hk.1 | exact hk.2 | exact hk.1.1 | exact hk.1.2⟩ : _ ∧ k_ ≠ gb321))) (fun _ hk => hk.2) (.slice Ao55 t317.length co55)) (fun _ h_ => h_.1)))); (case side2 => exact (Kd.V_reads' HO319.out).2.1); rintro e w58 ⟨v324, rfl, ho0, hb⟩; refine ⟨_, rfl, ?_⟩; have n0_ := Aside0.mk (Kd.S_below (by (with_reducible repeat (first | apply Kd.S_alloc | apply Kd.S_drewN | apply Kd.S_drew)); exact (Kd.S_mono (Kd.S_far (p := ⟨gb321, 0, none⟩) (Kd.S_types HO314.out BK321.out (by decide)) (fun _ hk => hk.2) (.slice Ao55 t317.length co55)) (fun _ h_ => h_.1))) hb); have n1_ := Aside0.mk (Kd.V_below (by (with_reducible repeat (first | apply Kd.V_alloc | apply Kd.V_drewN | apply Kd.V_drew)); exact (Kd.V_mono (Kd.V_far (p := ⟨gb321, 0, none⟩) (Kd.V_mono HO319.out (fun k_ hk => (⟨hk, by first | exact hk.2 | exact hk.1 | exact hk.2 | exact hk.1.1 | exact hk.1.2⟩ : _ ∧ k_ ≠ gb321))) (fun _ hk => hk.2) (.slice Ao55 t317.length co55)) (fun _ h_ => h_.1))) hb); have n2_ := Aside0.mk (Kd.V_lower (Kd.V_mono (ok' := fun k_ => some k_ ≠ (.slice Ao52 t312.length co52 : Value).ownBlock ∧ k_ ≠ gb321 ∧ k_ ≠ g311) ho0 (fun k_ hk_ => ⟨(Kd.fresh' (Kd.S_lt (by (with_reducible repeat (first | apply Kd.S_alloc | apply Kd.S_drewN | apply Kd.S_drew)); exact (Kd.S_mono (Kd.S_far (p := ⟨gb321, 0, none⟩) (Kd.S_types HO314.out BK321.out (by decide)) (fun _ hk => hk.2) (.slice Ao55 t317.length co55)) (fun _ h_ => h_.1)))) k_ hk_), (Kd.freshB (g := gb321) (o := .cells #[.slice Ao55 t317.length co55] 31 (0, 0)) (by (with_reducible repeat (first | refine blk_drewN ?_ _ | refine blk_drew ?_ | refine blk_alloc ?_ _)); refine blk_put (cs := #[.slice none 0 0]) ?_ 0 _ rfl; (with_reducible repeat (first | refine blk_drewN ?_ _ | refine blk_drew ?_ | refine blk_alloc ?_ _)); exact BK321.out) k_ hk_), (IsS58.fresh (by repeat (first | (with_reducible first | exact HI311.out | apply IsS58.alloc | apply IsS58.drewN | apply IsS58.drew | apply IsS58.set_1 | apply IsS58.set_2 | refine IsS58.far ?_ NB311_321.out _) | exact HI311.out)) k_ hk_)⟩)) (below_size (by repeat (first | (with_reducible first | exact HB.out | apply below_alloc | apply pw_below_drewN | apply below_drew1 | refine below_set ?_ (IsS58.ge HI311.out) | refine below_set ?_ GE321.out) | exact HB.out)))); have n3_ := Aside0.mk (IsS58.below (show IsS58 w (w54.setCell ⟨gb321, 0, none⟩ (.slice Ao55 t317.length co55)) g311 t308 t315 t316 from by repeat (first | (with_reducible first | exact HI311.out | apply IsS58.alloc | apply IsS58.drewN | apply IsS58.drew | apply IsS58.set_1 | apply IsS58.set_2 | refine IsS58.far ?_ NB311_321.out _) | exact HI311.out)) hb); have n4_ := Aside0.mk (blk_below (g := gb321) (o := .cells #[.slice Ao55 t317.length co55] 31 (0, 0)) (by (with_reducible repeat (first | refine blk_drewN ?_ _ | refine blk_drew ?_ | refine blk_alloc ?_ _)); refine blk_put (cs := #[.slice none 0 0]) ?_ 0 _ rfl; (with_reducible repeat (first | refine blk_drewN ?_ _ | refine blk_drew ?_ | refine blk_alloc ?_ _)); exact BK321.out) hb); have n5_ := Aside0.mk (below_step (by repeat (first | (with_reducible first | exact HB.out | apply below_alloc | apply pw_below_drewN | apply below_drew1 | refine below_set ?_ (IsS58.ge HI311.out) | refine below_set ?_ GE321.out) | exact HB.out)) hb); clear HO314; clear HO319; clear HI311; clear BK321; clear HB; have HO314 := n0_; have HO319 := n1_; have HO325 := n2_; have HI311 := n3_; have BK321 := n4_; have HB := n5_; clear n0_ n1_ n2_ n3_ n4_ n5_; (try clear hb); (try clear hb2); (try clear hk); (try clear hi); (try clear ho0)) | ((with_reducible refine gate_dst (N := 5) rfl ?_); refine box_event ?hg (N := 5) ?hd (cs := #[.slice none 0 0]) (t := 31) ?hr ?_; (case hd => rfl); (case hg => rfl); (case hr => first | (go_simp; done) | (go_simp; rfl)); intro gb327 hg w59 hbox hb; have n0_ := Aside0.mk (Kd.S_below (by (with_reducible repeat (first | apply Kd.S_alloc | apply Kd.S_drewN | apply Kd.S_drew)); exact HO314.out) hb); have n1_ := Aside0.mk (Kd.V_below (Kd.V_elderB (by (with_reducible repeat (first | apply Kd.V_alloc | apply Kd.V_drewN | apply Kd.V_drew)); exact HO319.out) gb327 (Nat.le_of_eq hg.symm)) hb); have n2_ := Aside0.mk (Kd.V_below (Kd.V_elderB (by (with_reducible repeat (first | apply Kd.V_alloc | apply Kd.V_drewN | apply Kd.V_drew)); exact HO325.out) gb327 (Nat.le_of_eq hg.symm)) hb); have n3_ := Aside0.mk (IsS58.below (by repeat (first | (with_reducible first | exact HI311.out | apply IsS58.alloc | apply IsS58.drewN | apply IsS58.drew | apply IsS58.set_1 | apply IsS58.set_2 | refine IsS58.far ?_ NB311_321.out _) | exact HI311.out)) hb); have n4_ := Aside0.mk (blk_below (g := gb321) (o := .cells #[.slice Ao55 t317.length co55] 31 (0, 0)) (by (with_reducible repeat (first | refine blk_drewN ?_ _ | refine blk_drew ?_ | refine blk_alloc ?_ _)); exact BK321.out) hb); have n5_ := Aside0.mk (below_step (by repeat (first | (with_reducible first | exact HB.out | apply below_alloc | apply pw_below_drewN | apply below_drew1 | refine below_set ?_ (IsS58.ge HI311.out) | refine below_set ?_ GE321.out) | exact HB.out)) hb); have n6_ := Aside0.mk (hbox); have n7_ := Aside0.mk ((by rw [hg]; exact (below_size (by repeat (first | (with_reducible first | exact HB.out | apply below_alloc | apply pw_below_drewN | apply below_drew1 | refine below_set ?_ (IsS58.ge HI311.out) | refine below_set ?_ GE321.out) | exact HB.out))) : w.heap.size ≤ gb327)); have n8_ := Aside0.mk ((by rw [hg]; exact (below_size (by repeat (first | (with_reducible first | exact HB.out | apply below_alloc | apply pw_below_drewN | apply below_drew1 | refine below_set ?_ (IsS58.ge HI311.out) | refine below_set ?_ GE321.out) | exact HB.out))) : w.heap.size ≤ gb327)); have n9_ := Aside0.mk ((by rw [hg]; exact Nat.ne_of_lt (blk_lt (g := gb321) (o := .cells #[.slice Ao55 t317.length co55] 31 (0, 0)) (by (with_reducible repeat (first | refine blk_drewN ?_ _ | refine blk_drew ?_ | refine blk_alloc ?_ _)); exact BK321.out)) : gb321 ≠ gb327)); have n10_ := Aside0.mk ((by rw [hg]; exact Nat.ne_of_gt (blk_lt (g := gb321) (o := .cells #[.slice Ao55 t317.length co55] 31 (0, 0)) (by (with_reducible repeat (first | refine blk_drewN ?_ _ | refine blk_drew ?_ | refine blk_alloc ?_ _)); exact BK321.out)) : gb327 ≠ gb321)); have n11_ := Aside0.mk ((by rw [hg]; exact Nat.ne_of_lt (IsS58.lt (show IsS58 w _ g311 t308 t315 t316 from by repeat (first | (with_reducible first | exact HI311.out | apply IsS58.alloc | apply IsS58.drewN | apply IsS58.drew | apply IsS58.set_1 | apply IsS58.set_2 | refine IsS58.far ?_ NB311_321.out _) | exact HI311.out))) : g311 ≠ gb327)); have n12_ := Aside0.mk ((by rw [hg]; exact Nat.ne_of_gt (IsS58.lt (show IsS58 w _ g311 t308 t315 t316 from by repeat (first | (with_reducible first | exact HI311.out | apply IsS58.alloc | apply IsS58.drewN | apply IsS58.drew | apply IsS58.set_1 | apply IsS58.set_2 | refine IsS58.far ?_ NB311_321.out _) | exact HI311.out))) : gb327 ≠ g311)); clear HO314; clear HO319; clear HO325; clear HI311; clear BK321; clear HB; have HO314 := n0_; have HO319 := n1_; have HO325 := n2_; have HI311 := n3_; have BK321 := n4_; have HB := n5_; have BK327 := n6_; have GW327 := n7_; have GE327 := n8_; have NB321_327 := n9_; have NB327_321 := n10_; have NB311_327 := n11_; have NB327_311 := n12_; clear n0_ n1_ n2_ n3_ n4_ n5_ n6_ n7_ n8_ n9_ n10_ n11_ n12_; clear hb hbox hg; obtain ⟨Ao60, co60, eo60⟩ := Kd.V_slice HO325.out; subst eo60; have hnb61 := NB327_321.out; have hnc61 := NB321_327.out; have hnb62 := NB327_311.out; have hnc62 := NB311_327.out; have hcz63_0 : w59.cell? ⟨gb327, 0, none⟩ = some (.slice none 0 0) := (blk_cell BK327.out 0).trans rfl; have hfz63_0 := blk_frozen BK327.out 0; have hcz64_0 : w59.cell? ⟨gb321, 0, none⟩ = some (.slice Ao55 t317.length co55) := (blk_cell BK321.out 0).trans rfl; have hfz64_0 := blk_frozen BK321.out 0) | (go_at_call 20; (with_reducible refine (exactpplref19_Same.calls k _ _ t323 _ _ t317 false _ ?side1 ?side2 ?side3 ?side4 A8.out).mono ?_); (case side1 => refine (Kd.V_reads' (e := 60) (base := w.heap.size) (ok := fun k_ => ((some k_ ≠ (.slice Ao52 t312.length co52 : Value).ownBlock ∧ (k_ ≠ gb321 ∧ k_ ≠ g311)) ∧ k_ ≠ gb327)) (n := t323.length) (c := co60) ?_).2.2; exact (by (with_reducible repeat (first | apply Kd.V_alloc | apply Kd.V_drewN | apply Kd.V_drew)); exact (Kd.V_mono (Kd.V_far (p := ⟨gb327, 0, none⟩) (Kd.V_mono HO325.out (fun k_ hk => (⟨hk, by first | exact hk.2 | exact hk.1 | exact hk.2 | exact hk.1.1 | exact hk.1.2⟩ : _ ∧ k_ ≠ gb327))) (fun _ hk => hk.2) (.slice Ao60 t323.length co60)) (fun _ h_ => h_.1)))); (case side2 => exact (Kd.V_reads' HO325.out).2.1); (case side3 => refine (Kd.V_reads' (e := 60) (base := w.heap.size) (ok := fun k_ => (((some k_ ≠ (.slice Ao52 t312.length co52 : Value).ownBlock ∧ k_ ≠ g311) ∧ k_ ≠ gb321) ∧ k_ ≠ gb327)) (n := t317.length) (c := co55) ?_).2.2; exact (by (with_reducible repeat (first | apply Kd.V_alloc | apply Kd.V_drewN | apply Kd.V_drew)); exact (Kd.V_mono (Kd.V_far (p := ⟨gb327, 0, none⟩) (Kd.V_mono HO319.out (fun k_ hk => (⟨hk, by first | exact hk.2 | exact hk.1 | exact hk.2 | exact hk.1.1 | exact hk.1.2⟩ : _ ∧ k_ ≠ gb327))) (fun _ hk => hk.2) (.slice Ao60 t323.length co60)) (fun _ h_ => h_.1)))); (case side4 => exact (Kd.V_reads' HO319.out).2.1); rintro e w65 ⟨rfl, hb⟩; have n0_ := Aside0.mk (Kd.S_below (by (with_reducible repeat (first | apply Kd.S_alloc | apply Kd.S_drewN | apply Kd.S_drew)); exact (Kd.S_mono (Kd.S_far (p := ⟨gb327, 0, none⟩) (Kd.S_types HO314.out BK327.out (by decide)) (fun _ hk => hk.2) (.slice Ao60 t323.length co60)) (fun _ h_ => h_.1))) hb); have n1_ := Aside0.mk (Kd.V_below (by (with_reducible repeat (first | apply Kd.V_alloc | apply Kd.V_drewN | apply Kd.V_drew)); exact (Kd.V_mono (Kd.V_far (p := ⟨gb327, 0, none⟩) (Kd.V_mono HO319.out (fun k_ hk => (⟨hk, by first | exact hk.2 | exact hk.1 | exact hk.2 | exact hk.1.1 | exact hk.1.2⟩ : _ ∧ k_ ≠ gb327))) (fun _ hk => hk.2) (.slice Ao60 t323.length co60)) (fun _ h_ => h_.1))) hb); have n2_ := Aside0.mk (Kd.V_below (by (with_reducible repeat (first | apply Kd.V_alloc | apply Kd.V_drewN | apply Kd.V_drew)); exact (Kd.V_mono (Kd.V_far (p := ⟨gb327, 0, none⟩) (Kd.V_mono HO325.out (fun k_ hk => (⟨hk, by first | exact hk.2 | exact hk.1 | exact hk.2 | exact hk.1.1 | exact hk.1.2⟩ : _ ∧ k_ ≠ gb327))) (fun _ hk => hk.2) (.slice Ao60 t323.length co60)) (fun _ h_ => h_.1))) hb); have n3_ := Aside0.mk (IsS58.below (show IsS58 w (w59.setCell ⟨gb327, 0, none⟩ (.slice Ao60 t323.length co60)) g311 t308 t315 t316 from by repeat (first | (with_reducible first | exact HI311.out | apply IsS58.alloc | apply IsS58.drewN | apply IsS58.drew | apply IsS58.set_1 | apply IsS58.set_2 | refine IsS58.far ?_ NB311_321.out _ | refine IsS58.far ?_ NB311_327.out _) | exact HI311.out)) hb); have n4_ := Aside0.mk (blk_below (g := gb321) (o := .cells #[.slice Ao55 t317.length co55] 31 (0, 0)) (by (with_reducible repeat (first | refine blk_drewN ?_ _ | refine blk_drew ?_ | refine blk_alloc ?_ _)); refine blk_far ?_ NB321_327.out _; (with_reducible repeat (first | refine blk_drewN ?_ _ | refine blk_drew ?_ | refine blk_alloc ?_ _)); exact BK321.out) hb); have n5_ := Aside0.mk (blk_below (g := gb327) (o := .cells #[.slice Ao60 t323.length co60] 31 (0, 0)) (by (with_reducible repeat (first | refine blk_drewN ?_ _ | refine blk_drew ?_ | refine blk_alloc ?_ _)); refine blk_put (cs := #[.slice none 0 0]) ?_ 0 _ rfl; (with_reducible repeat (first | refine blk_drewN ?_ _ | refine blk_drew ?_ | refine blk_alloc ?_ _)); exact BK327.out) hb); have n6_ := Aside0.mk (below_step (by repeat (first | (with_reducible first | exact HB.out | apply below_alloc | apply pw_below_drewN | apply below_drew1 | refine below_set ?_ (IsS58.ge HI311.out) | refine below_set ?_ GE321.out | refine below_set ?_ GE327.out) | exact HB.out)) hb); clear HO314; clear HO319; clear HO325; clear HI311; clear BK321; clear BK327; clear HB; have HO314 := n0_; have HO319 := n1_; have HO325 := n2_; have HI311 := n3_; have BK321 := n4_; have BK327 := n5_; have HB := n6_; clear n0_ n1_ n2_ n3_ n4_ n5_ n6_; (try clear hb); (try clear hb2); (try clear hk); (try clear hi)))
        go_ret
        exact ⟨by first | rfl | (simp [errW_none, errW_some] <;> rfl) | (simp [*, errW_none, errW_some] <;> rfl), by repeat (first | (with_reducible first | exact HB.out | apply below_alloc | apply pw_below_drewN | apply below_drew1 | refine below_set ?_ (IsS58.ge HI311.out) | refine below_set ?_ GE321.out | refine below_set ?_ GE327.out) | exact HB.out)⟩
    · rw [if_neg c7] at H
      have c7b0 : (t326 == 0) = false := beq_eq_false_iff_ne.mpr c7
      have c7b1 : (t326 != 0) = true := bne_iff_ne.mpr c7
      obtain rfl := Option.some.inj H
      go_enter Tryd.func5, Tryd.ntmps5
      go_wp2_with (first | ((with_reducible refine gate_callee (f := 15) rfl ?_); refine goesL_ (some 9) rfl rfl Tryd.func15 (by kernel_rfl) rfl #[.slice A0 l0.length c0] rfl (by (try simp only [List.map_toArray, List.map_cons, List.map_nil]); first | done | rfl | (simp only [List.length_drop, List.length_take]; rfl)) ?_; (with_reducible refine (exactpplmake_New.calls _ _ l0 t308 t309 t310 w _ ?side1 ?side2 ?side3 A2.out).mono ?_); (case side1 => repeat (first | (with_reducible first | exact HB.out | apply below_alloc | apply pw_below_drewN | apply below_drew1) | exact HB.out)); (case side2 => exact HR0.out); (case side3 => exact HC0.out); rintro e w66 ⟨g311, rfl, hi, hb, hb2⟩; refine ⟨_, rfl, ?_⟩; have n0_ := Aside0.mk (hb); have n1_ := Aside0.mk (hi); clear HB; have HB := n0_; have HI311 := n1_; clear n0_ n1_; (try clear hb); (try clear hb2); (try clear hk); (try clear hi)) | ((with_reducible refine gate_callee (f := 16) rfl ?_); refine goesL_ (some 10) rfl rfl Tryd.func16 (by kernel_rfl) rfl #[.pointer (some ⟨g311, 0, none⟩)] rfl (by (try simp only [List.map_toArray, List.map_cons, List.map_nil]); first | done | rfl | (simp only [List.length_drop, List.length_take]; rfl)) ?_; (with_reducible refine (exactpplmake_Src_Nodes.calls k g311 t308 t309 t310 t312 t315 t316 w _ ?side1 ?side2 A3.out).mono ?_); (case side1 => repeat (first | (with_reducible first | exact HI311.out | apply IsS58.alloc | apply IsS58.drewN | apply IsS58.drew | apply IsS58.set_1 | apply IsS58.set_2) | exact HI311.out)); (case side2 => repeat (first | (with_reducible first | exact HB.out | apply below_alloc | apply pw_below_drewN | apply below_drew1 | refine below_set ?_ (IsS58.ge HI311.out)) | exact HB.out)); rintro e w67 ⟨v313, rfl, ho0, hi, hb, hk⟩; refine ⟨_, rfl, ?_⟩; have n0_ := Aside0.mk (Kd.S_lower ho0 (below_size (by repeat (first | (with_reducible first | exact HB.out | apply below_alloc | apply pw_below_drewN | apply below_drew1 | refine below_set ?_ (IsS58.ge HI311.out)) | exact HB.out)))); have n1_ := Aside0.mk (hb); have n2_ := Aside0.mk (hi); clear HB; clear HI311; have HO314 := n0_; have HB := n1_; have HI311 := n2_; clear n0_ n1_ n2_; (try clear hb); (try clear hb2); (try clear hk); (try clear hi); (try clear ho0); obtain ⟨Ao68, co68, eo68⟩ := Kd.S_slice HO314.out; subst eo68) | ((with_reducible refine gate_callee (f := 19) rfl ?_); refine goesL_ (some 11) rfl rfl Tryd.func19 (by kernel_rfl) rfl #[.slice Ao68 t312.length co68] rfl (by (try simp only [List.map_toArray, List.map_cons, List.map_nil]); first | done | rfl | (simp only [List.length_drop, List.length_take]; rfl)) ?_; (with_reducible refine (diagram_Reduce.calls _ _ t312 t317 t320 _ ?side1 ?side2 A4.out ?tab).mono ?_); (case tab => exact ptab HTAB.out (by repeat (first | (with_reducible first | exact HB.out | apply below_alloc | apply pw_below_drewN | apply below_drew1 | refine below_set ?_ (IsS58.ge HI311.out)) | exact HB.out))); (case side1 => repeat (first | exact (Kd.S_reads' HO314.out).2.2 | (with_reducible refine Kd.C_alloc ?_ _) | (with_reducible refine Kd.C_drewN ?_ _) | (with_reducible refine Kd.C_drew ?_))); (case side2 => exact (Kd.S_reads' HO314.out).2.1); rintro e w69 ⟨v318, rfl, ho0, hb⟩; refine ⟨_, rfl, ?_⟩; have n0_ := Aside0.mk (Kd.S_below (by (with_reducible repeat (first | apply Kd.S_alloc | apply Kd.S_drewN | apply Kd.S_drew)); exact HO314.out) hb); have n1_ := Aside0.mk (Kd.V_lower (Kd.V_mono (ok' := fun k_ => some k_ ≠ (.slice Ao68 t312.length co68 : Value).ownBlock ∧ k_ ≠ g311) ho0 (fun k_ hk_ => ⟨(Kd.fresh' (Kd.S_lt (by (with_reducible repeat (first | apply Kd.S_alloc | apply Kd.S_drewN | apply Kd.S_drew)); exact HO314.out)) k_ hk_), (IsS58.fresh (by repeat (first | (with_reducible first | exact HI311.out | apply IsS58.alloc | apply IsS58.drewN | apply IsS58.drew | apply IsS58.set_1 | apply IsS58.set_2) | exact HI311.out)) k_ hk_)⟩)) (below_size (by repeat (first | (with_reducible first | exact HB.out | apply below_alloc | apply pw_below_drewN | apply below_drew1 | refine below_set ?_ (IsS58.ge HI311.out)) | exact HB.out)))); have n2_ := Aside0.mk (IsS58.below (by repeat (first | (with_reducible first | exact HI311.out | apply IsS58.alloc | apply IsS58.drewN | apply IsS58.drew | apply IsS58.set_1 | apply IsS58.set_2) | exact HI311.out)) hb); have n3_ := Aside0.mk (below_step (by repeat (first | (with_reducible first | exact HB.out | apply below_alloc | apply pw_below_drewN | apply below_drew1 | refine below_set ?_ (IsS58.ge HI311.out)) | exact HB.out)) hb); clear HO314; clear HI311; clear HB; have HO314 := n0_; have HO319 := n1_; have HI311 := n2_; have HB := n3_; clear n0_ n1_ n2_ n3_; (try clear hb); (try clear hb2); (try clear hk); (try clear hi); (try clear ho0)) | ((with_reducible refine gate_dst (N := 3) rfl ?_); refine box_event ?hg (N := 3) ?hd (cs := #[.slice none 0 0]) (t := 31) ?hr ?_; (case hd => rfl); (case hg => rfl); (case hr => first | (go_simp; done) | (go_simp; rfl)); intro gb321 hg w70 hbox hb; have n0_ := Aside0.mk (Kd.S_below (by (with_reducible repeat (first | apply Kd.S_alloc | apply Kd.S_drewN | apply Kd.S_drew)); exact HO314.out) hb); have n1_ := Aside0.mk (Kd.V_below (Kd.V_elderB (by (with_reducible repeat (first | apply Kd.V_alloc | apply Kd.V_drewN | apply Kd.V_drew)); exact HO319.out) gb321 (Nat.le_of_eq hg.symm)) hb); have n2_ := Aside0.mk (IsS58.below (by repeat (first | (with_reducible first | exact HI311.out | apply IsS58.alloc | apply IsS58.drewN | apply IsS58.drew | apply IsS58.set_1 | apply IsS58.set_2) | exact HI311.out)) hb); have n3_ := Aside0.mk (below_step (by repeat (first | (with_reducible first | exact HB.out | apply below_alloc | apply pw_below_drewN | apply below_drew1 | refine below_set ?_ (IsS58.ge HI311.out)) | exact HB.out)) hb); have n4_ := Aside0.mk (hbox); have n5_ := Aside0.mk ((by rw [hg]; exact (below_size (by repeat (first | (with_reducible first | exact HB.out | apply below_alloc | apply pw_below_drewN | apply below_drew1 | refine below_set ?_ (IsS58.ge HI311.out)) | exact HB.out))) : w.heap.size ≤ gb321)); have n6_ := Aside0.mk ((by rw [hg]; exact (below_size (by repeat (first | (with_reducible first | exact HB.out | apply below_alloc | apply pw_below_drewN | apply below_drew1 | refine below_set ?_ (IsS58.ge HI311.out)) | exact HB.out))) : w.heap.size ≤ gb321)); have n7_ := Aside0.mk ((by rw [hg]; exact Nat.ne_of_lt (IsS58.lt (show IsS58 w _ g311 t308 t315 t316 from by repeat (first | (with_reducible first | exact HI311.out | apply IsS58.alloc | apply IsS58.drewN | apply IsS58.drew | apply IsS58.set_1 | apply IsS58.set_2) | exact HI311.out))) : g311 ≠ gb321)); have n8_ := Aside0.mk ((by rw [hg]; exact Nat.ne_of_gt (IsS58.lt (show IsS58 w _ g311 t308 t315 t316 from by repeat (first | (with_reducible first | exact HI311.out | apply IsS58.alloc | apply IsS58.drewN | apply IsS58.drew | apply IsS58.set_1 | apply IsS58.set_2) | exact HI311.out))) : gb321 ≠ g311)); clear HO314; clear HO319; clear HI311; clear HB; have HO314 := n0_; have HO319 := n1_; have HI311 := n2_; have HB := n3_; have BK321 := n4_; have GW321 := n5_; have GE321 := n6_; have NB311_321 := n7_; have NB321_311 := n8_; clear n0_ n1_ n2_ n3_ n4_ n5_ n6_ n7_ n8_; clear hb hbox hg; obtain ⟨Ao71, co71, eo71⟩ := Kd.V_slice HO319.out; subst eo71; have hnb72 := NB321_311.out; have hnc72 := NB311_321.out; have hcz73_0 : w70.cell? ⟨gb321, 0, none⟩ = some (.slice none 0 0) := (blk_cell BK321.out 0).trans rfl; have hfz73_0 := blk_frozen BK321.out 0) | ((with_reducible refine gate_callee (f := 19) rfl ?_); refine goesL_ (some 26) rfl rfl Tryd.func19 (by kernel_rfl) rfl #[.slice Ao71 t317.length co71] rfl (by (try simp only [List.map_toArray, List.map_cons, List.map_nil]); first | done | rfl | (simp only [List.length_drop, List.length_take]; rfl)) ?_; (with_reducible refine (diagram_Reduce.calls _ _ t317 t323 t326 _ ?side1 ?side2 A6.out ?tab).mono ?_); (case tab => exact ptab HTAB.out (by repeat (first | (with_reducible first | exact HB.out | apply below_alloc | apply pw_below_drewN | apply below_drew1 | refine below_set ?_ (IsS58.ge HI311.out) | refine below_set ?_ GE321.out) | exact HB.out))); (case side1 => refine (Kd.V_reads' (e := 60) (base := w.heap.size) (ok := fun k_ => ((some k_ ≠ (.slice Ao68 t312.length co68 : Value).ownBlock ∧ k_ ≠ g311) ∧ k_ ≠ gb321)) (n := t317.length) (c := co71) ?_).2.2; exact (by (with_reducible repeat (first | apply Kd.V_alloc | apply Kd.V_drewN | apply Kd.V_drew)); exact (Kd.V_mono (Kd.V_far (p := ⟨gb321, 0, none⟩) (Kd.V_mono HO319.out (fun k_ hk => (⟨hk, by first | exact hk.2 | exact hk.1 | exact hk.2 | exact hk.1.1 | exact hk.1.2⟩ : _ ∧ k_ ≠ gb321))) (fun _ hk => hk.2) (.slice Ao71 t317.length co71)) (fun _ h_ => h_.1)))); (case side2 => exact (Kd.V_reads' HO319.out).2.1); rintro e w74 ⟨v324, rfl, ho0, hb⟩; refine ⟨_, rfl, ?_⟩; have n0_ := Aside0.mk (Kd.S_below (by (with_reducible repeat (first | apply Kd.S_alloc | apply Kd.S_drewN | apply Kd.S_drew)); exact (Kd.S_mono (Kd.S_far (p := ⟨gb321, 0, none⟩) (Kd.S_types HO314.out BK321.out (by decide)) (fun _ hk => hk.2) (.slice Ao71 t317.length co71)) (fun _ h_ => h_.1))) hb); have n1_ := Aside0.mk (Kd.V_below (by (with_reducible repeat (first | apply Kd.V_alloc | apply Kd.V_drewN | apply Kd.V_drew)); exact (Kd.V_mono (Kd.V_far (p := ⟨gb321, 0, none⟩) (Kd.V_mono HO319.out (fun k_ hk => (⟨hk, by first | exact hk.2 | exact hk.1 | exact hk.2 | exact hk.1.1 | exact hk.1.2⟩ : _ ∧ k_ ≠ gb321))) (fun _ hk => hk.2) (.slice Ao71 t317.length co71)) (fun _ h_ => h_.1))) hb); have n2_ := Aside0.mk (Kd.V_lower (Kd.V_mono (ok' := fun k_ => some k_ ≠ (.slice Ao68 t312.length co68 : Value).ownBlock ∧ k_ ≠ gb321 ∧ k_ ≠ g311) ho0 (fun k_ hk_ => ⟨(Kd.fresh' (Kd.S_lt (by (with_reducible repeat (first | apply Kd.S_alloc | apply Kd.S_drewN | apply Kd.S_drew)); exact (Kd.S_mono (Kd.S_far (p := ⟨gb321, 0, none⟩) (Kd.S_types HO314.out BK321.out (by decide)) (fun _ hk => hk.2) (.slice Ao71 t317.length co71)) (fun _ h_ => h_.1)))) k_ hk_), (Kd.freshB (g := gb321) (o := .cells #[.slice Ao71 t317.length co71] 31 (0, 0)) (by (with_reducible repeat (first | refine blk_drewN ?_ _ | refine blk_drew ?_ | refine blk_alloc ?_ _)); refine blk_put (cs := #[.slice none 0 0]) ?_ 0 _ rfl; (with_reducible repeat (first | refine blk_drewN ?_ _ | refine blk_drew ?_ | refine blk_alloc ?_ _)); exact BK321.out) k_ hk_), (IsS58.fresh (by repeat (first | (with_reducible first | exact HI311.out | apply IsS58.alloc | apply IsS58.drewN | apply IsS58.drew | apply IsS58.set_1 | apply IsS58.set_2 | refine IsS58.far ?_ NB311_321.out _) | exact HI311.out)) k_ hk_)⟩)) (below_size (by repeat (first | (with_reducible first | exact HB.out | apply below_alloc | apply pw_below_drewN | apply below_drew1 | refine below_set ?_ (IsS58.ge HI311.out) | refine below_set ?_ GE321.out) | exact HB.out)))); have n3_ := Aside0.mk (IsS58.below (show IsS58 w (w70.setCell ⟨gb321, 0, none⟩ (.slice Ao71 t317.length co71)) g311 t308 t315 t316 from by repeat (first | (with_reducible first | exact HI311.out | apply IsS58.alloc | apply IsS58.drewN | apply IsS58.drew | apply IsS58.set_1 | apply IsS58.set_2 | refine IsS58.far ?_ NB311_321.out _) | exact HI311.out)) hb); have n4_ := Aside0.mk (blk_below (g := gb321) (o := .cells #[.slice Ao71 t317.length co71] 31 (0, 0)) (by (with_reducible repeat (first | refine blk_drewN ?_ _ | refine blk_drew ?_ | refine blk_alloc ?_ _)); refine blk_put (cs := #[.slice none 0 0]) ?_ 0 _ rfl; (with_reducible repeat (first | refine blk_drewN ?_ _ | refine blk_drew ?_ | refine blk_alloc ?_ _)); exact BK321.out) hb); have n5_ := Aside0.mk (below_step (by repeat (first | (with_reducible first | exact HB.out | apply below_alloc | apply pw_below_drewN | apply below_drew1 | refine below_set ?_ (IsS58.ge HI311.out) | refine below_set ?_ GE321.out) | exact HB.out)) hb); clear HO314; clear HO319; clear HI311; clear BK321; clear HB; have HO314 := n0_; have HO319 := n1_; have HO325 := n2_; have HI311 := n3_; have BK321 := n4_; have HB := n5_; clear n0_ n1_ n2_ n3_ n4_ n5_; (try clear hb); (try clear hb2); (try clear hk); (try clear hi); (try clear ho0)) | ((with_reducible refine gate_dst (N := 5) rfl ?_); refine box_event ?hg (N := 5) ?hd (cs := #[.slice none 0 0]) (t := 31) ?hr ?_; (case hd => rfl); (case hg => rfl); (case hr => first | (go_simp; done) | (go_simp; rfl)); intro gb327 hg w75 hbox hb; have n0_ := Aside0.mk (Kd.S_below (by (with_reducible repeat (first | apply Kd.S_alloc | apply Kd.S_drewN | apply Kd.S_drew)); exact HO314.out) hb); have n1_ := Aside0.mk (Kd.V_below (Kd.V_elderB (by (with_reducible repeat (first | apply Kd.V_alloc | apply Kd.V_drewN | apply Kd.V_drew)); exact HO319.out) gb327 (Nat.le_of_eq hg.symm)) hb); have n2_ := Aside0.mk (Kd.V_below (Kd.V_elderB (by (with_reducible repeat (first | apply Kd.V_alloc | apply Kd.V_drewN | apply Kd.V_drew)); exact HO325.out) gb327 (Nat.le_of_eq hg.symm)) hb); have n3_ := Aside0.mk (IsS58.below (by repeat (first | (with_reducible first | exact HI311.out | apply IsS58.alloc | apply IsS58.drewN | apply IsS58.drew | apply IsS58.set_1 | apply IsS58.set_2 | refine IsS58.far ?_ NB311_321.out _) | exact HI311.out)) hb); have n4_ := Aside0.mk (blk_below (g := gb321) (o := .cells #[.slice Ao71 t317.length co71] 31 (0, 0)) (by (with_reducible repeat (first | refine blk_drewN ?_ _ | refine blk_drew ?_ | refine blk_alloc ?_ _)); exact BK321.out) hb); have n5_ := Aside0.mk (below_step (by repeat (first | (with_reducible first | exact HB.out | apply below_alloc | apply pw_below_drewN | apply below_drew1 | refine below_set ?_ (IsS58.ge HI311.out) | refine below_set ?_ GE321.out) | exact HB.out)) hb); have n6_ := Aside0.mk (hbox); have n7_ := Aside0.mk ((by rw [hg]; exact (below_size (by repeat (first | (with_reducible first | exact HB.out | apply below_alloc | apply pw_below_drewN | apply below_drew1 | refine below_set ?_ (IsS58.ge HI311.out) | refine below_set ?_ GE321.out) | exact HB.out))) : w.heap.size ≤ gb327)); have n8_ := Aside0.mk ((by rw [hg]; exact (below_size (by repeat (first | (with_reducible first | exact HB.out | apply below_alloc | apply pw_below_drewN | apply below_drew1 | refine below_set ?_ (IsS58.ge HI311.out) | refine below_set ?_ GE321.out) | exact HB.out))) : w.heap.size ≤ gb327)); have n9_ := Aside0.mk ((by rw [hg]; exact Nat.ne_of_lt (blk_lt (g := gb321) (o := .cells #[.slice Ao71 t317.length co71] 31 (0, 0)) (by (with_reducible repeat (first | refine blk_drewN ?_ _ | refine blk_drew ?_ | refine blk_alloc ?_ _)); exact BK321.out)) : gb321 ≠ gb327)); have n10_ := Aside0.mk ((by rw [hg]; exact Nat.ne_of_gt (blk_lt (g := gb321) (o := .cells #[.slice Ao71 t317.length co71] 31 (0, 0)) (by (with_reducible repeat (first | refine blk_drewN ?_ _ | refine blk_drew ?_ | refine blk_alloc ?_ _)); exact BK321.out)) : gb327 ≠ gb321)); have n11_ := Aside0.mk ((by rw [hg]; exact Nat.ne_of_lt (IsS58.lt (show IsS58 w _ g311 t308 t315 t316 from by repeat (first | (with_reducible first | exact HI311.out | apply IsS58.alloc | apply IsS58.drewN | apply IsS58.drew | apply IsS58.set_1 | apply IsS58.set_2 | refine IsS58.far ?_ NB311_321.out _) | exact HI311.out))) : g311 ≠ gb327)); have n12_ := Aside0.mk ((by rw [hg]; exact Nat.ne_of_gt (IsS58.lt (show IsS58 w _ g311 t308 t315 t316 from by repeat (first | (with_reducible first | exact HI311.out | apply IsS58.alloc | apply IsS58.drewN | apply IsS58.drew | apply IsS58.set_1 | apply IsS58.set_2 | refine IsS58.far ?_ NB311_321.out _) | exact HI311.out))) : gb327 ≠ g311)); clear HO314; clear HO319; clear HO325; clear HI311; clear BK321; clear HB; have HO314 := n0_; have HO319 := n1_; have HO325 := n2_; have HI311 := n3_; have BK321 := n4_; have HB := n5_; have BK327 := n6_; have GW327 := n7_; have GE327 := n8_; have NB321_327 := n9_; have NB327_321 := n10_; have NB311_327 := n11_; have NB327_311 := n12_; clear n0_ n1_ n2_ n3_ n4_ n5_ n6_ n7_ n8_ n9_ n10_ n11_ n12_; clear hb hbox hg; obtain ⟨Ao76, co76, eo76⟩ := Kd.V_slice HO325.out; subst eo76; have hnb77 := NB327_321.out; have hnc77 := NB321_327.out; have hnb78 := NB327_311.out; have hnc78 := NB311_327.out; have hcz79_0 : w75.cell? ⟨gb327, 0, none⟩ = some (.slice none 0 0) := (blk_cell BK327.out 0).trans rfl; have hfz79_0 := blk_frozen BK327.out 0))
      go_ret
      exact ⟨by first | rfl | (simp [errW_none, errW_some] <;> rfl) | (simp [*, errW_none, errW_some] <;> rfl), by repeat (first | (with_reducible first | exact HB.out | apply below_alloc | apply pw_below_drewN | apply below_drew1 | refine below_set ?_ (IsS58.ge HI311.out) | refine below_set ?_ GE321.out | refine below_set ?_ GE327.out) | exact HB.out)⟩
  · rw [if_neg c5] at H
    have c5b0 : (t320 == 0) = false := beq_eq_false_iff_ne.mpr c5
    have c5b1 : (t320 != 0) = true := bne_iff_ne.mpr c5
    by_cases c80 : (t317.length : Int) = 0
    · rw [if_pos c80] at H
      have c80b0 : ((t317.length : Int) == 0) = true := beq_iff_eq.mpr c80
      have c80b1 : ((t317.length : Int) != 0) = false := bne_eq_false_iff_eq.mpr c80
      clear c80
      replace H := Option.bind_eq_some_iff.mp H
      obtain ⟨t322, A810, H⟩ := H
      replace H : (some t322) = some r := H
      have A81 := Aside0.mk A810
      clear A810
      obtain rfl := Option.some.inj H
      go_enter Tryd.func5, Tryd.ntmps5
      go_wp2_with (first | ((with_reducible refine gate_callee (f := 15) rfl ?_); refine goesL_ (some 9) rfl rfl Tryd.func15 (by kernel_rfl) rfl #[.slice A0 l0.length c0] rfl (by (try simp only [List.map_toArray, List.map_cons, List.map_nil]); first | done | rfl | (simp only [List.length_drop, List.length_take]; rfl)) ?_; (with_reducible refine (exactpplmake_New.calls _ _ l0 t308 t309 t310 w _ ?side1 ?side2 ?side3 A2.out).mono ?_); (case side1 => repeat (first | (with_reducible first | exact HB.out | apply below_alloc | apply pw_below_drewN | apply below_drew1) | exact HB.out)); (case side2 => exact HR0.out); (case side3 => exact HC0.out); rintro e w82 ⟨g311, rfl, hi, hb, hb2⟩; refine ⟨_, rfl, ?_⟩; have n0_ := Aside0.mk (hb); have n1_ := Aside0.mk (hi); clear HB; have HB := n0_; have HI311 := n1_; clear n0_ n1_; (try clear hb); (try clear hb2); (try clear hk); (try clear hi)) | ((with_reducible refine gate_callee (f := 16) rfl ?_); refine goesL_ (some 10) rfl rfl Tryd.func16 (by kernel_rfl) rfl #[.pointer (some ⟨g311, 0, none⟩)] rfl (by (try simp only [List.map_toArray, List.map_cons, List.map_nil]); first | done | rfl | (simp only [List.length_drop, List.length_take]; rfl)) ?_; (with_reducible refine (exactpplmake_Src_Nodes.calls k g311 t308 t309 t310 t312 t315 t316 w _ ?side1 ?side2 A3.out).mono ?_); (case side1 => repeat (first | (with_reducible first | exact HI311.out | apply IsS58.alloc | apply IsS58.drewN | apply IsS58.drew | apply IsS58.set_1 | apply IsS58.set_2) | exact HI311.out)); (case side2 => repeat (first | (with_reducible first | exact HB.out | apply below_alloc | apply pw_below_drewN | apply below_drew1 | refine below_set ?_ (IsS58.ge HI311.out)) | exact HB.out)); rintro e w83 ⟨v313, rfl, ho0, hi, hb, hk⟩; refine ⟨_, rfl, ?_⟩; have n0_ := Aside0.mk (Kd.S_lower ho0 (below_size (by repeat (first | (with_reducible first | exact HB.out | apply below_alloc | apply pw_below_drewN | apply below_drew1 | refine below_set ?_ (IsS58.ge HI311.out)) | exact HB.out)))); have n1_ := Aside0.mk (hb); have n2_ := Aside0.mk (hi); clear HB; clear HI311; have HO314 := n0_; have HB := n1_; have HI311 := n2_; clear n0_ n1_ n2_; (try clear hb); (try clear hb2); (try clear hk); (try clear hi); (try clear ho0); obtain ⟨Ao84, co84, eo84⟩ := Kd.S_slice HO314.out; subst eo84) | ((with_reducible refine gate_callee (f := 19) rfl ?_); refine goesL_ (some 11) rfl rfl Tryd.func19 (by kernel_rfl) rfl #[.slice Ao84 t312.length co84] rfl (by (try simp only [List.map_toArray, List.map_cons, List.map_nil]); first | done | rfl | (simp only [List.length_drop, List.length_take]; rfl)) ?_; (with_reducible refine (diagram_Reduce.calls _ _ t312 t317 t320 _ ?side1 ?side2 A4.out ?tab).mono ?_); (case tab => exact ptab HTAB.out (by repeat (first | (with_reducible first | exact HB.out | apply below_alloc | apply pw_below_drewN | apply below_drew1 | refine below_set ?_ (IsS58.ge HI311.out)) | exact HB.out))); (case side1 => repeat (first | exact (Kd.S_reads' HO314.out).2.2 | (with_reducible refine Kd.C_alloc ?_ _) | (with_reducible refine Kd.C_drewN ?_ _) | (with_reducible refine Kd.C_drew ?_))); (case side2 => exact (Kd.S_reads' HO314.out).2.1); rintro e w85 ⟨v318, rfl, ho0, hb⟩; refine ⟨_, rfl, ?_⟩; have n0_ := Aside0.mk (Kd.S_below (by (with_reducible repeat (first | apply Kd.S_alloc | apply Kd.S_drewN | apply Kd.S_drew)); exact HO314.out) hb); have n1_ := Aside0.mk (Kd.V_lower (Kd.V_mono (ok' := fun k_ => some k_ ≠ (.slice Ao84 t312.length co84 : Value).ownBlock ∧ k_ ≠ g311) ho0 (fun k_ hk_ => ⟨(Kd.fresh' (Kd.S_lt (by (with_reducible repeat (first | apply Kd.S_alloc | apply Kd.S_drewN | apply Kd.S_drew)); exact HO314.out)) k_ hk_), (IsS58.fresh (by repeat (first | (with_reducible first | exact HI311.out | apply IsS58.alloc | apply IsS58.drewN | apply IsS58.drew | apply IsS58.set_1 | apply IsS58.set_2) | exact HI311.out)) k_ hk_)⟩)) (below_size (by repeat (first | (with_reducible first | exact HB.out | apply below_alloc | apply pw_below_drewN | apply below_drew1 | refine below_set ?_ (IsS58.ge HI311.out)) | exact HB.out)))); have n2_ := Aside0.mk (IsS58.below (by repeat (first | (with_reducible first | exact HI311.out | apply IsS58.alloc | apply IsS58.drewN | apply IsS58.drew | apply IsS58.set_1 | apply IsS58.set_2) | exact HI311.out)) hb); have n3_ := Aside0.mk (below_step (by repeat (first | (with_reducible first | exact HB.out | apply below_alloc | apply pw_below_drewN | apply below_drew1 | refine below_set ?_ (IsS58.ge HI311.out)) | exact HB.out)) hb); clear HO314; clear HI311; clear HB; have HO314 := n0_; have HO319 := n1_; have HI311 := n2_; have HB := n3_; clear n0_ n1_ n2_ n3_; (try clear hb); (try clear hb2); (try clear hk); (try clear hi); (try clear ho0)) | ((with_reducible refine gate_dst (N := 3) rfl ?_); refine box_event ?hg (N := 3) ?hd (cs := #[.slice none 0 0]) (t := 31) ?hr ?_; (case hd => rfl); (case hg => rfl); (case hr => first | (go_simp; done) | (go_simp; rfl)); intro gb321 hg w86 hbox hb; have n0_ := Aside0.mk (Kd.S_below (by (with_reducible repeat (first | apply Kd.S_alloc | apply Kd.S_drewN | apply Kd.S_drew)); exact HO314.out) hb); have n1_ := Aside0.mk (Kd.V_below (Kd.V_elderB (by (with_reducible repeat (first | apply Kd.V_alloc | apply Kd.V_drewN | apply Kd.V_drew)); exact HO319.out) gb321 (Nat.le_of_eq hg.symm)) hb); have n2_ := Aside0.mk (IsS58.below (by repeat (first | (with_reducible first | exact HI311.out | apply IsS58.alloc | apply IsS58.drewN | apply IsS58.drew | apply IsS58.set_1 | apply IsS58.set_2) | exact HI311.out)) hb); have n3_ := Aside0.mk (below_step (by repeat (first | (with_reducible first | exact HB.out | apply below_alloc | apply pw_below_drewN | apply below_drew1 | refine below_set ?_ (IsS58.ge HI311.out)) | exact HB.out)) hb); have n4_ := Aside0.mk (hbox); have n5_ := Aside0.mk ((by rw [hg]; exact (below_size (by repeat (first | (with_reducible first | exact HB.out | apply below_alloc | apply pw_below_drewN | apply below_drew1 | refine below_set ?_ (IsS58.ge HI311.out)) | exact HB.out))) : w.heap.size ≤ gb321)); have n6_ := Aside0.mk ((by rw [hg]; exact (below_size (by repeat (first | (with_reducible first | exact HB.out | apply below_alloc | apply pw_below_drewN | apply below_drew1 | refine below_set ?_ (IsS58.ge HI311.out)) | exact HB.out))) : w.heap.size ≤ gb321)); have n7_ := Aside0.mk ((by rw [hg]; exact Nat.ne_of_lt (IsS58.lt (show IsS58 w _ g311 t308 t315 t316 from by repeat (first | (with_reducible first | exact HI311.out | apply IsS58.alloc | apply IsS58.drewN | apply IsS58.drew | apply IsS58.set_1 | apply IsS58.set_2) | exact HI311.out))) : g311 ≠ gb321)); have n8_ := Aside0.mk ((by rw [hg]; exact Nat.ne_of_gt (IsS58.lt (show IsS58 w _ g311 t308 t315 t316 from by repeat (first | (with_reducible first | exact HI311.out | apply IsS58.alloc | apply IsS58.drewN | apply IsS58.drew | apply IsS58.set_1 | apply IsS58.set_2) | exact HI311.out))) : gb321 ≠ g311)); clear HO314; clear HO319; clear HI311; clear HB; have HO314 := n0_; have HO319 := n1_; have HI311 := n2_; have HB := n3_; have BK321 := n4_; have GW321 := n5_; have GE321 := n6_; have NB311_321 := n7_; have NB321_311 := n8_; clear n0_ n1_ n2_ n3_ n4_ n5_ n6_ n7_ n8_; clear hb hbox hg; obtain ⟨Ao87, co87, eo87⟩ := Kd.V_slice HO319.out; subst eo87; have hnb88 := NB321_311.out; have hnc88 := NB311_321.out; have hcz89_0 : w86.cell? ⟨gb321, 0, none⟩ = some (.slice none 0 0) := (blk_cell BK321.out 0).trans rfl; have hfz89_0 := blk_frozen BK321.out 0) | (go_at_call 17; (with_reducible refine (exactppllaw19_awake.calls  t322 _ A81.out ?tab).mono ?_); (case tab => exact ptab HTAB.out (by repeat (first | (with_reducible first | exact HB.out | apply below_alloc | apply pw_below_drewN | apply below_drew1 | refine below_set ?_ (IsS58.ge HI311.out) | refine below_set ?_ GE321.out) | exact HB.out))); rintro e w90 ⟨rfl, hb⟩; have n0_ := Aside0.mk (Kd.S_below (by (with_reducible repeat (first | apply Kd.S_alloc | apply Kd.S_drewN | apply Kd.S_drew)); exact (Kd.S_mono (Kd.S_far (p := ⟨gb321, 0, none⟩) (Kd.S_types HO314.out BK321.out (by decide)) (fun _ hk => hk.2) (.slice Ao87 t317.length co87)) (fun _ h_ => h_.1))) hb); have n1_ := Aside0.mk (Kd.V_below (by (with_reducible repeat (first | apply Kd.V_alloc | apply Kd.V_drewN | apply Kd.V_drew)); exact (Kd.V_mono (Kd.V_far (p := ⟨gb321, 0, none⟩) (Kd.V_mono HO319.out (fun k_ hk => (⟨hk, by first | exact hk.2 | exact hk.1 | exact hk.2 | exact hk.1.1 | exact hk.1.2⟩ : _ ∧ k_ ≠ gb321))) (fun _ hk => hk.2) (.slice Ao87 t317.length co87)) (fun _ h_ => h_.1))) hb); have n2_ := Aside0.mk (IsS58.below (show IsS58 w (w86.setCell ⟨gb321, 0, none⟩ (.slice Ao87 t317.length co87)) g311 t308 t315 t316 from by repeat (first | (with_reducible first | exact HI311.out | apply IsS58.alloc | apply IsS58.drewN | apply IsS58.drew | apply IsS58.set_1 | apply IsS58.set_2 | refine IsS58.far ?_ NB311_321.out _) | exact HI311.out)) hb); have n3_ := Aside0.mk (blk_below (g := gb321) (o := .cells #[.slice Ao87 t317.length co87] 31 (0, 0)) (by (with_reducible repeat (first | refine blk_drewN ?_ _ | refine blk_drew ?_ | refine blk_alloc ?_ _)); refine blk_put (cs := #[.slice none 0 0]) ?_ 0 _ rfl; (with_reducible repeat (first | refine blk_drewN ?_ _ | refine blk_drew ?_ | refine blk_alloc ?_ _)); exact BK321.out) hb); have n4_ := Aside0.mk (below_step (by repeat (first | (with_reducible first | exact HB.out | apply below_alloc | apply pw_below_drewN | apply below_drew1 | refine below_set ?_ (IsS58.ge HI311.out) | refine below_set ?_ GE321.out) | exact HB.out)) hb); clear HO314; clear HO319; clear HI311; clear BK321; clear HB; have HO314 := n0_; have HO319 := n1_; have HI311 := n2_; have BK321 := n3_; have HB := n4_; clear n0_ n1_ n2_ n3_ n4_; (try clear hb); (try clear hb2); (try clear hk); (try clear hi)))
      go_ret
      exact ⟨by first | rfl | (simp [errW_none, errW_some] <;> rfl) | (simp [*, errW_none, errW_some] <;> rfl), by repeat (first | (with_reducible first | exact HB.out | apply below_alloc | apply pw_below_drewN | apply below_drew1 | refine below_set ?_ (IsS58.ge HI311.out) | refine below_set ?_ GE321.out) | exact HB.out)⟩
    · rw [if_neg c80] at H
      have c80b0 : ((t317.length : Int) == 0) = false := beq_eq_false_iff_ne.mpr c80
      have c80b1 : ((t317.length : Int) != 0) = true := bne_iff_ne.mpr c80
      have c80b2 : ¬ (t317 = []) := fun h_ => c80 (by rw [h_]; rfl)
      obtain rfl := Option.some.inj H
      go_enter Tryd.func5, Tryd.ntmps5
      go_wp2_with (first | ((with_reducible refine gate_callee (f := 15) rfl ?_); refine goesL_ (some 9) rfl rfl Tryd.func15 (by kernel_rfl) rfl #[.slice A0 l0.length c0] rfl (by (try simp only [List.map_toArray, List.map_cons, List.map_nil]); first | done | rfl | (simp only [List.length_drop, List.length_take]; rfl)) ?_; (with_reducible refine (exactpplmake_New.calls _ _ l0 t308 t309 t310 w _ ?side1 ?side2 ?side3 A2.out).mono ?_); (case side1 => repeat (first | (with_reducible first | exact HB.out | apply below_alloc | apply pw_below_drewN | apply below_drew1) | exact HB.out)); (case side2 => exact HR0.out); (case side3 => exact HC0.out); rintro e w91 ⟨g311, rfl, hi, hb, hb2⟩; refine ⟨_, rfl, ?_⟩; have n0_ := Aside0.mk (hb); have n1_ := Aside0.mk (hi); clear HB; have HB := n0_; have HI311 := n1_; clear n0_ n1_; (try clear hb); (try clear hb2); (try clear hk); (try clear hi)) | ((with_reducible refine gate_callee (f := 16) rfl ?_); refine goesL_ (some 10) rfl rfl Tryd.func16 (by kernel_rfl) rfl #[.pointer (some ⟨g311, 0, none⟩)] rfl (by (try simp only [List.map_toArray, List.map_cons, List.map_nil]); first | done | rfl | (simp only [List.length_drop, List.length_take]; rfl)) ?_; (with_reducible refine (exactpplmake_Src_Nodes.calls k g311 t308 t309 t310 t312 t315 t316 w _ ?side1 ?side2 A3.out).mono ?_); (case side1 => repeat (first | (with_reducible first | exact HI311.out | apply IsS58.alloc | apply IsS58.drewN | apply IsS58.drew | apply IsS58.set_1 | apply IsS58.set_2) | exact HI311.out)); (case side2 => repeat (first | (with_reducible first | exact HB.out | apply below_alloc | apply pw_below_drewN | apply below_drew1 | refine below_set ?_ (IsS58.ge HI311.out)) | exact HB.out)); rintro e w92 ⟨v313, rfl, ho0, hi, hb, hk⟩; refine ⟨_, rfl, ?_⟩; have n0_ := Aside0.mk (Kd.S_lower ho0 (below_size (by repeat (first | (with_reducible first | exact HB.out | apply below_alloc | apply pw_below_drewN | apply below_drew1 | refine below_set ?_ (IsS58.ge HI311.out)) | exact HB.out)))); have n1_ := Aside0.mk (hb); have n2_ := Aside0.mk (hi); clear HB; clear HI311; have HO314 := n0_; have HB := n1_; have HI311 := n2_; clear n0_ n1_ n2_; (try clear hb); (try clear hb2); (try clear hk); (try clear hi); (try clear ho0); obtain ⟨Ao93, co93, eo93⟩ := Kd.S_slice HO314.out; subst eo93) | ((with_reducible refine gate_callee (f := 19) rfl ?_); refine goesL_ (some 11) rfl rfl Tryd.func19 (by kernel_rfl) rfl #[.slice Ao93 t312.length co93] rfl (by (try simp only [List.map_toArray, List.map_cons, List.map_nil]); first | done | rfl | (simp only [List.length_drop, List.length_take]; rfl)) ?_; (with_reducible refine (diagram_Reduce.calls _ _ t312 t317 t320 _ ?side1 ?side2 A4.out ?tab).mono ?_); (case tab => exact ptab HTAB.out (by repeat (first | (with_reducible first | exact HB.out | apply below_alloc | apply pw_below_drewN | apply below_drew1 | refine below_set ?_ (IsS58.ge HI311.out)) | exact HB.out))); (case side1 => repeat (first | exact (Kd.S_reads' HO314.out).2.2 | (with_reducible refine Kd.C_alloc ?_ _) | (with_reducible refine Kd.C_drewN ?_ _) | (with_reducible refine Kd.C_drew ?_))); (case side2 => exact (Kd.S_reads' HO314.out).2.1); rintro e w94 ⟨v318, rfl, ho0, hb⟩; refine ⟨_, rfl, ?_⟩; have n0_ := Aside0.mk (Kd.S_below (by (with_reducible repeat (first | apply Kd.S_alloc | apply Kd.S_drewN | apply Kd.S_drew)); exact HO314.out) hb); have n1_ := Aside0.mk (Kd.V_lower (Kd.V_mono (ok' := fun k_ => some k_ ≠ (.slice Ao93 t312.length co93 : Value).ownBlock ∧ k_ ≠ g311) ho0 (fun k_ hk_ => ⟨(Kd.fresh' (Kd.S_lt (by (with_reducible repeat (first | apply Kd.S_alloc | apply Kd.S_drewN | apply Kd.S_drew)); exact HO314.out)) k_ hk_), (IsS58.fresh (by repeat (first | (with_reducible first | exact HI311.out | apply IsS58.alloc | apply IsS58.drewN | apply IsS58.drew | apply IsS58.set_1 | apply IsS58.set_2) | exact HI311.out)) k_ hk_)⟩)) (below_size (by repeat (first | (with_reducible first | exact HB.out | apply below_alloc | apply pw_below_drewN | apply below_drew1 | refine below_set ?_ (IsS58.ge HI311.out)) | exact HB.out)))); have n2_ := Aside0.mk (IsS58.below (by repeat (first | (with_reducible first | exact HI311.out | apply IsS58.alloc | apply IsS58.drewN | apply IsS58.drew | apply IsS58.set_1 | apply IsS58.set_2) | exact HI311.out)) hb); have n3_ := Aside0.mk (below_step (by repeat (first | (with_reducible first | exact HB.out | apply below_alloc | apply pw_below_drewN | apply below_drew1 | refine below_set ?_ (IsS58.ge HI311.out)) | exact HB.out)) hb); clear HO314; clear HI311; clear HB; have HO314 := n0_; have HO319 := n1_; have HI311 := n2_; have HB := n3_; clear n0_ n1_ n2_ n3_; (try clear hb); (try clear hb2); (try clear hk); (try clear hi); (try clear ho0)) | ((with_reducible refine gate_dst (N := 3) rfl ?_); refine box_event ?hg (N := 3) ?hd (cs := #[.slice none 0 0]) (t := 31) ?hr ?_; (case hd => rfl); (case hg => rfl); (case hr => first | (go_simp; done) | (go_simp; rfl)); intro gb321 hg w95 hbox hb; have n0_ := Aside0.mk (Kd.S_below (by (with_reducible repeat (first | apply Kd.S_alloc | apply Kd.S_drewN | apply Kd.S_drew)); exact HO314.out) hb); have n1_ := Aside0.mk (Kd.V_below (Kd.V_elderB (by (with_reducible repeat (first | apply Kd.V_alloc | apply Kd.V_drewN | apply Kd.V_drew)); exact HO319.out) gb321 (Nat.le_of_eq hg.symm)) hb); have n2_ := Aside0.mk (IsS58.below (by repeat (first | (with_reducible first | exact HI311.out | apply IsS58.alloc | apply IsS58.drewN | apply IsS58.drew | apply IsS58.set_1 | apply IsS58.set_2) | exact HI311.out)) hb); have n3_ := Aside0.mk (below_step (by repeat (first | (with_reducible first | exact HB.out | apply below_alloc | apply pw_below_drewN | apply below_drew1 | refine below_set ?_ (IsS58.ge HI311.out)) | exact HB.out)) hb); have n4_ := Aside0.mk (hbox); have n5_ := Aside0.mk ((by rw [hg]; exact (below_size (by repeat (first | (with_reducible first | exact HB.out | apply below_alloc | apply pw_below_drewN | apply below_drew1 | refine below_set ?_ (IsS58.ge HI311.out)) | exact HB.out))) : w.heap.size ≤ gb321)); have n6_ := Aside0.mk ((by rw [hg]; exact (below_size (by repeat (first | (with_reducible first | exact HB.out | apply below_alloc | apply pw_below_drewN | apply below_drew1 | refine below_set ?_ (IsS58.ge HI311.out)) | exact HB.out))) : w.heap.size ≤ gb321)); have n7_ := Aside0.mk ((by rw [hg]; exact Nat.ne_of_lt (IsS58.lt (show IsS58 w _ g311 t308 t315 t316 from by repeat (first | (with_reducible first | exact HI311.out | apply IsS58.alloc | apply IsS58.drewN | apply IsS58.drew | apply IsS58.set_1 | apply IsS58.set_2) | exact HI311.out))) : g311 ≠ gb321)); have n8_ := Aside0.mk ((by rw [hg]; exact Nat.ne_of_gt (IsS58.lt (show IsS58 w _ g311 t308 t315 t316 from by repeat (first | (with_reducible first | exact HI311.out | apply IsS58.alloc | apply IsS58.drewN | apply IsS58.drew | apply IsS58.set_1 | apply IsS58.set_2) | exact HI311.out))) : gb321 ≠ g311)); clear HO314; clear HO319; clear HI311; clear HB; have HO314 := n0_; have HO319 := n1_; have HI311 := n2_; have HB := n3_; have BK321 := n4_; have GW321 := n5_; have GE321 := n6_; have NB311_321 := n7_; have NB321_311 := n8_; clear n0_ n1_ n2_ n3_ n4_ n5_ n6_ n7_ n8_; clear hb hbox hg; obtain ⟨Ao96, co96, eo96⟩ := Kd.V_slice HO319.out; subst eo96; have hnb97 := NB321_311.out; have hnc97 := NB311_321.out; have hcz98_0 : w95.cell? ⟨gb321, 0, none⟩ = some (.slice none 0 0) := (blk_cell BK321.out 0).trans rfl; have hfz98_0 := blk_frozen BK321.out 0))
      go_ret
      exact ⟨by first | rfl | (simp [errW_none, errW_some] <;> rfl) | (simp [*, errW_none, errW_some] <;> rfl), by repeat (first | (with_reducible first | exact HB.out | apply below_alloc | apply pw_below_drewN | apply below_drew1 | refine below_set ?_ (IsS58.ge HI311.out) | refine below_set ?_ GE321.out) | exact HB.out)⟩

/-- THE ONE PURE STATEMENT of exactppllaw19_DiagramSettles: yours. -/
def exactppllaw19_DiagramSettles.Pure : Prop := ∀ (l0 : List Int), l0.length ≤ maxLen → l0.length * 8 ≤ 140737488351232 → (∀ x ∈ l0, (Lit.int .i64 x).wf = true) → ∃ k, exactppllaw19_DiagramSettles.f k l0 = some true
theorem exactppllaw19_DiagramSettles.walk (P : exactppllaw19_DiagramSettles.Pure) (a0 : Option Addr) (len0 cap0 : Nat) (z0 : List Int) (w : World) (htab : PowTab w.heap.size w) (w0 : (a0 = none ∧ len0 = 0 ∧ cap0 = 0 ∧ z0 = []) ∨ ∃ x, a0 = some x ∧ len0 ≤ cap0 ∧ cap0 ≤ maxLen ∧ z0.length = cap0 ∧ (∀ i, i < z0.length → w.cell? (x.add i) = some (.int .i64 (z0.getD i 0))) ∧ ∀ n ∈ z0, (Lit.int .i64 n).wf = true) (y0 : len0 * 8 ≤ 140737488351232) :
    Calls Tryd.prog 5 #[.slice a0 len0 cap0] w fun e w' => e = .returned (.bool true) ∧ Below w.heap.size w w' := by
  obtain ⟨l0, rfl, hr0, hm0, hw0, hc0⟩ := ReadsInt.ofRowC w0
  obtain ⟨k, h⟩ := P l0 hm0 y0 hw0
  refine (exactppllaw19_DiagramSettles.calls k _ _ l0 true w (Kd.C_of_reads (d := (0 : Int)) (h1 := fun _ => rfl) hr0) hc0 h htab).mono ?_
  rintro e w' ⟨rfl, hd⟩
  exact ⟨rfl, hd⟩

end Go.Proofs.YtopbjginpmdebaaDoor.K
namespace Go.Proofs.YtopbjginpmdebaaDoor.K
open Go.RowKit Go.Proofs.YtopbjginpmdebaaDoorW.PrintWords Go.Proofs.YtopbjginpmdebaaDoorW.PrintLast Go.Proofs.YtopbjginpmdebaaDoorW.PrintMore
attribute [local go_sem] max2_int min2_int max_two min_two max_three min_three max_four min_four   -- for this text's walks alone
set_option linter.unusedVariables false
set_option linter.unusedSimpArgs false

/-! ### exactpplref19_IsBranch: function 55 -/
def exactpplref19_IsBranch.f (a0_0 : Int) (a0_1 : Int) (l0_2 : List Int) : Option (Bool) := some (a0_0 != (-1))
set_option maxHeartbeats 8000000 in
set_option maxRecDepth 100000 in
theorem exactpplref19_IsBranch.calls (a0_0 : Int) (a0_1 : Int) (A0_2 : Option Addr) (c0_2 : Nat) (l0_2 : List Int) (r : Bool) (w : World) (hr0_2 : Kd.C (Kd.int .i64) w A0_2 l0_2.length l0_2) (hc0_2 : l0_2.length ≤ c0_2) (h : exactpplref19_IsBranch.f a0_0 a0_1 l0_2 = some r) :
    Calls Tryd.prog 55 #[.agg #[.int .i64 a0_0, .int .i64 a0_1, .slice A0_2 l0_2.length c0_2]] w fun e w' => e = .returned (.bool r) ∧ Below w.heap.size w w' := by
  have hu60 := Tryd.underlying60
  have HR0_2 := Aside0.mk hr0_2
  have HC0_2 := Aside0.mk hc0_2
  clear hr0_2 hc0_2
  have HB := Aside0.mk (Below.refl w.heap.size w)
  have H : (some (a0_0 != (-1))) = some r := h
  clear h
  obtain rfl := Option.some.inj H
  go_enter Tryd.func55, Tryd.ntmps55
  go_wp2_with (first | ((with_reducible refine gate_dst (N := 1) rfl ?_); refine box_event ?hg (N := 1) ?hd (cs := #[.int .i64 a0_0, .int .i64 a0_1, .slice A0_2 l0_2.length c0_2]) (t := 60) ?hr ?_; (case hd => rfl); (case hg => rfl); (case hr => first | (go_simp; done) | (go_simp; rfl)); intro gb144 hg w2 hbox hb; have n0_ := Aside0.mk (below_step (by repeat (first | (with_reducible first | exact HB.out | apply below_alloc | apply pw_below_drewN | apply below_drew1) | exact HB.out)) hb); have n1_ := Aside0.mk (hbox); have n2_ := Aside0.mk ((by rw [hg]; exact (below_size (by repeat (first | (with_reducible first | exact HB.out | apply below_alloc | apply pw_below_drewN | apply below_drew1) | exact HB.out))) : w.heap.size ≤ gb144)); have n3_ := Aside0.mk ((by rw [hg]; exact (below_size (by repeat (first | (with_reducible first | exact HB.out | apply below_alloc | apply pw_below_drewN | apply below_drew1) | exact HB.out))) : w.heap.size ≤ gb144)); clear HB; have HB := n0_; have BK144 := n1_; have GW144 := n2_; have GE144 := n3_; clear n0_ n1_ n2_ n3_; clear hb hbox hg; have hcz3_0 : w2.cell? ⟨gb144, 0, none⟩ = some (.int .i64 a0_0) := (blk_cell BK144.out 0).trans rfl; have hcz3_1 : w2.cell? ⟨gb144, 1, none⟩ = some (.int .i64 a0_1) := (blk_cell BK144.out 1).trans rfl; have hcz3_2 : w2.cell? ⟨gb144, 2, none⟩ = some (.slice A0_2 l0_2.length c0_2) := (blk_cell BK144.out 2).trans rfl; have hfz3_0 := blk_frozen BK144.out 0; have hfz3_1 := blk_frozen BK144.out 1; have hfz3_2 := blk_frozen BK144.out 2))
  go_ret
  exact ⟨by first | rfl | (simp [errW_none, errW_some] <;> rfl) | (simp [*, errW_none, errW_some] <;> rfl), by repeat (first | (with_reducible first | exact HB.out | apply below_alloc | apply pw_below_drewN | apply below_drew1 | refine below_set ?_ GE144.out) | exact HB.out)⟩

end Go.Proofs.YtopbjginpmdebaaDoor.K
