/- Lemmas for: Proved: the tied card of exactppllaw19.DiagramUnique (for every input the law returns true). Conditions: none beyond the given row. -/
import Derived.StillTailTactics
import Derived.BigRegion
import Derived.Maps.RangeWalk
import Derived.Test.YtopbjginpmdebaaDoorUn2
import Derived.Test.YtopbjginpmdebaaDoorUn3
-- exactpplref19.Place
namespace Go.Proofs.YtopbjginpmdebaaDoor.K
open Go.RowKit Go.Maps Go.Proofs.YtopbjginpmdebaaDoorW.PrintWords Go.Proofs.YtopbjginpmdebaaDoorW.PrintLast Go.Proofs.YtopbjginpmdebaaDoorW.PrintMore
set_option linter.unusedVariables false
set_option linter.unusedSimpArgs false
/-- the reference's Place -/
def plR (u : List Nd) (n : Nd) : List Nd × Int := if n.f0 ≠ -1 ∧ sameK n.f2 = true then (u, n.f2.headD 0) else place0 u n
/-- what is the call's own, or was the row's -/
def OwnOr (w : World) (v vu : Value) : Prop := v.ownBlock = vu.ownBlock ∨ ∃ b, v.ownBlock = some b ∧ w.heap.size ≤ b
/-- how Place ends -/
def PlPost (base : Nat) (ok : Nat → Prop) (vu : Value) (w : World) (r : List Nd × Int) (e : Ending) (w' : World) : Prop := ∃ v', e = .returned (.tuple #[v', .int .i64 r.2]) ∧ k60.R 60 w' base ok v' r.1 ∧ w.grownBy w' vu.ownBlock ∧ OwnOr w v' vu
theorem grown_below' {w W : World} {x : Option Nat} (hb : Below w.heap.size w W) : w.grownBy W x := ⟨hb.os, hb.tape, hb.output, hb.size, fun j hj _ => hb.block j hj⟩
theorem place0_at {u : List Nd} {n : Nd} {k : Nat} (hk : k < u.length) (he : nth u (k : Int) = n) (hall : ∀ j : Nat, j < k → nth u (j : Int) ≠ n) : place0 u n = (u, (k : Int)) := by
  have hm : n ∈ u := by rw [← he, nth_lt hk]; exact List.getElem_mem hk
  unfold place0
  rw [if_pos hm]
  have h1 := List.idxOf_lt_length_of_mem hm
  have h2 : nth u ((u.idxOf n : Nat) : Int) = n := by rw [nth_lt h1]; simp
  have h3 : u.idxOf n ≤ k := by
    rcases Nat.lt_or_ge k (u.idxOf n) with h | h
    · have := List.not_of_lt_findIdx (p := (· == n)) (xs := u) (by unfold List.idxOf at h; exact h)
      rw [nth_lt hk] at he
      simp [he] at this
    · exact h
  have h4 : ¬ u.idxOf n < k := fun h => hall _ h h2
  have h5 : u.idxOf n = k := by omega
  rw [h5]
theorem place0_out {u : List Nd} {n : Nd} (hall : ∀ j : Nat, j < u.length → nth u (j : Int) ≠ n) : place0 u n = (u ++ [n], (u.length : Int)) := by
  unfold place0
  rw [if_neg]
  intro hm
  obtain ⟨i, hi, e⟩ := List.getElem_of_mem hm
  exact hall i hi (by rw [nth_lt hi]; exact e)
set_option maxHeartbeats 16000000 in
set_option maxRecDepth 100000 in
theorem place_calls (base : Nat) (ok okn : Nat → Prop) (u : List Nd) (n : Nd) (Au An : Option Addr) (cu cn_ : Nat) (w : World) (hbs : base ≤ w.heap.size)
    (hR : k60.R 60 w base ok (.slice Au u.length cu) u) (hn : (Kd.int .i64).R 3 w base okn (.slice An n.f2.length cn_) n.f2) (hokn : ∀ j, okn j → ok j ∧ some j ≠ (Value.slice Au u.length cu).ownBlock) (hne : n.f0 ≠ -1 → n.f2 ≠ []) (hlen : n.f2.length ≤ 1073741824)
    (hul : (u.length + 1) * 40 ≤ 140737488355328) (hkl : ∀ x ∈ u, x.f2.length ≤ 1073741824) (hnew : ∀ j, w.heap.size ≤ j → ok j) :
    Calls Tryd.prog 72 #[.slice Au u.length cu, .agg #[.int .i64 n.f0, .int .i64 n.f1, .slice An n.f2.length cn_]] w (PlPost base ok (.slice Au u.length cu) w (plR u n)) := by
  obtain ⟨f0, f1, ks⟩ := n
  simp only at hn hne hlen ⊢
  have hCn := (Kd.R_reads' hn).2.2
  have hcn := (Kd.R_reads' hn).2.1
  have hCu := (Kd.R_reads' hR).2.2
  have hcu := (Kd.R_reads' hR).2.1
  have hb0 : Below w.heap.size w (w.alloc (.cells #[.int .i64 f0, .int .i64 f1, .slice An ks.length cn_] 60)) := (Below.refl _ w).alloc (Nat.le_refl _) _
  have hbx0 := heap_alloc_new w (.cells #[.int .i64 f0, .int .i64 f1, .slice An ks.length cn_] 60)
  have hI := exactpplref19_IsBranch.calls f0 f1 An cn_ ks _ _ (Kd.C_below hCn hb0) hcn rfl
  have HR := Lib.hid hR
  have HN := Lib.hid hn
  have HOKN := Lib.hid hokn
  have HNEW := Lib.hid hnew
  have HCN := Lib.hid hCn
  have HCU := Lib.hid hCu
  have HKL := Lib.hid hkl
  have HB0 := Lib.hid hb0
  have HBX0 := Lib.hid hbx0
  obtain ⟨N, hN⟩ : ∃ N, N = u.length := ⟨_, rfl⟩
  have HNN := Lib.hid hN
  rw [← hN] at hul hcu ⊢
  clear hR hn hokn hnew hCn hCu hkl hb0 hbx0 hN
  by_cases hbr : f0 = -1
  · subst hbr
    have hpl : plR u ⟨-1, f1, ks⟩ = place0 u ⟨-1, f1, ks⟩ := by unfold plR; rw [if_neg (by simp)]
    have HPL := Lib.hid hpl
    have hnb : ((-1 : Int) != -1) = false := by decide
    rw [hnb] at hI
    clear hpl hnb hne
    go_enter Tryd.func72, Tryd.ntmps72
    go_wp2_with (go_at_call 55; refine hI.mono ?_; clear hI; rintro e w1 ⟨rfl, hb1⟩; have HB1 := Lib.hid (HB0.out.trans (hb1.mono (by simp))); have hbx1 := (hb1.block w.heap.size (by simp)).trans HBX0.out; have hlt1 := blk_lt hbx1; have c0 := (blk_cell hbx1 0); have c1 := (blk_cell hbx1 1); have c2 := (blk_cell hbx1 2); have HBX1 := Lib.hid hbx1; clear hb1 hbx1)
    go_loopw [8] (fun i wr => ∃ k : Nat, i = .int .i64 k ∧ k ≤ N ∧ Below w1.heap.size w1 wr ∧ Aside0 (∀ j : Nat, j < k → nth u (j : Int) ≠ ⟨-1, f1, ks⟩)) (fun i _ => N - (intOf i).toNat)
    case atStart => exact ⟨0, rfl, Nat.zero_le _, Below.refl _ _, ⟨fun j hj => absurd hj (Nat.not_lt_zero _)⟩⟩
    case round =>
      obtain ⟨k, rfl, hk, hB, hall⟩ := hrel
      have HALL := Lib.hid hall.out
      have hsz := hB.size
      have HB := Lib.hid hB
      have hbx2 := (hB.block _ (blk_lt HBX1.out)).trans HBX1.out
      have d0 : wr.cell? ⟨w.heap.size, 0, none⟩ = some (.int .i64 (-1)) := (blk_cell hbx2 0).trans rfl
      have d1 : wr.cell? ⟨w.heap.size, 1, none⟩ = some (.int .i64 f1) := (blk_cell hbx2 1).trans rfl
      have d2 : wr.cell? ⟨w.heap.size, 2, none⟩ = some (.slice An ks.length cn_) := (blk_cell hbx2 2).trans rfl
      have hlt2 := blk_lt hbx2
      have HBX2 := Lib.hid hbx2
      have HBW := Lib.hid (HB1.out.trans (hB.mono (HB1.out.size)))
      clear hall hbx2 hB
      by_cases hlt : k < N
      · have hku : k < u.length := by have := HNN.out; omega
        obtain ⟨ad, A2, c2', rfl, g0, g1, g2, l2, gC⟩ := at_T60 (Kd.C_below HCU.out HBW.out) (k : Int) (by omega) (by omega)
        rw [Int.toNat_natCast] at g0 g1 g2
        rw [rd_nth] at g0 g1 g2 l2 gC
        obtain ⟨m, hm⟩ : ∃ m, m = nth u (k : Int) := ⟨_, rfl⟩
        rw [← hm] at g0 g1 g2 l2 gC
        have hml : m.f2.length ≤ 1073741824 := HKL.out m (by rw [hm, nth_lt hku]; exact List.getElem_mem hku)
        have hkb : k < 4000000000000 := by omega
        have hki : (k : Int) < (N : Int) := by omega
        have hS := exactpplref19_SameNode.calls (m.f2.length + 1) m.f0 m.f1 A2 c2' m.f2 (-1) f1 An cn_ ks _ wr.drew (Kd.C_drew gC) l2 (Kd.C_drew (Kd.C_below HCN.out HBW.out)) hcn (sameNode_f m ⟨-1, f1, ks⟩ (by omega) _ (by omega))
        have HM := Lib.hid hm
        clear hm gC
        by_cases he : m = ⟨-1, f1, ks⟩
        · rw [decide_eq_true he] at hS
          have HE := Lib.hid he
          clear he
          go_wp2
          go_still_tail 5, (by kernel_rfl)
          change wpList _ _ _ _ _ wr.drew
          go_wp2_with (go_at_call 49; refine hS.mono ?_; clear hS; rintro e w3 ⟨rfl, hb3⟩; have HB3 := Lib.hid ((HBW.out.trans ((Below.refl _ wr).drew.mono HBW.out.size)).trans (hb3.mono HBW.out.size)); clear hb3)
          refine bodyPost_ret (v := .tuple #[.slice (some ad) N cu, .int .i64 k]) (by simp [results, Tryd.f72, go_sem]) rfl ⟨.slice (some ad) N cu, ?_, ?_, grown_below' HB3.out, .inl (by rw [HNN.out])⟩
          · rw [HPL.out, place0_at hku (HM.out.symm.trans HE.out) HALL.out]
          · rw [HPL.out, place0_at hku (HM.out.symm.trans HE.out) HALL.out, HNN.out]
            exact Kd.R_below HR.out HB3.out
        · rw [decide_eq_false he] at hS
          have HE := Lib.hid he
          clear he
          go_wp2
          go_still_tail 5, (by kernel_rfl)
          change wpList _ _ _ _ _ wr.drew
          go_wp2_with (go_at_call 49; refine hS.mono ?_; clear hS; rintro e w3 ⟨rfl, hb3⟩; have HB3 := Lib.hid (HB.out.drew.trans (hb3.mono hsz)); clear hb3)
          go_roundw
          case rel => exact ⟨k + 1, by go_num, hlt, HB3.out, ⟨fun j hj => by
            rcases Nat.lt_or_ge j k with h | h
            · exact HALL.out j h
            · obtain rfl : j = k := by omega
              rw [← HM.out]; exact HE.out⟩⟩
          case measure => simp [intOf]; omega
      · have hke : k = N := by omega
        have hpo := place0_out (u := u) (n := ⟨-1, f1, ks⟩) (fun j hj => HALL.out j (by have := HNN.out; omega))
        have HPO := Lib.hid hpo
        have hN' := HNN.out
        have hNb : N < 4000000000000 := by omega
        clear hpo hke hk hN'
        go_wp2_with (at_builtin; refine Kd.R_append k60 (w0 := w) (W := wr) base rfl (.tmp 51) (.tmp 53) 24 60 (.agg #[(.int .i64 0), (.int .i64 0), (.slice none 0 0)]) 40 rfl Tryd.underlying24 info60 rfl (by decide) (by decide) (.slice Au N cu) u ⟨-1, f1, ks⟩ [.int .i64 (-1), .int .i64 f1, .slice An ks.length cn_] ok (fun j => okn j ∧ j < w.heap.size) rfl rfl ?hM ?hO ?hF ?hU (HBW.out.mono hbs) ?hS ?hL ?_)
        case hM => exact k60_mkM _ _ _ ⟨-1, f1, ks⟩ (Kd.R_mono (Kd.R_below (Kd.R_bound HN.out) HBW.out) (fun j hj => ⟨hj.1, hj.2.2.1⟩))
        case hO => intro j hj; have := HOKN.out j hj.1; rw [← HNN.out] at this; exact this
        case hF => intro j hj; exact HNEW.out j (Nat.le_trans HBW.out.size hj)
        case hU => have := Kd.R_below HR.out HBW.out; rw [← HNN.out] at this; exact this
        case hS => exact Nat.le_trans hbs HBW.out.size
        case hL => have := HNN.out; omega
        intro v5 w5 hR5 hB5 hg5 hat5
        have HAT5 := Lib.hid (show OwnOr w v5 (.slice Au N cu) from hat5.elim (fun h => .inl h) (fun ⟨b, h1, h2⟩ => .inr ⟨b, h1, Nat.le_trans HBW.out.size h2⟩))
        clear hat5
        have HR5 := Lib.hid hR5
        have HG5 := Lib.hid hg5
        clear hR5 hB5 hg5
        go_wp2
        refine bodyPost_ret (v := .tuple #[v5, .int .i64 N]) (by simp [results, Tryd.f72, go_sem]) rfl ⟨v5, ?_, ?_, ?_, HAT5.out⟩
        · rw [HPL.out, HPO.out, ← HNN.out]
        · rw [HPL.out, HPO.out]; exact HR5.out
        · exact World.grownBy.trans (grown_below' HBW.out) HG5.out
  · have hnb : (f0 != -1) = true := by simp [hbr]
    rw [hnb] at hI
    have hne' := hne hbr
    obtain ⟨kd, rfl, hkc⟩ := reads_at HCN.out hne'
    have HKC := Lib.hid hkc
    obtain ⟨x0, hx0⟩ : ∃ x0, x0 = ks.getD 0 0 := ⟨_, rfl⟩
    have hhd : ks.headD 0 = x0 := by rw [hx0]; cases ks <;> rfl
    obtain ⟨L, hL⟩ : ∃ L, L = ks.length := ⟨_, rfl⟩
    have hLp : 0 < L := by rw [hL]; exact List.length_pos_iff.2 hne'
    have HX0 := Lib.hid hx0
    have HHD := Lib.hid hhd
    have HL := Lib.hid hL
    have HBR := Lib.hid hbr
    rw [← hL] at hlen
    clear hnb hne hkc hx0 hhd hL hbr
    go_enter Tryd.func72, Tryd.ntmps72
    go_wp2_with (go_at_call 55; refine hI.mono ?_; clear hI; rintro e w1 ⟨rfl, hb1⟩; have HB1 := Lib.hid (HB0.out.trans (hb1.mono (by simp))); have hbx1 := (hb1.block w.heap.size (by simp)).trans HBX0.out; have hlt1 := blk_lt hbx1; have c0 := (blk_cell hbx1 0); have c1 := (blk_cell hbx1 1); have c2 := (blk_cell hbx1 2); have HBX1 := Lib.hid hbx1; clear hb1 hbx1)
    go_loopw [6, 7] (fun b i wr => ∃ (k : Nat) (bb : Bool), b = .bool bb ∧ i = .int .i64 k ∧ 1 ≤ k ∧ k ≤ L ∧ Below w1.heap.size w1 wr ∧ Aside0 (bb = true ↔ ∀ y ∈ ks.take k, y = x0)) (fun _ i _ => L - (intOf i).toNat)
    case atStart =>
      refine ⟨1, true, rfl, rfl, Nat.le_refl _, hLp, Below.refl _ _, ⟨fun _ y hy => ?_, fun _ => rfl⟩⟩
      have h0 : 0 < ks.length := by have := HL.out; omega
      rw [List.take_succ_eq_append_getElem h0] at hy
      rw [HX0.out, List.getD_eq_getElem?_getD, List.getElem?_eq_getElem h0]
      simpa using hy
    case round =>
      obtain ⟨k, bb, rfl, rfl, hk1, hk, hB, hall⟩ := hrel
      have HALL := Lib.hid hall.out
      have HB := Lib.hid hB
      have hsz := hB.size
      have hbx2 := (hB.block _ (blk_lt HBX1.out)).trans HBX1.out
      have d2 : wr.cell? ⟨w.heap.size, 2, none⟩ = some (.slice (some kd) L cn_) := by rw [HL.out]; exact (blk_cell hbx2 2).trans rfl
      have HBX2 := Lib.hid hbx2
      have HBW := Lib.hid (HB1.out.trans (hB.mono (HB1.out.size)))
      have e0 := pw_cell_below HBW.out (HKC.out 0 (by have := HL.out; omega))
      rw [Addr.add_zero', ← HX0.out] at e0
      clear hall hbx2 hB
      have hkb : k < 2000000000 := by omega
      by_cases hlt : k < L
      · have ek := pw_cell_below HBW.out (HKC.out k (by have := HL.out; omega))
        obtain ⟨y, hy⟩ : ∃ y, y = ks.getD k 0 := ⟨_, rfl⟩
        rw [← hy] at ek
        have HY := Lib.hid hy
        have hki : (k : Int) < (L : Int) := by omega
        clear hy
        have hsnoc : (∀ z ∈ ks.take (k + 1), z = x0) ↔ (∀ z ∈ ks.take k, z = x0) ∧ y = x0 := by
          have hk' : k < ks.length := by have := HL.out; omega
          have hyk : ks[k] = y := by rw [HY.out, List.getD_eq_getElem?_getD, List.getElem?_eq_getElem hk']; rfl
          rw [List.take_succ_eq_append_getElem hk', hyk]
          constructor
          · intro h; exact ⟨fun z hz => h z (List.mem_append_left _ hz), h y (by simp)⟩
          · rintro ⟨h1, h2⟩ z hz
            rcases List.mem_append.1 hz with h | h
            · exact h1 z h
            · rw [List.mem_singleton.1 h]; exact h2
        have HSN := Lib.hid hsnoc
        clear hsnoc
        cases bb with
        | false =>
          go_wp2
          go_quiet (fail)
          go_wp2
          go_roundw
          case rel => exact ⟨k + 1, false, rfl, by go_num, by omega, hlt, below_drew2 HB.out _, ⟨Iff.intro (fun h => absurd h (by decide)) (fun h => by have := HALL.out.2 (HSN.out.1 h).1; simp at this)⟩⟩
          case measure => simp [intOf]; omega
        | true =>
          by_cases hyx : y = x0
          · subst hyx
            go_wp2
            go_quiet (fail)
            go_wp2
            go_roundw
            case rel => exact ⟨k + 1, true, by simp, by go_num, by omega, hlt, below_drew2 HB.out _, ⟨Iff.intro (fun _ => HSN.out.2 ⟨by first | exact HALL.out.1 rfl | exact HALL.out.1 trivial, by first | exact rfl | exact trivial⟩) (fun _ => rfl)⟩⟩
            case measure => simp [intOf]; omega
          · have hyb : (y == x0) = false := by simp [hyx]
            go_wp2
            go_quiet (fail)
            go_wp2
            go_roundw
            case rel => exact ⟨k + 1, false, by simp, by go_num, by omega, hlt, below_drew2 HB.out _, ⟨Iff.intro (fun h => absurd h (by decide)) (fun h => absurd (HSN.out.1 h).2 hyx)⟩⟩
            case measure => simp [intOf]; omega
      · have hke : k = L := by omega
        have hsame : bb = sameK ks := by
          have h1 : ks.take k = ks := List.take_of_length_le (by have := HL.out; omega)
          have h2 := HALL.out
          rw [h1] at h2
          have h3 : sameK ks = true ↔ ∀ y ∈ ks, y = x0 := by
            unfold sameK
            rw [List.all_eq_true, HHD.out]
            simp
          rw [Bool.eq_iff_iff, h2, h3]
        cases bb with
        | true =>
          have hpl : plR u ⟨f0, f1, ks⟩ = (u, x0) := by unfold plR; rw [if_pos ⟨HBR.out, hsame.symm⟩, HHD.out]
          have HPL := Lib.hid hpl
          clear hpl hsame hke
          go_wp2
          go_quiet (fail)
          go_wp2
          have hbF := below_drew2 HBW.out nq
          refine bodyPost_ret (v := .tuple #[.slice Au N cu, .int .i64 x0]) (by simp [results, Tryd.f72, go_sem]) rfl ⟨.slice Au N cu, ?_, ?_, grown_below' hbF, .inl (by rw [HNN.out])⟩
          · rw [HPL.out]
          · rw [HPL.out, HNN.out]; exact Kd.R_below HR.out hbF
        | false =>
          have hpl : plR u ⟨f0, f1, ks⟩ = place0 u ⟨f0, f1, ks⟩ := by unfold plR; rw [if_neg (fun h => by rw [← hsame] at h; exact absurd h.2 (by decide))]
          have HPL := Lib.hid hpl
          clear hpl hsame hke
          go_wp2
          clear e0 d2
          obtain ⟨ws, rfl⟩ : ∃ ws : World, ws = wr := ⟨_, rfl⟩
          go_loopw [8] (fun i wr => ∃ k : Nat, i = .int .i64 k ∧ k ≤ N ∧ Below ws.heap.size ws wr ∧ Aside0 (∀ j : Nat, j < k → nth u (j : Int) ≠ ⟨f0, f1, ks⟩)) (fun i _ => N - (intOf i).toNat)
          case atStart => exact ⟨0, rfl, Nat.zero_le _, Below.refl _ _, ⟨fun j hj => absurd hj (Nat.not_lt_zero _)⟩⟩
          case round =>
            obtain ⟨k, rfl, hk, hB, hall⟩ := hrel
            have HALL2 := Lib.hid hall.out
            have hsz := hB.size
            have HB := Lib.hid hB
            have hbx2 := (hB.block _ (blk_lt HBX2.out)).trans HBX2.out
            have d0 : wr.cell? ⟨w.heap.size, 0, none⟩ = some (.int .i64 f0) := (blk_cell hbx2 0).trans rfl
            have d1 : wr.cell? ⟨w.heap.size, 1, none⟩ = some (.int .i64 f1) := (blk_cell hbx2 1).trans rfl
            have d2 : wr.cell? ⟨w.heap.size, 2, none⟩ = some (.slice (some kd) ks.length cn_) := (blk_cell hbx2 2).trans rfl
            have hlt2 := blk_lt hbx2
            have HBX3 := Lib.hid hbx2
            have HBV := Lib.hid (HBW.out.trans (hB.mono (HBW.out.size)))
            clear hall hbx2 hB
            by_cases hlt : k < N
            · have hku : k < u.length := by have := HNN.out; omega
              obtain ⟨ad, A2, c2', rfl, g0, g1, g2, l2, gC⟩ := at_T60 (Kd.C_below HCU.out HBV.out) (k : Int) (by omega) (by omega)
              rw [Int.toNat_natCast] at g0 g1 g2
              rw [rd_nth] at g0 g1 g2 l2 gC
              obtain ⟨m, hm⟩ : ∃ m, m = nth u (k : Int) := ⟨_, rfl⟩
              rw [← hm] at g0 g1 g2 l2 gC
              have hml : m.f2.length ≤ 1073741824 := HKL.out m (by rw [hm, nth_lt hku]; exact List.getElem_mem hku)
              have hkb : k < 4000000000000 := by omega
              have hki : (k : Int) < (N : Int) := by omega
              have hS := exactpplref19_SameNode.calls (m.f2.length + 1) m.f0 m.f1 A2 c2' m.f2 f0 f1 (some kd) cn_ ks _ wr.drew (Kd.C_drew gC) l2 (Kd.C_drew (Kd.C_below HCN.out HBV.out)) hcn (sameNode_f m ⟨f0, f1, ks⟩ (by omega) _ (by omega))
              have HM := Lib.hid hm
              clear hm gC
              by_cases he : m = ⟨f0, f1, ks⟩
              · rw [decide_eq_true he] at hS
                have HE := Lib.hid he
                clear he
                go_wp2
                go_still_tail 5, (by kernel_rfl)
                change wpList _ _ _ _ _ wr.drew
                go_wp2_with (go_at_call 49; refine hS.mono ?_; clear hS; rintro e w3 ⟨rfl, hb3⟩; have HB3 := Lib.hid ((HBV.out.trans ((Below.refl _ wr).drew.mono HBV.out.size)).trans (hb3.mono HBV.out.size)); clear hb3)
                refine bodyPost_ret (v := .tuple #[.slice (some ad) N cu, .int .i64 k]) (by simp [results, Tryd.f72, go_sem]) rfl ⟨.slice (some ad) N cu, ?_, ?_, grown_below' HB3.out, .inl (by rw [HNN.out])⟩
                · rw [HPL.out, place0_at hku (HM.out.symm.trans HE.out) HALL2.out]
                · rw [HPL.out, place0_at hku (HM.out.symm.trans HE.out) HALL2.out, HNN.out]
                  exact Kd.R_below HR.out HB3.out
              · rw [decide_eq_false he] at hS
                have HE := Lib.hid he
                clear he
                go_wp2
                go_still_tail 5, (by kernel_rfl)
                change wpList _ _ _ _ _ wr.drew
                go_wp2_with (go_at_call 49; refine hS.mono ?_; clear hS; rintro e w3 ⟨rfl, hb3⟩; have HB3 := Lib.hid (HB.out.drew.trans (hb3.mono hsz)); clear hb3)
                go_roundw
                case rel => exact ⟨k + 1, by go_num, hlt, HB3.out, ⟨fun j hj => by
                  rcases Nat.lt_or_ge j k with h | h
                  · exact HALL2.out j h
                  · obtain rfl : j = k := by omega
                    rw [← HM.out]; exact HE.out⟩⟩
                case measure => simp [intOf]; omega
            · have hke : k = N := by omega
              have hpo := place0_out (u := u) (n := ⟨f0, f1, ks⟩) (fun j hj => HALL2.out j (by have := HNN.out; omega))
              have HPO := Lib.hid hpo
              have hN' := HNN.out
              have hNb : N < 4000000000000 := by omega
              clear hpo hke hk hN'
              go_wp2_with (at_builtin; refine Kd.R_append k60 (w0 := w) (W := wr) base rfl (.tmp 51) (.tmp 53) 24 60 (.agg #[(.int .i64 0), (.int .i64 0), (.slice none 0 0)]) 40 rfl Tryd.underlying24 info60 rfl (by decide) (by decide) (.slice Au N cu) u ⟨f0, f1, ks⟩ [.int .i64 f0, .int .i64 f1, .slice (some kd) ks.length cn_] ok (fun j => okn j ∧ j < w.heap.size) rfl rfl ?hM ?hO ?hF ?hU (HBV.out.mono hbs) ?hS ?hL ?_)
              case hM => exact k60_mkM _ _ _ ⟨f0, f1, ks⟩ (Kd.R_mono (Kd.R_below (Kd.R_bound HN.out) HBV.out) (fun j hj => ⟨hj.1, hj.2.2.1⟩))
              case hO => intro j hj; have := HOKN.out j hj.1; rw [← HNN.out] at this; exact this
              case hF => intro j hj; exact HNEW.out j (Nat.le_trans HBV.out.size hj)
              case hU => have := Kd.R_below HR.out HBV.out; rw [← HNN.out] at this; exact this
              case hS => exact Nat.le_trans hbs HBV.out.size
              case hL => have := HNN.out; omega
              intro v5 w5 hR5 hB5 hg5 hat5
              have HAT5 := Lib.hid (show OwnOr w v5 (.slice Au N cu) from hat5.elim (fun h => .inl h) (fun ⟨b, h1, h2⟩ => .inr ⟨b, h1, Nat.le_trans HBV.out.size h2⟩))
              clear hat5
              have HR5 := Lib.hid hR5
              have HG5 := Lib.hid hg5
              clear hR5 hB5 hg5
              go_wp2
              refine bodyPost_ret (v := .tuple #[v5, .int .i64 N]) (by simp [results, Tryd.f72, go_sem]) rfl ⟨v5, ?_, ?_, ?_, HAT5.out⟩
              · rw [HPL.out, HPO.out, ← HNN.out]
              · rw [HPL.out, HPO.out]; exact HR5.out
              · exact World.grownBy.trans (grown_below' HBV.out) HG5.out
end Go.Proofs.YtopbjginpmdebaaDoor.K
-- exactpplref19.Append
namespace Go.Proofs.YtopbjginpmdebaaDoor.K
open Go.RowKit Go.Maps Go.Proofs.YtopbjginpmdebaaDoorW.PrintWords Go.Proofs.YtopbjginpmdebaaDoorW.PrintLast Go.Proofs.YtopbjginpmdebaaDoorW.PrintMore
set_option linter.unusedVariables false
set_option linter.unusedSimpArgs false
/-- a node as a graph has it -/
def Frm (n : Nd) : Prop := (n.f0 = -1 ∧ n.f2 = []) ∨ (0 ≤ n.f0 ∧ n.f1 = 0 ∧ n.f2 ≠ [])
theorem plR_place1 {u : List Nd} {at_ : List Int} {n : Nd} (h : Frm n) : plR u ⟨n.f0, n.f1, n.f2.map (lk at_)⟩ = place1 u at_ n := by
  unfold plR place1
  rcases h with ⟨h0, h2⟩ | ⟨h0, h1, h2⟩
  · rw [if_neg (by simp [h0]), if_pos (by omega), h0, h2]; rfl
  · rw [if_neg (show ¬ n.f0 < 0 by omega), h1]
    unfold placeB
    by_cases hs : sameK (n.f2.map (lk at_)) = true
    · rw [if_pos ⟨by simp only; omega, hs⟩, if_pos hs]
    · rw [if_neg (fun e => hs e.2), if_neg hs]
theorem OwnOr.grown {w W W2 : World} {v vu : Value} (h : OwnOr w v vu) (hg : w.grownBy W vu.ownBlock) (hg2 : W.grownBy W2 v.ownBlock) : w.grownBy W2 vu.ownBlock :=
  ⟨hg2.os.trans hg.os, hg2.tape.trans hg.tape, hg2.output.trans hg.output, Nat.le_trans hg.size hg2.size, fun j hj hne => by
    refine (hg2.block j (Nat.lt_of_lt_of_le hj hg.size) (fun e => ?_)).trans (hg.block j hj hne)
    rcases h with h | ⟨b, h, hb⟩
    · exact hne (e.trans h)
    · rw [h] at e; injection e with e; omega⟩
theorem NdSt.drew {wo W : World} {a b : Int} {l : List Int} {v : Value} (h : NdSt wo W a b l v) : NdSt wo W.drew a b l v := ⟨h.below.drew, h.box, Kd.R_below h.row (Below.refl _ _).drew⟩
/-- between two rounds of Append -/
structure AppSt (w W : World) (base : Nat) (ok : Nat → Prop) (vu : Value) (u nodes : List Nd) (k : Nat) (v : Value) : Prop where
  row : k60.R 60 W base (fun j => ok j ∧ j ≠ w.heap.size) v (imp u [] (nodes.take k)).1
  arr : Arr W w.heap.size (padd (imp u [] (nodes.take k)).2 nodes.length)
  grown : w.grownBy W vu.ownBlock
  own : OwnOr w v vu
theorem AppSt.first (w : World) (base : Nat) (ok : Nat → Prop) (u nodes : List Nd) (vu : Value) (hR : k60.R 60 w base ok vu u) (hn : nodes.length ≤ 9223372036854775807) : AppSt w (w.alloc (.cells (madeCells #[.int .i64 0] nodes.length) 3)) base ok vu u nodes 0 vu := by
  have hb := (Below.refl w.heap.size w).alloc (Nat.le_refl _) (.cells (madeCells #[.int .i64 0] nodes.length) 3)
  refine ⟨Kd.R_mono (Kd.R_below (Kd.R_bound hR) hb) (fun j hj => ⟨hj.1, by have := hj.2.2.1; omega⟩), ?_, grown_below' hb, .inl rfl⟩
  simpa [imp, padd] using Arr.made w nodes.length hn
theorem AppSt.next {w W W2 : World} {base : Nat} {ok : Nat → Prop} {vu v v2 : Value} {u nodes : List Nd} {k : Nat} {r : List Nd × Int} (h : AppSt w W base ok vu u nodes k v) (hR : k60.R 60 W2 base (fun j => ok j ∧ j ≠ w.heap.size) v2 r.1) (hg : W.grownBy W2 v.ownBlock) (hown : OwnOr W v2 v)
    (hs : imp u [] (nodes.take (k + 1)) = (r.1, (imp u [] (nodes.take k)).2 ++ [r.2])) (hat : (imp u [] (nodes.take k)).2.length = k) (hk : k < nodes.length) (hvu : some w.heap.size ≠ vu.ownBlock) :
    AppSt w (W2.setCell ⟨w.heap.size, k, none⟩ (.int .i64 r.2)) base ok vu u nodes (k + 1) v2 := by
  have hwb : w.heap.size < W.heap.size := h.arr.lt
  have hnv : some w.heap.size ≠ v.ownBlock := fun e => (h.row.1 _ e.symm).2 rfl
  have ha : Arr W2 w.heap.size (padd (imp u [] (nodes.take k)).2 nodes.length) := h.arr.move (hg.block _ hwb hnv)
  have hG := h.own.grown h.grown hg
  refine ⟨?_, ?_, ⟨hG.os, hG.tape, hG.output, Nat.le_trans hG.size (by simp [World.setCell]), fun j hj hne => (Below.heap_setCell W2 ⟨w.heap.size, k, none⟩ _ j (by show j ≠ w.heap.size; omega)).trans (hG.block j hj hne)⟩, ?_⟩
  · rw [hs]
    exact Kd.R_far (p := ⟨w.heap.size, k, none⟩) hR (fun j hj => hj.2) _
  · rw [hs]
    have := ha.put k r.2
    have e := padd_set (l := (imp u [] (nodes.take k)).2) (n := nodes.length) r.2 (by rw [hat]; exact hk)
    rw [hat] at e
    rw [e] at this
    exact this
  · rcases hown with h1 | ⟨b, h1, h2⟩
    · rcases h.own with h3 | ⟨b, h3, h4⟩
      · exact .inl (h1.trans h3)
      · exact .inr ⟨b, h1.trans h3, h4⟩
    · exact .inr ⟨b, h1, Nat.le_trans h.grown.size h2⟩
def ApPost (w : World) (base : Nat) (ok : Nat → Prop) (vu : Value) (u nodes : List Nd) (e : Ending) (w' : World) : Prop := ∃ v', e = .returned (.tuple #[v', .slice (some ⟨w.heap.size, 0, none⟩) nodes.length nodes.length]) ∧ AppSt w w' base ok vu u nodes nodes.length v'
set_option maxHeartbeats 16000000 in
set_option maxRecDepth 100000 in
theorem append_calls (base : Nat) (ok : Nat → Prop) (u nodes : List Nd) (Au A : Option Addr) (cu c : Nat) (w : World) (hbs : base ≤ w.heap.size)
    (hR : k60.R 60 w base ok (.slice Au u.length cu) u) (hC : ∀ W, w.grownBy W (Value.slice Au u.length cu).ownBlock → k60.C W A nodes.length nodes) (hc : nodes.length ≤ c) (hF : Fit nodes) (hfr : ∀ n ∈ nodes, Frm n) (hU : Tbl u [])
    (hlen : ∀ x ∈ nodes, x.f2.length ≤ 1073741824) (hkl : ∀ x ∈ u, x.f2.length ≤ 1073741824) (hroom : (u.length + nodes.length) * 40 ≤ 140737488355328) (hnew : ∀ j, w.heap.size ≤ j → ok j) :
    Calls Tryd.prog 71 #[.slice Au u.length cu, .slice A nodes.length c] w (ApPost w base ok (.slice Au u.length cu) u nodes) := by
  have hvu : some w.heap.size ≠ (Value.slice Au u.length cu).ownBlock := fun e => by have := Kd.R_lt hR _ e.symm; omega
  have h0 := AppSt.first w base ok u nodes _ hR (by omega)
  have H0 := Lib.hid h0
  have HC := Lib.hid hC
  have HFIT := Lib.hid hF
  have HFR := Lib.hid hfr
  have HU := Lib.hid hU
  have HLEN := Lib.hid hlen
  have HKL := Lib.hid hkl
  have HNEW := Lib.hid hnew
  have HVU := Lib.hid hvu
  obtain ⟨N, hN⟩ : ∃ N, N = nodes.length := ⟨_, rfl⟩
  have HN := Lib.hid hN
  have hmk := print_make (P := Tryd.prog) 22 3 .i64 8 Tryd.underlying22 info3 (by decide) N (by omega)
  rw [← hN] at hroom hc H0 ⊢
  clear hR hC hF hfr hU hlen hkl hnew hvu h0 hN
  go_enter Tryd.func71, Tryd.ntmps71
  go_wp2
  go_loopw [0, 7] (fun v i wr => ∃ (k : Nat) (vv : Value), vv = v ∧ i = .int .i64 k ∧ k ≤ N ∧ AppSt w wr base ok (.slice Au u.length cu) u nodes k vv) (fun _ i _ => N - (intOf i).toNat)
  case atStart => exact ⟨0, _, rfl, rfl, Nat.zero_le _, H0.out⟩
  case round =>
    obtain ⟨k, vv, rfl, rfl, hk, hst⟩ := hrel
    obtain ⟨U, hUe⟩ : ∃ U, U = (imp u [] (nodes.take k)).1 := ⟨_, rfl⟩
    have hrow := hst.row
    rw [← hUe] at hrow
    obtain ⟨Av0, cv0, rfl⟩ := Kd.R_slice hrow
    have HROW := Lib.hid hrow
    have HUE := Lib.hid hUe
    clear hrow hUe
    by_cases hlt : k < N
    · have hkn : k < nodes.length := by have := HN.out; omega
      have hnm : nth nodes k ∈ nodes := by rw [nth_lt hkn]; exact List.getElem_mem hkn
      have hsz := hst.grown.size
      obtain ⟨ad, A2, c2, rfl, d0, d1, d2, l2, g2⟩ := at_T60 (HC.out wr hst.grown) (k : Int) (by omega) (by omega)
      rw [Int.toNat_natCast] at d0 d1 d2
      rw [rd_nth] at d0 d1 d2 l2 g2
      obtain ⟨n, hn⟩ : ∃ n, n = nth nodes (k : Int) := ⟨_, rfl⟩
      rw [← hn] at d0 d1 d2 l2 g2 hnm
      have hI2 := HLEN.out n hnm
      have hfrm := HFR.out n hnm
      have hkids : ∀ c ∈ n.f2, 0 ≤ c ∧ c < (k : Int) := by rw [hn]; exact HFIT.out.1 k hkn
      obtain ⟨tT, tL, -⟩ := imp_tbl HFIT.out HU.out k (by omega)
      have hat : (imp u [] (nodes.take k)).2.length = k := by rw [imp_len]; simp; omega
      have hsucc : imp u [] (nodes.take (k + 1)) = ((place1 (imp u [] (nodes.take k)).1 (imp u [] (nodes.take k)).2 n).1, (imp u [] (nodes.take k)).2 ++ [(place1 (imp u [] (nodes.take k)).1 (imp u [] (nodes.take k)).2 n).2]) := by rw [take_snoc' hkn, imp_snoc, ← hn]
      have huk : ∀ x ∈ (imp u [] (nodes.take k)).1, x.f2.length ≤ 1073741824 := imp_kids (nodes.take k) u [] HKL.out (fun x hx => HLEN.out x (List.mem_of_mem_take hx))
      have hab := hst.arr.lt
      have hdl := World.block_lt_of_cell? _ _ d0
      have hkb : k < 4000000000000 := by omega
      have hki : (k : Int) < (N : Int) := by omega
      obtain ⟨M, hM⟩ : ∃ M, M = n.f2.length := ⟨_, rfl⟩
      have HM := Lib.hid hM
      rw [← hM] at d2 l2 hI2
      have HST := Lib.hid hst
      have HKIDS := Lib.hid hkids
      have HFRM := Lib.hid hfrm
      have HT := Lib.hid tT
      have HTL := Lib.hid tL
      have HAT := Lib.hid hat
      have HSUCC := Lib.hid hsucc
      have HUK := Lib.hid huk
      have HNN := Lib.hid hn
      have HG2 := Lib.hid g2
      clear hst hkids hfrm tT tL hat hsucc huk hn hM g2
      go_wp2
      go_region
      obtain ⟨wo, rfl⟩ : ∃ wo : World, wo = wr := ⟨_, rfl⟩
      go_wp2
      go_loopw [9] (fun i W => ∃ (j : Nat) (v : Value), i = .int .i64 j ∧ j ≤ M ∧ NdSt wo W n.f0 n.f1 ((n.f2.take j).map (lk (imp u [] (nodes.take k)).2)) v) (fun i _ => M - (intOf i).toNat)
      case atStart => exact ⟨0, _, rfl, Nat.zero_le _, (NdSt.first wo n.f0 n.f1).drew⟩
      case round =>
        obtain ⟨j, v, rfl, hj, hnd⟩ := hrel
        obtain ⟨l, hl⟩ : ∃ l, l = (n.f2.take j).map (lk (imp u [] (nodes.take k)).2) := ⟨_, rfl⟩
        rw [← hl] at hnd
        have hll : l.length = j := by rw [hl]; simp; have := HM.out; omega
        obtain ⟨Av, cv, rfl⟩ := Kd.R_slice hnd.row
        have hbW := hnd.below
        have hsW := hbW.size
        have hmW := blk_lt hnd.box
        have bm2 : wr.cell? ⟨wo.heap.size, 2, none⟩ = some (.slice Av l.length cv) := (blk_cell hnd.box 2).trans rfl
        have fm2 := blk_frozen hnd.box 2
        replace d2 := pw_cell_below hbW d2
        have HND := Lib.hid hnd
        have HBW := Lib.hid hbW
        have HLL := Lib.hid hl
        have HLK := Lib.hid hll
        have hlb : l.length ≤ 1073741824 := by omega
        have hjb : j ≤ 1073741824 := by omega
        clear hl hll hnd hbW
        by_cases hjl : j < M
        · have hjn : j < n.f2.length := by have := HM.out; omega
          obtain ⟨ad2, rfl, hkc⟩ := reads_at (Kd.C_below HG2.out HBW.out) (by intro e; rw [e] at hjn; simp at hjn)
          have e0 := hkc j hjn
          have hcm : n.f2.getD j 0 ∈ n.f2 := by rw [List.getD_eq_getElem?_getD, List.getElem?_eq_getElem hjn]; exact List.getElem_mem hjn
          obtain ⟨hc0, hc1⟩ := HKIDS.out _ hcm
          obtain ⟨cn, hcn⟩ : ∃ cn : Nat, n.f2.getD j 0 = cn := ⟨(n.f2.getD j 0).toNat, by omega⟩
          rw [hcn] at e0 hc1
          have hcN : cn < N := by omega
          have hcNi : (cn : Int) < (N : Int) := by omega
          have hcb : cn < 4000000000000 := by omega
          have hji : (j : Int) < (M : Int) := by omega
          have e1 := (HST.out.arr.move (HBW.out.block _ hab)).at cn (by rw [padd_len (by rw [HAT.out]; omega)]; omega)
          rw [padd_get (by rw [HAT.out]; omega)] at e1
          have e2 := e1.1
          obtain ⟨y, hy⟩ : ∃ y, y = (imp u [] (nodes.take k)).2.getD cn 0 := ⟨_, rfl⟩
          rw [← hy] at e2
          have HY := Lib.hid hy
          have HCN := Lib.hid hcn
          have HR2 := Lib.hid HND.out.row
          clear e1 hcm hcn hkc hy
          go_wp2
          go_region_law (((refine Kd.R_append_step (Kd.int .i64) (w0 := wr) (W := wr.drew) (wo.heap.size + 1) (by rfl) (.tmp 41) (.tmp 53) 22 3 (.int .i64 0) 8 rfl Tryd.underlying22 info3 rfl (by decide) (by decide) (.slice Av l.length cv) l y [.int .i64 y] (fun k => wo.heap.size < k) (fun _ => False) (by rfl) (by rfl) rfl (fun _ h => h.elim) (fun k hk => Nat.lt_of_lt_of_le hmW hk) HR2.out (Below.refl _ _).drew hmW (by omega) ?_; intro v5 w5 hR5 hB5 hg5 hat5; obtain ⟨A5, c5, rfl⟩ := Kd.R_slice hR5; have hbx5 := (hB5.block wo.heap.size (Nat.lt_succ_self _)).trans HND.out.box; have q1 := blk_cell hbx5 2; have q2 := blk_frozen hbx5 2)))
          all_goals
            rw [List.length_append, List.length_singleton] at hR5
            have HR5 := Lib.hid hR5
            have HB5 := Lib.hid hB5
            clear hR5 hB5 hg5 hat5 hbx5
            go_wp2
            go_roundw
            case rel =>
              refine ⟨j + 1, .slice A5 (l.length + 1) c5, by go_num, hjl, ?_⟩
              have h3 : (n.f2.take (j + 1)).map (lk (imp u [] (nodes.take k)).2) = l ++ [y] := by
                rw [List.take_succ_eq_append_getElem hjn, List.map_append, ← HLL.out]
                congr 1
                have : n.f2[j] = (cn : Int) := by
                  have := HCN.out
                  rw [List.getD_eq_getElem?_getD, List.getElem?_eq_getElem hjn] at this
                  exact this
                simp [lk, this, HY.out]
              rw [h3]
              exact HND.out.next HR5.out HB5.out
            case measure => simp [intOf]; omega
        · have ej : j = M := by omega
          have hKL : l = n.f2.map (lk (imp u [] (nodes.take k)).2) := by rw [HLL.out, ej, List.take_of_length_le (l := n.f2) (i := M) (by have := HM.out; omega)]
          have hpl : plR U ⟨n.f0, n.f1, l⟩ = place1 (imp u [] (nodes.take k)).1 (imp u [] (nodes.take k)).2 n := by rw [HUE.out, hKL]; exact plR_place1 HFRM.out
          have hne : n.f0 ≠ -1 → l ≠ [] := by
            intro h0 e
            rcases HFRM.out with ⟨h1, _⟩ | ⟨_, _, h1⟩
            · exact h0 h1
            · rw [hKL] at e; exact h1 (by simpa using e)
          have hsW' := HBW.out.size
          have hA := (place_calls base (fun j => ok j ∧ j ≠ w.heap.size) (fun j => wo.heap.size < j) U ⟨n.f0, n.f1, l⟩ Av0 Av cv0 cv wr (by omega) (Kd.R_below HROW.out HBW.out) (Kd.R_lower HND.out.row (by omega)) (fun j hj => ⟨⟨HNEW.out j (by omega), by omega⟩, fun e => by have := Kd.R_lt HROW.out _ e.symm; omega⟩) hne (by show l.length ≤ _; omega) (by have := HTL.out; rw [← HUE.out] at this; omega) (by rw [HUE.out]; exact HUK.out) (fun j hj => ⟨HNEW.out j (by omega), by omega⟩)).mono (R' := fun e w2 => ∃ v', e = .returned (.tuple #[v', .int .i64 (place1 (imp u [] (nodes.take k)).1 (imp u [] (nodes.take k)).2 n).2]) ∧
              k60.R 60 w2 base (fun j => ok j ∧ j ≠ w.heap.size) v' (place1 (imp u [] (nodes.take k)).1 (imp u [] (nodes.take k)).2 n).1 ∧ wo.grownBy w2 (Value.slice Av0 U.length cv0).ownBlock ∧ OwnOr wo v' (.slice Av0 U.length cv0) ∧ (∃ v, w2.cell? ⟨w.heap.size, k, none⟩ = some (.int .i64 v)) ∧ w2.frozen? ⟨w.heap.size, k, none⟩ = false) (by
            rintro e w2 ⟨v', rfl, h2, h3, h4⟩
            rw [hpl] at h2 ⊢
            have h5 := World.grownBy.trans (grown_below' HBW.out) h3
            have h6 := (HST.out.arr.move (h5.block _ hab (fun e => (HROW.out.1 _ e.symm).2 rfl))).at k (by rw [padd_len (by rw [HAT.out]; omega)]; exact hkn)
            exact ⟨v', rfl, h2, h5, h4.elim .inl (fun ⟨b, h7, h8⟩ => .inr ⟨b, h7, by omega⟩), ⟨_, h6.1⟩, h6.2⟩)
          dsimp only at hA
          obtain ⟨r, hr⟩ : ∃ r, r = place1 (imp u [] (nodes.take k)).1 (imp u [] (nodes.take k)).2 n := ⟨_, rfl⟩
          rw [← hr] at hA
          have HR := Lib.hid hr
          have bm0 : wr.cell? ⟨wo.heap.size, 0, none⟩ = some (.int .i64 n.f0) := (blk_cell HND.out.box 0).trans rfl
          have bm1 : wr.cell? ⟨wo.heap.size, 1, none⟩ = some (.int .i64 n.f1) := (blk_cell HND.out.box 1).trans rfl
          clear hr hpl hne hKL ej
          go_wp2_with (go_at_call 72; refine hA.mono ?_; clear hA; rintro e w2 ⟨v2, rfl, hR2, hg2, ho2, ⟨vc, hvc⟩, hfc⟩; have HR2 := Lib.hid hR2; have HGG := Lib.hid hg2; have HO2 := Lib.hid ho2; clear hR2 hg2 ho2)
          go_roundw
          case rel =>
            refine ⟨k + 1, v2, rfl, by go_num, hlt, ?_⟩
            exact HST.out.next HR2.out HGG.out HO2.out (by rw [HSUCC.out, HR.out]) HAT.out hkn HVU.out
          case measure => simp [intOf]; omega
    · obtain rfl : k = N := by omega
      have HST := Lib.hid hst
      clear hst
      go_wp2
      refine bodyPost_ret (v := .tuple #[.slice Av0 U.length cv0, .slice (some ⟨w.heap.size, 0, none⟩) k k]) (by simp [results, Tryd.f71, go_sem]) rfl ⟨.slice Av0 U.length cv0, ?_, ?_⟩
      · rw [HN.out]
      · have := HST.out; rw [HN.out] at this; exact this
end Go.Proofs.YtopbjginpmdebaaDoor.K
-- exactpplref19.walk: what it keeps
namespace Go.Proofs.YtopbjginpmdebaaDoor.K
open Go.RowKit Go.Maps Go.Proofs.YtopbjginpmdebaaDoorW.PrintWords Go.Proofs.YtopbjginpmdebaaDoorW.PrintLast Go.Proofs.YtopbjginpmdebaaDoorW.PrintMore
set_option linter.unusedVariables false
set_option linter.unusedSimpArgs false
/-- the places as an array: -1 where there is none -/
def atl (n : Nat) (g : PM) : List Int := (List.range n).map fun j : Nat => (g (j : Int)).getD (-1)
theorem atl_len (n : Nat) (g : PM) : (atl n g).length = n := by simp [atl]
theorem atl_get {n j : Nat} (g : PM) (h : j < n) : (atl n g).getD j 0 = (g (j : Int)).getD (-1) := by
  unfold atl
  rw [List.getD_eq_getElem?_getD, List.getElem?_map, List.getElem?_range h]; rfl
theorem atl_upd {n i : Nat} (g : PM) (a : Int) (h : i < n) : (atl n g).set i a = atl n (upd g (i : Int) a) := by
  apply List.ext_getElem
  · simp [atl]
  · intro j h1 h2
    have hj : j < n := by simpa [atl] using h2
    rw [List.getElem_set]
    simp only [atl, List.getElem_map, List.getElem_range, upd]
    by_cases e : i = j
    · subst e; simp
    · rw [if_neg e, if_neg (by omega)]
theorem pigeon : ∀ (m n : Nat) (f : Nat → Nat), (∀ a, a < n → f a < m) → (∀ a b, a < n → b < n → f a = f b → a = b) → n ≤ m
  | 0, n, f, h1, _ => by
    rcases n with _ | n
    · exact Nat.le_refl _
    · exact absurd (h1 0 (by omega)) (by omega)
  | m + 1, n, f, h1, h2 => by
    by_cases hx : ∃ a, a < n ∧ f a = m
    · obtain ⟨a0, ha0, e0⟩ := hx
      have h := pigeon m (n - 1) (fun a => if a < a0 then f a else f (a + 1)) (fun a ha => by
        have key : ∀ b, b < n → b ≠ a0 → f b < m := fun b hb hne => by
          have := h1 b hb
          have : f b ≠ m := fun e => hne (h2 b a0 hb ha0 (e.trans e0.symm))
          omega
        try dsimp only
        split
        · exact key a (by omega) (by omega)
        · exact key (a + 1) (by omega) (by omega)) (fun a b ha hb e => by
        try dsimp only at e
        split at e <;> split at e
        · exact h2 a b (by omega) (by omega) e
        · have := h2 a (b + 1) (by omega) (by omega) e; omega
        · have := h2 (a + 1) b (by omega) (by omega) e; omega
        · have := h2 (a + 1) (b + 1) (by omega) (by omega) e; omega)
      omega
    · have := pigeon m n f (fun a ha => by
        have := h1 a ha
        have : f a ≠ m := fun e => hx ⟨a, ha, e⟩
        omega) h2
      omega
theorem Pl.len {u : List Nd} {s : St} (h : Pl u s) : s.2.length ≤ u.length := by
  refine pigeon u.length s.2.length (fun a => if ha : a < s.2.length then (Classical.choose (h.all a ha)).toNat else 0) (fun a ha => ?_) (fun a b ha hb e => ?_)
  · simp only [dif_pos ha]
    have h1 := Classical.choose_spec (h.all a ha)
    have h2 := h.node _ _ h1
    omega
  · simp only [dif_pos ha, dif_pos hb] at e
    have h1 := Classical.choose_spec (h.all a ha)
    have h2 := Classical.choose_spec (h.all b hb)
    have h3 := h.node _ _ h1
    have h4 := h.node _ _ h2
    have e' : Classical.choose (h.all a ha) = Classical.choose (h.all b hb) := by omega
    rw [e', h2] at h1
    have := Option.some.inj h1
    omega
/-- the walk's memory -/
structure Wk (B0 b : Nat) (ok : Nat → Prop) (W : World) (u : List Nd) (s : St) (v : Value) : Prop where
  arr : Arr W b (atl u.length s.1)
  row : k60.R 60 W B0 ok v s.2
  pl : Pl u s
/-- what a walk leaves alone -/
structure Kp (w W : World) (b : Nat) (v : Value) : Prop where
  os : W.os = w.os
  tape : W.tape = w.tape
  output : W.output = w.output
  size : w.heap.size ≤ W.heap.size
  same : ∀ j, j < w.heap.size → j ≠ b → some j ≠ v.ownBlock → W.heap[j]? = w.heap[j]?
theorem Kp.refl (w : World) (b : Nat) (v : Value) : Kp w w b v := ⟨rfl, rfl, rfl, Nat.le_refl _, fun _ _ _ _ => rfl⟩
theorem Kp.trans {w W W2 : World} {b : Nat} {v0 v : Value} (h : Kp w W b v0) (ho : OwnOr w v v0) (k : Kp W W2 b v) : Kp w W2 b v0 :=
  ⟨k.os.trans h.os, k.tape.trans h.tape, k.output.trans h.output, Nat.le_trans h.size k.size, fun j hj hb hv => by
    refine (k.same j (Nat.lt_of_lt_of_le hj h.size) hb (fun e => ?_)).trans (h.same j hj hb hv)
    rcases ho with h1 | ⟨c, h1, h2⟩
    · exact hv (e.trans h1)
    · rw [h1] at e; injection e with e; omega⟩
theorem Kp.of_below {w W : World} (h : Below w.heap.size w W) (b : Nat) (v : Value) : Kp w W b v := ⟨h.os, h.tape, h.output, h.size, fun j hj _ _ => h.block j hj⟩
theorem Kp.of_grown {w W : World} {b : Nat} {v : Value} (h : w.grownBy W v.ownBlock) : Kp w W b v := ⟨h.os, h.tape, h.output, h.size, fun j hj _ hv => h.block j hj hv⟩
theorem Kp.below {B0 b : Nat} {w W : World} {v : Value} (h : Kp w W b v) (h1 : B0 ≤ w.heap.size) (hb : B0 ≤ b) (hv : ∀ k, v.ownBlock = some k → B0 ≤ k) : Below B0 w W :=
  ⟨h.os, h.tape, h.output, h.size, fun j hj => h.same j (by omega) (by omega) (fun e => by have := hv j e.symm; omega)⟩
theorem OwnOr.trans {w W : World} {a b c : Value} (h : OwnOr w b c) (hs : w.heap.size ≤ W.heap.size) (k : OwnOr W a b) : OwnOr w a c := by
  rcases k with h1 | ⟨x, h1, h2⟩
  · rcases h with h3 | ⟨x, h3, h4⟩
    · exact .inl (h1.trans h3)
    · exact .inr ⟨x, h1.trans h3, h4⟩
  · exact .inr ⟨x, h1, Nat.le_trans hs h2⟩
theorem ints_move {W W2 : World} {base : Nat} {ok : Nat → Prop} {v : Value} {l : List Int} (h : (Kd.int .i64).R 3 W base ok v l) (hm : ∀ k, v.ownBlock = some k → W2.heap[k]? = W.heap[k]?) : (Kd.int .i64).R 3 W2 base ok v l :=
  Kd.R_mono (Kd.R_step (Kd.R_tight rfl h) (fun k hk _ => hm k hk.symm)) (fun k hk => h.1 k hk.symm)
theorem ints_type {W : World} {base : Nat} {ok : Nat → Prop} {v : Value} {l : List Int} (h : (Kd.int .i64).R 3 W base ok v l) (k : Nat) (hk : v.ownBlock = some k) : ∃ cs, W.heap[k]? = some (.cells cs 3 (0, 0)) := by
  obtain ⟨_, inner, ho, _⟩ := h
  exact own_typed ho k hk
theorem nodes_type {W : World} {base : Nat} {ok : Nat → Prop} {v : Value} {l : List Nd} (h : k60.R 60 W base ok v l) (k : Nat) (hk : v.ownBlock = some k) : ∃ cs, W.heap[k]? = some (.cells cs 60 (0, 0)) := by
  obtain ⟨_, inner, ho, _⟩ := h
  exact own_typed ho k hk
/-- between two rounds of walk's loop: the new node at block β, its kids' row vk -/
structure WL (B0 b β : Nat) (ok : Nat → Prop) (w W : World) (u : List Nd) (v0 : Value) (s : St) (x y : Int) (l : List Int) (v vk : Value) : Prop where
  wk : Wk B0 b (fun j => ok j ∧ j ≠ β ∧ some j ≠ vk.ownBlock) W u s v
  box : W.heap[β]? = some (.cells #[.int .i64 x, .int .i64 y, vk] 60 (0, 0))
  row : (Kd.int .i64).R 3 W (β + 1) (fun k => β < k) vk l
  kp : Kp w W b v0
  own : OwnOr w v v0
theorem Wk.below {B0 b : Nat} {ok : Nat → Prop} {W W2 : World} {u : List Nd} {s : St} {v : Value} (h : Wk B0 b ok W u s v) (hb : Below W.heap.size W W2) : Wk B0 b ok W2 u s v :=
  ⟨h.arr.move (hb.block _ h.arr.lt), Kd.R_below h.row hb, h.pl⟩
theorem WL.below {B0 b β : Nat} {ok : Nat → Prop} {w W W2 : World} {u : List Nd} {v0 : Value} {s : St} {x y : Int} {l : List Int} {v vk : Value} (h : WL B0 b β ok w W u v0 s x y l v vk) (hb : Below W.heap.size W W2) : WL B0 b β ok w W2 u v0 s x y l v vk :=
  ⟨h.wk.below hb, (hb.block _ (blk_lt h.box)).trans h.box, Kd.R_below h.row hb, h.kp.trans h.own (Kp.of_below hb _ _), h.own⟩
/-- the first round's start -/
theorem WL.first {B0 b : Nat} {ok : Nat → Prop} {w : World} {u : List Nd} {s : St} {v : Value} (h : Wk B0 b ok w u s v) (x y : Int) :
    WL B0 b w.heap.size ok w (w.alloc (.cells #[.int .i64 x, .int .i64 y, .slice none 0 0] 60)) u v s x y [] v (.slice none 0 0) := by
  have hb : Below w.heap.size w (w.alloc (.cells #[.int .i64 x, .int .i64 y, .slice none 0 0] 60)) := (Below.refl _ w).alloc (Nat.le_refl _) _
  exact ⟨⟨h.arr.move (hb.block _ h.arr.lt), Kd.R_mono (Kd.R_below (Kd.R_bound h.row) hb) (fun j hj => ⟨hj.1, by have := hj.2.2.1; omega, by simp [Value.ownBlock]⟩), h.pl⟩, heap_alloc_new w _, Kd.R_nil _ _ _ _ _, Kp.of_below hb _ _, .inl rfl⟩
/-- a walk inside -/
theorem WL.call {B0 b β : Nat} {ok : Nat → Prop} {w W W2 : World} {u : List Nd} {v0 : Value} {s s2 : St} {x y : Int} {l : List Int} {v v2 vk : Value} (h : WL B0 b β ok w W u v0 s x y l v vk) (hbβ : b < β)
    (k : Wk B0 b (fun j => ok j ∧ j ≠ β ∧ some j ≠ vk.ownBlock) W2 u s2 v2) (kp : Kp W W2 b v) (ho : OwnOr W v2 v) : WL B0 b β ok w W2 u v0 s2 x y l v2 vk := by
  refine ⟨k, (kp.same _ (blk_lt h.box) (by omega) (fun e => (h.wk.row.1 _ e.symm).2.1 rfl)).trans h.box, ints_move h.row (fun q hq => kp.same q (Kd.R_lt h.row q hq) (by have := h.row.1 q hq; omega) (fun e => ?_)), h.kp.trans h.own kp, h.own.trans h.kp.size ho⟩
  exact (h.wk.row.1 q e.symm).2.2 hq.symm
/-- a kid's place is noted -/
theorem WL.kid {B0 b β : Nat} {ok : Nat → Prop} {w W W5 : World} {u : List Nd} {v0 : Value} {s : St} {x y z : Int} {l : List Int} {v vk v5 : Value} (h : WL B0 b β ok w W u v0 s x y l v vk) (hbβ : b < β) (hwβ : w.heap.size ≤ β)
    (hR : (Kd.int .i64).R 3 W5 (β + 1) (fun k => β < k) v5 (l ++ [z])) (hg : W.grownBy W5 vk.ownBlock) (hat : v5.ownBlock = vk.ownBlock ∨ ∃ c, v5.ownBlock = some c ∧ W.heap.size ≤ c) :
    WL B0 b β ok w (W5.setCell ⟨β, 2, none⟩ v5) u v0 s x y (l ++ [z]) v v5 := by
  have hβ := blk_lt h.box
  have hkβ : ∀ q, vk.ownBlock = some q → β < q := h.row.1
  have hbx5 : W5.heap[β]? = some (.cells #[.int .i64 x, .int .i64 y, vk] 60 (0, 0)) := (hg.block β hβ (fun e => by have := hkβ β e.symm; omega)).trans h.box
  have hrow5 : k60.R 60 W5 B0 (fun j => ok j ∧ j ≠ β ∧ some j ≠ v5.ownBlock) v s.2 := by
    refine Kd.R_mono (Kd.R_grown (Kd.R_bound h.wk.row) hg (fun j hj => hj.1.2.2)) (fun j hj => ⟨hj.1.1, hj.1.2.1, fun e => ?_⟩)
    rcases hat with h1 | ⟨c, h1, h2⟩
    · exact hj.1.2.2 (e.trans h1)
    · rw [h1] at e; injection e with e; have := hj.2.2.1; omega
  refine ⟨⟨?_, Kd.R_far (p := ⟨β, 2, none⟩) hrow5 (fun j hj => hj.2.1) _, h.wk.pl⟩, blk_set hbx5 2 v5, Kd.R_far (p := ⟨β, 2, none⟩) hR (fun k hk => by show k ≠ β; omega) _, ?_, h.own⟩
  · refine (h.wk.arr.move (hg.block b h.wk.arr.lt (fun e => by have := hkβ b e.symm; omega))).move (Below.heap_setCell W5 ⟨β, 2, none⟩ v5 b (by show b ≠ β; omega))
  · refine ⟨hg.os.trans h.kp.os, hg.tape.trans h.kp.tape, hg.output.trans h.kp.output, Nat.le_trans (Nat.le_trans h.kp.size hg.size) (by simp [World.setCell]), fun j hj hb hv => ?_⟩
    refine (Below.heap_setCell W5 ⟨β, 2, none⟩ v5 j (by show j ≠ β; omega)).trans ((hg.block j (Nat.lt_of_lt_of_le hj h.kp.size) (fun e => ?_)).trans (h.kp.same j hj hb hv))
    have := hkβ j e.symm; omega
/-- the end: the node's place is noted, the node stored -/
theorem WL.done {B0 b β : Nat} {ok : Nat → Prop} {w W W5 : World} {u : List Nd} {v0 : Value} {s : St} {x y : Int} {l : List Int} {v vk v5 : Value} {iN : Nat} (h : WL B0 b β ok w W u v0 s x y l v vk) (hi : iN < u.length)
    (hR : k60.R 60 W5 B0 ok v5 (s.2 ++ [⟨x, y, l⟩])) (hg : (W.setCell ⟨b, iN, none⟩ (.int .i64 (s.2.length : Int))).grownBy W5 v.ownBlock) (hat : v5.ownBlock = v.ownBlock ∨ ∃ c, v5.ownBlock = some c ∧ W.heap.size ≤ c)
    (hok : ∀ j, ok j → j ≠ b) (hP : Pl u (upd s.1 iN s.2.length, s.2 ++ [⟨x, y, l⟩])) :
    Wk B0 b ok W5 u (upd s.1 iN s.2.length, s.2 ++ [⟨x, y, l⟩]) v5 ∧ Kp w W5 b v0 ∧ OwnOr w v5 v0 := by
  have hsz : (W.setCell ⟨b, iN, none⟩ (.int .i64 (s.2.length : Int))).heap.size = W.heap.size := by simp [World.setCell]
  have hnb : some b ≠ v.ownBlock := fun e => hok b (h.wk.row.1 b e.symm).1 rfl
  refine ⟨⟨?_, hR, hP⟩, ?_, ?_⟩
  · have h1 := h.wk.arr.put iN (s.2.length : Int)
    rw [atl_upd s.1 _ hi] at h1
    exact h1.move (hg.block b (by rw [hsz]; exact h.wk.arr.lt) hnb)
  · refine h.kp.trans h.own ⟨hg.os, hg.tape, hg.output, by rw [← hsz]; exact hg.size, fun j hj hb hv => ?_⟩
    exact (hg.block j (by rw [hsz]; exact hj) hv).trans (Below.heap_setCell W ⟨b, iN, none⟩ _ j (by show j ≠ b; exact hb))
  · exact h.own.trans h.kp.size (hat.elim .inl .inr)
/-- what the walk has done with a node's first kids -/
def kidSt (u : List Nd) (d : Nat) (s : St) (l : List Int) : St := l.foldl (fun s c => dfs u d c s) s
theorem kidSt_snoc (u : List Nd) (d : Nat) (s : St) (l : List Int) (c : Int) : kidSt u d s (l ++ [c]) = dfs u d c (kidSt u d s l) := by simp [kidSt]
theorem kidSt_mp {u : List Nd} (hu : Down u) {d i : Nat} (hi : i < u.length) (hd : i ≤ d) {s : St} (hs : Pl u s) : ∀ (l : List Int), (∀ c ∈ l, 0 ≤ c ∧ c < (i : Int)) →
    Pl u (kidSt u d s l) ∧ Ext s (kidSt u d s l) ∧ ∀ c ∈ l, ((kidSt u d s l).1 c).isSome := by
  have key : ∀ (l : List Int) (s : St), (∀ c ∈ l, 0 ≤ c ∧ c < (i : Int)) → Pl u s → Pl u (kidSt u d s l) ∧ Ext s (kidSt u d s l) ∧ ∀ c ∈ l, ((kidSt u d s l).1 c).isSome := by
    intro l
    induction l with
    | nil => intro s _ hs; exact ⟨hs, fun _ _ h => h, by simp⟩
    | cons c l ih =>
      intro s hl hs
      obtain ⟨c0, c1⟩ := hl c List.mem_cons_self
      obtain ⟨n, rfl⟩ : ∃ n : Nat, c = n := ⟨c.toNat, by omega⟩
      obtain ⟨p1, p2, p3, _⟩ := dfs_pl hu d n s (by omega) (by omega) hs
      obtain ⟨q1, q2, q3⟩ := ih (dfs u d n s) (fun k hk => hl k (List.mem_cons_of_mem _ hk)) p1
      refine ⟨q1, fun a b h => q2 a b (p2 a b h), fun k hk => ?_⟩
      rcases List.mem_cons.1 hk with rfl | hk
      · obtain ⟨b, hb⟩ := Option.isSome_iff_exists.1 p3
        show ((kidSt u d (dfs u d n s) l).1 _).isSome = true
        rw [q2 _ _ hb]; rfl
      · exact q3 k hk
  exact fun l hl => key l s hl hs
theorem mp_ext {g g' : PM} {l : List Int} (h : ∀ c ∈ l, ∀ a, g c = some a → g' c = some a) (hs : ∀ c ∈ l, (g c).isSome) : mp g' l = mp g l := by
  refine List.map_congr_left fun c hc => ?_
  obtain ⟨a, ha⟩ := Option.isSome_iff_exists.1 (hs c hc)
  rw [h c hc a ha, ha]
end Go.Proofs.YtopbjginpmdebaaDoor.K
-- exactpplref19.walk
namespace Go.Proofs.YtopbjginpmdebaaDoor.K
open Go.RowKit Go.Maps Go.Proofs.YtopbjginpmdebaaDoorW.PrintWords Go.Proofs.YtopbjginpmdebaaDoorW.PrintLast Go.Proofs.YtopbjginpmdebaaDoorW.PrintMore
set_option linter.unusedVariables false
set_option linter.unusedSimpArgs false
def WkPost (B0 b : Nat) (ok : Nat → Prop) (w : World) (u : List Nd) (r : St) (v : Value) (e : Ending) (w' : World) : Prop := ∃ v', e = .returned v' ∧ Wk B0 b ok w' u r v' ∧ Kp w w' b v ∧ OwnOr w v' v
set_option maxHeartbeats 32000000 in
set_option maxRecDepth 100000 in
theorem walk_calls (B0 b : Nat) (u : List Nd) (hu : Down u) (Au : Option Addr) (cu : Nat) (hcu : u.length ≤ cu) (hkl : ∀ x ∈ u, x.f2.length ≤ 1073741824) (hul : (u.length + 1) * 40 ≤ 140737488355328) (hb0 : B0 ≤ b) :
    ∀ (d i : Nat) (s : St) (ok : Nat → Prop) (v : Value) (w : World), i < u.length → i < d → B0 ≤ w.heap.size → (∀ W, Below B0 w W → k60.C W Au u.length u) → Wk B0 b ok w u s v → (∀ j, ok j → j ≠ b) → (∀ j, w.heap.size ≤ j → ok j) →
    Calls Tryd.prog 78 #[.slice Au u.length cu, .int .i64 (i : Nat), .slice (some ⟨b, 0, none⟩) u.length u.length, v] w (WkPost B0 b ok w u (dfs u d i s) v) := by
  intro d
  induction d with
  | zero => intro i s ok v w _ h; omega
  | succ d ih =>
    intro i s ok v w hi hd hB hC hwk hok hnew
    have IH := Lib.hid ih
    clear ih
    have hat := hwk.arr.at i (by rw [atl_len]; exact hi)
    rw [atl_get s.1 hi] at hat
    have a0 := hat.1
    have hbl := hwk.arr.lt
    have HU := Lib.hid hu
    have HKL := Lib.hid hkl
    have HC := Lib.hid hC
    have HWK := Lib.hid hwk
    have HOK := Lib.hid hok
    have HNEW := Lib.hid hnew
    obtain ⟨N, hN⟩ : ∃ N, N = u.length := ⟨_, rfl⟩
    have HN := Lib.hid hN
    rw [← hN] at hi hul hcu ⊢
    clear hu hkl hC hwk hok hnew hat hN
    have hib : i < 4000000000000 := by omega
    have hii : (i : Int) < (N : Int) := by omega
    cases hg : s.1 (i : Int) with
    | some a =>
      have ha := (HWK.out.pl.node _ _ hg).2.1
      rw [hg] at a0
      have e : dfs u (d + 1) (i : Int) s = s := by simp only [dfs]; rw [hg]; rfl
      rw [e]
      have a1 : w.cell? ⟨b, i, none⟩ = some (.int .i64 a) := a0
      clear e hg a0
      go_enter Tryd.func78, Tryd.ntmps78
      go_wp2
      go_ret
      exact ⟨_, rfl, HWK.out, Kp.refl _ _ _, .inl rfl⟩
    | none =>
      rw [hg] at a0
      have e : dfs u (d + 1) (i : Int) s = fin u (i : Int) (kidSt u d s (nth u (i : Int)).f2) := by simp only [dfs]; rw [hg]; rfl
      rw [e]
      have a1 : w.cell? ⟨b, i, none⟩ = some (.int .i64 (-1)) := a0
      have HG := Lib.hid hg
      clear e hg a0
      obtain ⟨ad, A2, c2, rfl, d0, d1, d2, l2, g2⟩ := at_T60 (HC.out w (Below.refl _ _)) (i : Int) (by omega) (by have := HN.out; omega)
      rw [Int.toNat_natCast] at d0 d1 d2
      rw [rd_nth] at d0 d1 d2 l2 g2
      have hiu : i < u.length := by have := HN.out; omega
      obtain ⟨n, hn⟩ : ∃ n, n = nth u (i : Int) := ⟨_, rfl⟩
      have hnm : n ∈ u := by rw [hn, nth_lt hiu]; exact List.getElem_mem hiu
      rw [← hn] at d0 d1 d2 l2 g2 ⊢
      have hI2 := HKL.out n hnm
      have hkids : ∀ c ∈ n.f2, 0 ≤ c ∧ c < (i : Int) := by rw [hn]; exact HU.out i hiu
      obtain ⟨M, hM⟩ : ∃ M, M = n.f2.length := ⟨_, rfl⟩
      have HM := Lib.hid hM
      rw [← hM] at d2 l2 hI2
      have HNN := Lib.hid hn
      have HKIDS := Lib.hid hkids
      have hdl := World.block_lt_of_cell? _ _ d0
      clear hn hkids hM g2
      go_enter Tryd.func78, Tryd.ntmps78
      go_wp2
      go_region
      go_wp2
      go_loopw [3, 10] (fun o i W => ∃ (j : Nat) (vv vk : Value), vv = o ∧ i = .int .i64 j ∧ j ≤ M ∧ WL B0 b w.heap.size ok w W u v (kidSt u d s (n.f2.take j)) n.f0 n.f1 (mp (kidSt u d s (n.f2.take j)).1 (n.f2.take j)) vv vk) (fun _ i _ => M - (intOf i).toNat)
      case atStart => exact ⟨0, _, _, rfl, rfl, Nat.zero_le _, (WL.first HWK.out n.f0 n.f1).below (Below.refl _ _).drew⟩
      case round =>
        obtain ⟨j, vv, vk, rfl, rfl, hj, hwl⟩ := hrel
        have hkb2 : ∀ k, v.ownBlock = some k → B0 ≤ k := Kd.R_base HWK.out.row
        have hBW : Below B0 w wr := hwl.kp.below hB hb0 hkb2
        have hsz := hwl.kp.size
        have hβ := blk_lt hwl.box
        obtain ⟨ad', A3, c3, had, -, -, d3, l3, g3⟩ := at_T60 (HC.out wr hBW) (i : Int) (by omega) (by have := HN.out; omega)
        injection had with had
        subst had
        rw [Int.toNat_natCast] at d3
        rw [rd_nth, ← HNN.out] at d3 l3 g3
        rw [← HM.out] at d3 l3
        obtain ⟨sj, hsj⟩ : ∃ sj, sj = kidSt u d s (n.f2.take j) := ⟨_, rfl⟩
        obtain ⟨l, hl⟩ : ∃ l, l = mp (kidSt u d s (n.f2.take j)).1 (n.f2.take j) := ⟨_, rfl⟩
        rw [← hl, ← hsj] at hwl
        have hll : l.length = j := by rw [hl]; simp [mp]; have := HM.out; omega
        obtain ⟨Avk, cvk, rfl⟩ := Kd.R_slice hwl.row
        have HWL := Lib.hid hwl
        have HSJ := Lib.hid hsj
        have HL := Lib.hid hl
        have HLL := Lib.hid hll
        have HBW := Lib.hid hBW
        have HG3 := Lib.hid g3
        have hjb : j ≤ 1073741824 := by omega
        clear hwl hsj hl hll hkb2 hBW g3 d0 d1 d2 a1 hdl
        by_cases hjl : j < M
        · have hjn : j < n.f2.length := by have := HM.out; omega
          obtain ⟨ad2, rfl, hkc⟩ := reads_at HG3.out (by intro e; rw [e] at hjn; simp at hjn)
          have e0 := hkc j hjn
          have hcm : n.f2.getD j 0 ∈ n.f2 := by rw [List.getD_eq_getElem?_getD, List.getElem?_eq_getElem hjn]; exact List.getElem_mem hjn
          obtain ⟨hc0, hc1⟩ := HKIDS.out _ hcm
          obtain ⟨cn, hcn⟩ : ∃ cn : Nat, n.f2.getD j 0 = cn := ⟨(n.f2.getD j 0).toNat, by omega⟩
          rw [hcn] at e0 hc1
          have hcN : cn < N := by omega
          have hcNi : (cn : Int) < (N : Int) := by omega
          have hcb : cn < 4000000000000 := by omega
          have hji : (j : Int) < (M : Int) := by omega
          have HCN := Lib.hid hcn
          have hA := IH.out cn sj (fun q => ok q ∧ q ≠ w.heap.size ∧ some q ≠ (Value.slice Avk l.length cvk).ownBlock) vv wr (by have := HN.out; omega) (by omega) (Nat.le_trans hB hsz) (fun W hW => HC.out W (HBW.out.trans hW)) HWL.out.wk (fun q hq => HOK.out q hq.1) (fun q hq => ⟨HNEW.out q (by omega), by omega, fun e => by have := Kd.R_lt HWL.out.row q e.symm; omega⟩)
          rw [← HN.out] at hA
          have HKC := Lib.hid hkc
          clear hcm hcn hkc
          go_wp2_with (go_at_call 78; refine hA.mono ?_; clear hA; rintro e w2 ⟨v2, rfl, hwk2, hkp2, ho2⟩; have HWK2 := Lib.hid hwk2; have HKP2 := Lib.hid hkp2; have HO2 := Lib.hid ho2; clear hwk2 hkp2 ho2)
          have hwl2 := HWL.out.call (by omega) HWK2.out HKP2.out HO2.out
          have hBW2 : Below B0 w w2 := hwl2.kp.below hB hb0 (Kd.R_base HWK.out.row)
          obtain ⟨ad', A4, c4, had, -, -, d4, l4, g4⟩ := at_T60 (HC.out w2 hBW2) (i : Int) (by omega) (by have := HN.out; omega)
          injection had with had
          subst had
          rw [Int.toNat_natCast] at d4
          rw [rd_nth, ← HNN.out] at d4 l4 g4
          rw [← HM.out] at d4 l4
          obtain ⟨ad4, rfl, hkc4⟩ := reads_at g4 (by intro e; rw [e] at hjn; simp at hjn)
          have e4 := hkc4 j hjn
          rw [HCN.out] at e4
          have q0 : w2.cell? ⟨w.heap.size, 2, none⟩ = some (.slice Avk l.length cvk) := (blk_cell hwl2.box 2).trans rfl
          have fq0 := blk_frozen hwl2.box 2
          have hcu' : cn < u.length := by have := HN.out; omega
          have p0 := (hwl2.wk.arr.at cn (by rw [atl_len]; exact hcu')).1
          rw [atl_get _ hcu'] at p0
          obtain ⟨z, hz⟩ : ∃ z, z = ((dfs u d (cn : Int) sj).1 (cn : Int)).getD (-1) := ⟨_, rfl⟩
          rw [← hz] at p0
          have hm2 := blk_lt hwl2.box
          have hlb : l.length ≤ 1073741824 := by have := HLL.out; omega
          have HZ := Lib.hid hz
          have HWL2 := Lib.hid hwl2
          have HR2 := Lib.hid hwl2.row
          clear hwl2 hBW2 g4 hkc4 hz d3 e0
          go_region_law (((refine Kd.R_append_step (Kd.int .i64) (w0 := w2) (W := w2.drew) (w.heap.size + 1) (by rfl) (.tmp 51) (.tmp 63) 22 3 (.int .i64 0) 8 rfl Tryd.underlying22 info3 rfl (by decide) (by decide) (.slice Avk l.length cvk) l z [.int .i64 z] (fun k => w.heap.size < k) (fun _ => False) (by rfl) (by rfl) rfl (fun _ h => h.elim) (fun k hk => Nat.lt_of_lt_of_le hm2 hk) HR2.out (Below.refl _ _).drew hm2 (by omega) ?_; intro v5 w5 hR5 hB5 hg5 hat5; obtain ⟨A5, c5, rfl⟩ := Kd.R_slice hR5; have hbx5 := (hB5.block w.heap.size (Nat.lt_succ_self _)).trans HWL2.out.box; have q1 := blk_cell hbx5 2; have q2 := blk_frozen hbx5 2)))
          all_goals
            have hk5 := HWL2.out.kid (by omega) (Nat.le_refl _) hR5 ⟨hg5.os, hg5.tape, hg5.output, hg5.size, hg5.block⟩ hat5
            rw [List.length_append, List.length_singleton] at hk5 hR5
            have HK5 := Lib.hid hk5
            clear hR5 hB5 hg5 hat5 hbx5 hk5
            go_wp2
            go_roundw
            case rel =>
              refine ⟨j + 1, v2, .slice A5 (l.length + 1) c5, rfl, by go_num, hjl, ?_⟩
              have hgj : n.f2[j] = (cn : Int) := by
                have := HCN.out
                rw [List.getD_eq_getElem?_getD, List.getElem?_eq_getElem hjn] at this
                exact this
              have hks := kidSt_mp HU.out hiu (by omega) HWK.out.pl (n.f2.take j) (fun c hc => HKIDS.out c (List.mem_of_mem_take hc)) (d := d)
              have hds := dfs_pl HU.out d cn sj (by have := HN.out; omega) (by omega) HWL.out.wk.pl
              have h1 : kidSt u d s (n.f2.take (j + 1)) = dfs u d (cn : Int) sj := by rw [List.take_succ_eq_append_getElem hjn, kidSt_snoc, ← HSJ.out, hgj]
              have h2 : mp (dfs u d (cn : Int) sj).1 (n.f2.take (j + 1)) = l ++ [z] := by
                rw [mp_succ _ _ _ hjn, HCN.out, mp_ext (g := sj.1) (fun c hc a ha => hds.2.1 c a ha) (by rw [HSJ.out]; exact hks.2.2), HL.out, ← HSJ.out, HZ.out]
                obtain ⟨a, ha⟩ := Option.isSome_iff_exists.1 hds.2.2.1
                rw [ha]; rfl
              rw [h1, h2]
              exact HK5.out
            case measure => simp [intOf]; omega
        · have ej : j = M := by omega
          have htk : n.f2.take j = n.f2 := List.take_of_length_le (by have := HM.out; omega)
          have hs1 : sj = kidSt u d s n.f2 := by rw [HSJ.out, htk]
          have hl1 : l = mp sj.1 n.f2 := by rw [HL.out, ← HSJ.out, htk]
          have hfin : fin u (i : Int) (kidSt u d s n.f2) = (upd sj.1 (i : Int) sj.2.length, sj.2 ++ [⟨n.f0, n.f1, l⟩]) := by
            rw [← hs1, hl1]; unfold fin; rw [← HNN.out]
          have hpl : Pl u (upd sj.1 (i : Int) sj.2.length, sj.2 ++ [⟨n.f0, n.f1, l⟩]) := by
            have h1 := (dfs_pl HU.out (d + 1) i s hiu (by omega) HWK.out.pl).1
            have h2 : dfs u (d + 1) (i : Int) s = fin u (i : Int) (kidSt u d s n.f2) := by rw [HNN.out]; simp only [dfs]; rw [HG.out]; rfl
            rw [h2, hfin] at h1
            exact h1
          have HPL := Lib.hid hpl
          have HFIN := Lib.hid hfin
          obtain ⟨Ao, co, rfl⟩ := Kd.R_slice HWL.out.wk.row
          have hol := Pl.len HWL.out.wk.pl
          have p0 := (HWL.out.wk.arr.at i (by rw [atl_len]; exact hiu))
          have p1 := p0.1
          have p2 := p0.2
          have b0 : wr.cell? ⟨w.heap.size, 0, none⟩ = some (.int .i64 n.f0) := (blk_cell HWL.out.box 0).trans rfl
          have b1 : wr.cell? ⟨w.heap.size, 1, none⟩ = some (.int .i64 n.f1) := (blk_cell HWL.out.box 1).trans rfl
          have b2 : wr.cell? ⟨w.heap.size, 2, none⟩ = some (.slice Avk l.length cvk) := (blk_cell HWL.out.box 2).trans rfl
          obtain ⟨K, hK⟩ : ∃ K, K = sj.2.length := ⟨_, rfl⟩
          have HK := Lib.hid hK
          have hKb : K < 4000000000000 := by have := HN.out; omega
          have HOL := Lib.hid hol
          rw [← hK]
          clear hpl hfin hl1 hs1 htk hol p0 hK
          have hbβ : b ≠ w.heap.size := by omega
          have HROW := Lib.hid (show k60.R 60 (wr.setCell ⟨b, i, none⟩ (.int .i64 (K : Int))) B0 ok (.slice Ao K co) sj.2 from by
            have h1 := Kd.R_mono (Kd.R_far (p := ⟨b, i, none⟩) HWL.out.wk.row (fun q hq => HOK.out q hq.1) (.int .i64 (K : Int))) (ok' := ok) (fun q hq => hq.1)
            rw [← HK.out] at h1; exact h1)
          have HMM := Lib.hid (show k60.M (wr.setCell ⟨b, i, none⟩ (.int .i64 (K : Int))) B0 (fun q => w.heap.size < q ∧ some q = (Value.slice Avk l.length cvk).ownBlock) ⟨n.f0, n.f1, l⟩ [.int .i64 n.f0, .int .i64 n.f1, .slice Avk l.length cvk] from
            k60_mkM _ _ _ ⟨n.f0, n.f1, l⟩ (Kd.R_mono (Kd.R_far (p := ⟨b, i, none⟩) (Kd.R_lower (Kd.R_mono (Kd.R_tight rfl HWL.out.row) (ok' := fun q => w.heap.size < q ∧ some q = (Value.slice Avk l.length cvk).ownBlock) (fun q hq => ⟨HWL.out.row.1 q hq.symm, hq⟩)) (by omega)) (fun q hq => by show q ≠ b; have := hq.1; omega) _) (fun q hq => hq)))
          have HOO := Lib.hid (show ∀ q, (w.heap.size < q ∧ some q = (Value.slice Avk l.length cvk).ownBlock) → ok q ∧ some q ≠ (Value.slice Ao K co).ownBlock from fun q hq => ⟨HNEW.out q (by omega), fun e => by
            have := (HWL.out.wk.row.1 q (by rw [← HK.out]; exact e.symm)).2.2
            exact this hq.2⟩)
          have hszs : (wr.setCell ⟨b, i, none⟩ (.int .i64 (K : Int))).heap.size = wr.heap.size := by simp [World.setCell]
          have HSZ := Lib.hid hszs
          clear hszs
          go_wp2_with (at_builtin; refine Hid.out ?_)
          refine Lib.hid ?_
          refine Kd.R_append k60 (w0 := w) (W := wr.setCell ⟨b, i, none⟩ (.int .i64 (K : Int))) B0 rfl (.tmp 71) (.tmp 73) 24 60 (.agg #[(.int .i64 0), (.int .i64 0), (.slice none 0 0)]) 40 rfl Tryd.underlying24 info60 rfl (by decide) (by decide) (.slice Ao K co) sj.2 ⟨n.f0, n.f1, l⟩ [.int .i64 n.f0, .int .i64 n.f1, .slice Avk l.length cvk] ok (fun q => w.heap.size < q ∧ some q = (Value.slice Avk l.length cvk).ownBlock) rfl (by refine (show _ = Value.slice (some ⟨wr.heap.size, 0, none⟩) 1 1 from rfl).trans ?_; rw [HSZ.out]) HMM.out HOO.out (fun q hq => HNEW.out q (by have := HSZ.out; omega)) HROW.out ?_ (by have := HSZ.out; omega) (by have := HK.out; have := HOL.out; have := HN.out; omega) ?_
          · exact (HBW.out).setCell (p := ⟨b, i, none⟩) hb0 _
          intro v5 w5 hR5 hB5 hg5 hat5
          have HF := Lib.hid (HWL.out.done hiu hR5 (by rw [← HK.out]; exact hg5) (hat5.elim (fun h => .inl (by rw [← HK.out]; exact h)) (fun ⟨q, h1, h2⟩ => .inr ⟨q, h1, by have := HSZ.out; omega⟩)) HOK.out HPL.out)
          clear hR5 hB5 hg5 hat5
          go_wp2
          go_ret
          refine ⟨v5, rfl, ?_⟩
          rw [HFIN.out]
          exact HF.out
end Go.Proofs.YtopbjginpmdebaaDoor.K
-- exactpplref19.Order, Canon
namespace Go.Proofs.YtopbjginpmdebaaDoor.K
open Go.RowKit Go.Maps Go.Proofs.YtopbjginpmdebaaDoorW.PrintWords Go.Proofs.YtopbjginpmdebaaDoorW.PrintLast Go.Proofs.YtopbjginpmdebaaDoorW.PrintMore
set_option linter.unusedVariables false
set_option linter.unusedSimpArgs false
/-- how a function ends that returns a diagram -/
def DPost (w : World) (l : List Nd) (e : Ending) (w' : World) : Prop := Below w.heap.size w w' ∧ ∃ vo, e = .returned (.agg #[vo]) ∧ k60.R 60 w' w.heap.size (fun _ => True) vo l
/-- the first j entries are -1 -/
def mns (j n : Nat) : List Int := List.replicate j (-1) ++ List.replicate (n - j) 0
theorem mns_len {j n : Nat} (h : j ≤ n) : (mns j n).length = n := by simp [mns]; omega
theorem mns_set {j n : Nat} (h : j < n) : (mns j n).set j (-1) = mns (j + 1) n := by
  unfold mns
  obtain ⟨m, hm⟩ : ∃ m, n - j = m + 1 := ⟨n - j - 1, by omega⟩
  rw [hm, List.set_append_right _ _ (by simp), List.length_replicate, Nat.sub_self, List.replicate_succ, List.set_cons_zero, show n - (j + 1) = m by omega, List.replicate_succ' (n := j), List.append_assoc]
  rfl
theorem mns_all (n : Nat) : mns n n = atl n (fun _ => none) := by
  unfold mns atl
  simp only [Nat.sub_self, List.replicate_zero, List.append_nil, Option.getD_none]
  apply List.ext_getElem
  · simp
  · intro i h1 h2; simp
set_option maxHeartbeats 16000000 in
set_option maxRecDepth 100000 in
theorem order_calls (u : List Nd) (root : Nat) (Au : Option Addr) (cu : Nat) (w : World) (hC : k60.C w Au u.length u) (hcu : u.length ≤ cu) (hu : Down u) (hr : root < u.length) (hkl : ∀ x ∈ u, x.f2.length ≤ 1073741824) (hul : (u.length + 1) * 40 ≤ 140737488355328) :
    Calls Tryd.prog 73 #[.slice Au u.length cu, .int .i64 (root : Nat)] w (DPost w (expo u (root : Nat))) := by
  have HC := Lib.hid hC
  have HU := Lib.hid hu
  have HKL := Lib.hid hkl
  have HUL := Lib.hid hul
  have HCU := Lib.hid hcu
  obtain ⟨N, hN⟩ : ∃ N, N = u.length := ⟨_, rfl⟩
  have HN := Lib.hid hN
  have hmk := print_make (P := Tryd.prog) 22 3 .i64 8 Tryd.underlying22 info3 (by decide) N (by omega)
  rw [← hN] at hul hcu hr ⊢
  clear hC hu hkl hN
  have hb0 : Below w.heap.size w (w.alloc (.cells #[.slice none 0 0] 31)) := (Below.refl _ w).alloc (Nat.le_refl _) _
  have hbx0 := heap_alloc_new w (.cells #[.slice none 0 0] 31)
  have hs0 : (w.alloc (.cells #[.slice none 0 0] 31)).heap.size = w.heap.size + 1 := by simp
  have harr := Arr.made (w.alloc (.cells #[.slice none 0 0] 31)) N (by omega)
  rw [hs0] at harr
  have hb1 : Below w.heap.size w ((w.alloc (.cells #[.slice none 0 0] 31)).alloc (.cells (madeCells #[.int .i64 0] N) 3)) := hb0.alloc (by rw [hs0]; omega) _
  have hbx1 : ((w.alloc (.cells #[.slice none 0 0] 31)).alloc (.cells (madeCells #[.int .i64 0] N) 3)).heap[w.heap.size]? = some (.cells #[.slice none 0 0] 31 (0, 0)) := (Below.heap_alloc _ _ _ (by rw [hs0]; omega)).trans hbx0
  have H0 := Lib.hid (And.intro hb1 (And.intro hbx1 harr))
  clear hb0 hbx0 hs0 harr hb1 hbx1
  go_enter Tryd.func73, Tryd.ntmps73
  go_wp2
  go_loopw [6] (fun i W => ∃ j : Nat, i = .int .i64 j ∧ j ≤ N ∧ Below w.heap.size w W ∧ W.heap[w.heap.size]? = some (.cells #[.slice none 0 0] 31 (0, 0)) ∧ Arr W (w.heap.size + 1) (mns j N)) (fun i _ => N - (intOf i).toNat)
  case atStart => exact ⟨0, rfl, Nat.zero_le _, H0.out.1, H0.out.2.1, by simpa [mns] using H0.out.2.2⟩
  case round =>
    obtain ⟨j, rfl, hj, hB, hbx, har⟩ := hrel
    have HB := Lib.hid hB
    have HBX := Lib.hid hbx
    have HA := Lib.hid har
    clear hB hbx har
    by_cases hjl : j < N
    · have e0 := HA.out.at j (by rw [mns_len hj]; exact hjl)
      have e1 := e0.1
      have e2 := e0.2
      have hjb : j < 4000000000000 := by omega
      have hji : (j : Int) < (N : Int) := by omega
      clear e0
      go_wp2
      go_roundw
      case rel =>
        refine ⟨j + 1, by go_num, hjl, HB.out.setCell (p := ⟨w.heap.size + 1, j, none⟩) (by show w.heap.size ≤ w.heap.size + 1; omega) _, (Below.heap_setCell _ ⟨w.heap.size + 1, j, none⟩ _ _ (by show w.heap.size ≠ w.heap.size + 1; omega)).trans HBX.out, ?_⟩
        rw [← mns_set hjl]
        exact HA.out.put j (-1)
      case measure => simp [intOf]; omega
    · obtain rfl : j = N := by omega
      have hwk : Wk w.heap.size (w.heap.size + 1) (fun q => q ≠ w.heap.size + 1 ∧ q ≠ w.heap.size) wr u (fun _ => none, []) (.slice none 0 0) := ⟨by rw [← HN.out, ← mns_all]; exact HA.out, Kd.R_nil _ _ _ _ _, pl_nil u⟩
      have hbl := HA.out.lt
      have hA := (walk_calls w.heap.size (w.heap.size + 1) u HU.out Au cu HCU.out HKL.out HUL.out (by omega) (root + 1) root _ (fun q => q ≠ w.heap.size + 1 ∧ q ≠ w.heap.size) (.slice none 0 0) wr (by have := HN.out; omega) (by omega) (by omega) (fun W hW => Kd.C_below HC.out (HB.out.trans hW)) hwk (fun q hq => hq.1) (fun q hq => ⟨by omega, by omega⟩)).mono (R' := fun e w2 => ∃ v', e = .returned v' ∧ Below w.heap.size w w2 ∧ w2.heap[w.heap.size]? = some (.cells #[.slice none 0 0] 31 (0, 0)) ∧ k60.R 60 w2 w.heap.size (fun q => q ≠ w.heap.size + 1 ∧ q ≠ w.heap.size) v' (expo u (root : Nat))) (by
        rintro e w2 ⟨v', rfl, h1, h2, h3⟩
        refine ⟨v', rfl, HB.out.trans (h2.below (by omega) (by omega) (by simp [Value.ownBlock])), (h2.same _ (blk_lt HBX.out) (by omega) (by simp [Value.ownBlock])).trans HBX.out, ?_⟩
        unfold expo
        rw [Int.toNat_natCast]
        exact h1.row)
      rw [← HN.out] at hA
      clear hwk
      go_wp2_with (go_at_call 78; refine hA.mono ?_; clear hA; rintro e w2 ⟨v2, rfl, hb2, hbx2, hR2⟩; obtain ⟨A2, c2, rfl⟩ := Kd.R_slice hR2; have b0 := blk_cell hbx2 0; have f0 := blk_frozen hbx2 0; have HB2 := Lib.hid hb2; have HBX2 := Lib.hid hbx2; have HR2 := Lib.hid hR2; clear hb2 hbx2 hR2)
      have hb3 := blk_set HBX2.out 0 (.slice A2 (expo u (root : Nat)).length c2)
      have q0 := (blk_cell hb3 0).trans rfl
      refine bodyPost_ret (v := .agg #[.slice A2 (expo u (root : Nat)).length c2]) (by simp [results, Tryd.f73, go_sem, q0]) rfl ⟨HB2.out.setCell (p := ⟨w.heap.size, 0, none⟩) (Nat.le_refl _) _, _, rfl, ?_⟩
      exact Kd.R_mono (Kd.R_far (p := ⟨w.heap.size, 0, none⟩) HR2.out (fun q hq => hq.2) _) (fun _ _ => trivial)
theorem expo_len {u : List Nd} (hu : Down u) {r : Nat} (hr : r < u.length) : (expo u (r : Nat)).length ≤ u.length := by
  obtain ⟨g, h, _⟩ := expo_pl hu hr
  exact h.len
set_option maxHeartbeats 16000000 in
set_option maxRecDepth 100000 in
theorem canon_calls (nodes : List Nd) (A : Option Addr) (c : Nat) (w : World) (hC : k60.C w A nodes.length nodes) (hc : nodes.length ≤ c) (hF : Fit nodes) (hfr : ∀ n ∈ nodes, Frm n) (hne : nodes ≠ [])
    (hlen : ∀ x ∈ nodes, x.f2.length ≤ 1073741824) (hroom : (nodes.length + 1) * 40 ≤ 140737488355328) :
    Calls Tryd.prog 68 #[.slice A nodes.length c] w (DPost w (expo (imp [] [] nodes).1 (rtN nodes : Nat))) := by
  have hb0 : Below w.heap.size w (w.alloc (.cells #[.slice none 0 0] 31)) := (Below.refl _ w).alloc (Nat.le_refl _) _
  have hbx0 := heap_alloc_new w (.cells #[.slice none 0 0] 31)
  have hs0 : (w.alloc (.cells #[.slice none 0 0] 31)).heap.size = w.heap.size + 1 := by simp
  have hp := List.length_pos_iff.2 hne
  have htl := imp_tbl hF tbl_nil nodes.length (Nat.le_refl _)
  rw [List.take_length] at htl
  have hl := imp_len nodes [] []
  have hrt : lk (imp [] [] nodes).2 ((nodes.length - 1 : Nat) : Int) = (rtN nodes : Int) ∧ rtN nodes < (imp [] [] nodes).1.length := by
    have h2 := htl.1.at_lt _ (lk_mem (at_ := (imp [] [] nodes).2) (c := ((nodes.length - 1 : Nat) : Int)) (by omega) (by rw [hl]; simp; omega))
    unfold rtN; omega
  have hA := (append_calls (w.heap.size + 1) (fun _ => True) [] nodes none A 0 c (w.alloc (.cells #[.slice none 0 0] 31)) (by omega) (Kd.R_nil _ _ _ _ _) (fun W hW => Kd.C_below hC (hb0.trans ⟨hW.os, hW.tape, hW.output, hW.size, fun j hj => hW.block j (by omega) (by simp [Value.ownBlock])⟩)) hc hF hfr tbl_nil hlen (by simp) (by simp; omega) (fun _ _ => trivial)).mono (R' := fun e w2 => ∃ A2 c2, e = .returned (.tuple #[.slice A2 (imp [] [] nodes).1.length c2, .slice (some ⟨w.heap.size + 1, 0, none⟩) nodes.length nodes.length]) ∧ (imp [] [] nodes).1.length ≤ c2 ∧ k60.C w2 A2 (imp [] [] nodes).1.length (imp [] [] nodes).1 ∧ Below (w.heap.size + 1) (w.alloc (.cells #[.slice none 0 0] 31)) w2 ∧ w2.cell? ⟨w.heap.size + 1, nodes.length - 1, none⟩ = some (.int .i64 (rtN nodes : Nat))) (by
    rintro e w2 ⟨v', rfl, h⟩
    have h1 := h.row
    have h2 := h.arr
    rw [List.take_length] at h1 h2
    rw [hs0] at h2 ⊢
    obtain ⟨A2, c2, rfl, h3, h4⟩ := Kd.R_reads h1
    refine ⟨A2, c2, rfl, h3, h4, ⟨h.grown.os, h.grown.tape, h.grown.output, h.grown.size, fun j hj => h.grown.block j (by omega) (by simp [Value.ownBlock])⟩, ?_⟩
    have h5 := (h2.at (nodes.length - 1) (by rw [padd_len (by rw [hl]; simp)]; omega)).1
    rw [padd_get (by rw [hl]; simp; omega)] at h5
    rw [h5]
    have h6 := hrt.1
    unfold lk at h6
    rw [Int.toNat_natCast] at h6
    rw [h6])
  have hkl : ∀ x ∈ (imp [] [] nodes).1, x.f2.length ≤ 1073741824 := imp_kids nodes [] [] (by simp) hlen
  obtain ⟨U, hU⟩ : ∃ U, U = (imp [] [] nodes).1 := ⟨_, rfl⟩
  rw [← hU] at hA hkl htl hrt ⊢
  have HB0 := Lib.hid hb0
  have HBX0 := Lib.hid hbx0
  have HD := Lib.hid htl.1.down
  have HRT := Lib.hid hrt.2
  have HKL := Lib.hid hkl
  have hUl : U.length ≤ nodes.length := by have := htl.2.1; simpa using this
  obtain ⟨N, hN⟩ : ∃ N, N = nodes.length := ⟨_, rfl⟩
  obtain ⟨R, hR⟩ : ∃ R, R = rtN nodes := ⟨_, rfl⟩
  rw [← hR] at hA HRT ⊢
  rw [← hN] at hA hUl hp hroom hc ⊢
  have hNb : N < 4000000000000 := by omega
  have e1 : (N : Int) - 1 = ((N - 1 : Nat) : Int) := by omega
  have hN1 : N - 1 < N := by omega
  have HS0 := Lib.hid hs0
  clear hb0 hbx0 htl hrt hkl hU hl hC hF hfr hne hlen hN hs0 hR
  go_enter Tryd.func68, Tryd.ntmps68
  go_wp2_with (first
    | (go_at_call 71; refine hA.mono ?_; clear hA; rintro e w2 ⟨A2, c2, rfl, hc2, hC2, hb2, hat2⟩; have hbx2 := (hb2.block w.heap.size (by omega)).trans HBX0.out; have HBX2 := Lib.hid hbx2; have HB2 := Lib.hid (HB0.out.trans (hb2.mono (by omega))); have HC2 := Lib.hid hC2; clear hbx2 hb2 hC2)
    | (go_at_call 73; refine (order_calls U R A2 c2 w2 HC2.out hc2 HD.out HRT.out HKL.out (by omega)).mono ?_; rintro e w3 ⟨hb3, vo, rfl, hR3⟩; obtain ⟨A3, c3, rfl⟩ := Kd.R_slice hR3; have hbx3 := (hb3.block _ (blk_lt HBX2.out)).trans HBX2.out; have b0 := blk_cell hbx3 0; have f0 := blk_frozen hbx3 0; have HBX3 := Lib.hid hbx3; have HB3 := Lib.hid hb3; have HR3 := Lib.hid hR3; clear hbx3 hb3 hR3))
  have hb4 := blk_set HBX3.out 0 (.slice A3 (expo U (R : Nat)).length c3)
  have q0 := (blk_cell hb4 0).trans rfl
  have hsz2 := HB2.out.size
  have hl2 := blk_lt HBX2.out
  refine bodyPost_ret (v := .agg #[.slice A3 (expo U (R : Nat)).length c3]) (by simp [results, Tryd.f68, go_sem, q0]) rfl ⟨(HB2.out.trans (HB3.out.mono hsz2)).setCell (p := ⟨w.heap.size, 0, none⟩) (Nat.le_refl _) _, _, rfl, ?_⟩
  exact Kd.R_lower (Kd.R_mono (Kd.R_far (p := ⟨w.heap.size, 0, none⟩) (Kd.R_bound HR3.out) (fun q hq => by show q ≠ w.heap.size; have := hq.2.1; omega) _) (fun _ _ => trivial)) hsz2
end Go.Proofs.YtopbjginpmdebaaDoor.K
-- the reference's Canon, in the form that the printed texts call it
namespace Go.Proofs.YtopbjginpmdebaaDoor.K
open Go.RowKit Go.Maps Go.Proofs.YtopbjginpmdebaaDoorW.PrintWords Go.Proofs.YtopbjginpmdebaaDoorW.PrintLast Go.Proofs.YtopbjginpmdebaaDoorW.PrintMore
set_option linter.unusedVariables false
set_option linter.unusedSimpArgs false
theorem gr_frm {nodes : List Nd} (h : grB nodes = true) : ∀ n ∈ nodes, Frm n := by
  intro n hn
  obtain ⟨i, hi, rfl⟩ := mem_nth hn
  rcases gr_nd h hi with h1 | h1
  · exact .inl ⟨(lf_iff.1 h1).1, (lf_iff.1 h1).2.1⟩
  · have := (br_iff.1 h1).1
    exact .inr ⟨this.1, this.2.2.1, fun e => by rw [e] at this; simp at this⟩
def exactpplref19_Canon.f (l : List S60) : Option (List S60) := if grB l = true then (if ndOk l = true then some (cn l) else none) else none
theorem exactpplref19_Canon.calls (A : Option Addr) (c : Nat) (l : List S60) (r : List S60) (w : World) (hr : Kd.C k60 w A l.length l) (hc : l.length ≤ c) (h : exactpplref19_Canon.f l = some r) :
    Calls Tryd.prog 68 #[.slice A l.length c] w fun e w' => ∃ v0_ : Value, e = .returned (.agg #[v0_]) ∧ Kd.V k60 60 w' w.heap.size (fun k_ => (w.heap.size ≤ k_)) v0_ r ∧ Below w.heap.size w w' := by
  unfold exactpplref19_Canon.f at h
  by_cases hg : grB l = true
  · rw [if_pos hg] at h
    by_cases hk : ndOk l = true
    · rw [if_pos hk] at h
      obtain rfl := Option.some.inj h
      exact (canon_calls l A c w hr hc (gr_fit hg) (gr_frm hg) (gr_ne hg) (fun x hx => (ndOk_I hk x hx).2.2) (ndOk_room hk)).mono fun e w' ⟨hb, vo, he, hR⟩ => ⟨vo, he, V_of_R hR, hb⟩
    · rw [if_neg hk] at h; cases h
  · rw [if_neg hg] at h; cases h
end Go.Proofs.YtopbjginpmdebaaDoor.K
-- exactpplref19.Join
namespace Go.Proofs.YtopbjginpmdebaaDoor.K
open Go.RowKit Go.Maps Go.Proofs.YtopbjginpmdebaaDoorW.PrintWords Go.Proofs.YtopbjginpmdebaaDoorW.PrintLast Go.Proofs.YtopbjginpmdebaaDoorW.PrintMore
set_option linter.unusedVariables false
set_option linter.unusedSimpArgs false
/-- one diagram more in a table, its root noted -/
def impK (s : List Nd × List Int) (d : S31) : List Nd × List Int := ((imp s.1 [] d.f0).1, s.2 ++ [lk (imp s.1 [] d.f0).2 ((d.f0.length - 1 : Nat) : Int)])
def impKs (ds : List S31) : List Nd × List Int := ds.foldl impK ([], [])
theorem impKs_snoc (ds : List S31) (d : S31) : impKs (ds ++ [d]) = impK (impKs ds) d := by simp [impKs]
def sumL (ds : List S31) : Nat := (ds.map fun d => d.f0.length).sum
theorem sumL_snoc (ds : List S31) (d : S31) : sumL (ds ++ [d]) = sumL ds + d.f0.length := by simp [sumL]
theorem sumL_take_le (ds : List S31) (k : Nat) : sumL (ds.take k) ≤ sumL ds := by
  have : sumL ds = sumL (ds.take k) + sumL (ds.drop k) := by
    conv => lhs; rw [← List.take_append_drop k ds]
    unfold sumL
    rw [List.map_append, List.sum_append]
  omega
theorem impK_tbl {s : List Nd × List Int} (hs : Tbl s.1 s.2) {d : S31} (hf : Fit d.f0) (hne : d.f0 ≠ []) :
    Tbl (impK s d).1 (impK s d).2 ∧ s.1 <+: (impK s d).1 ∧ (impK s d).1.length ≤ s.1.length + d.f0.length := by
  have h := imp_tbl hf (u := s.1) ⟨hs.down, hs.nodup, by simp⟩ d.f0.length (Nat.le_refl _)
  rw [List.take_length] at h
  have hp := List.length_pos_iff.2 hne
  refine ⟨⟨h.1.down, h.1.nodup, fun a ha => ?_⟩, h.2.2, h.2.1⟩
  rcases List.mem_append.1 ha with ha | ha
  · have := hs.at_lt a ha
    have := h.2.2.length_le
    exact ⟨by omega, by show a < ((imp s.1 [] d.f0).1.length : Int); omega⟩
  · rw [List.mem_singleton.1 ha]
    exact h.1.at_lt _ (lk_mem (by omega) (by rw [imp_len]; simp; omega))
theorem impKs_tbl {ds : List S31} (hd : ∀ d ∈ ds, Fit d.f0 ∧ d.f0 ≠ []) : ∀ k, k ≤ ds.length → Tbl (impKs (ds.take k)).1 (impKs (ds.take k)).2 ∧ (impKs (ds.take k)).1.length ≤ sumL (ds.take k) ∧ (impKs (ds.take k)).2.length = k := by
  intro k
  induction k with
  | zero => intro _; simp only [List.take_zero, impKs, List.foldl_nil]; exact ⟨tbl_nil, by simp, rfl⟩
  | succ k ih =>
    intro hk
    obtain ⟨h1, h2, h3⟩ := ih (by omega)
    have hm := hd ds[k] (List.getElem_mem _)
    rw [List.take_succ_eq_append_getElem (by omega), impKs_snoc, sumL_snoc]
    have h4 := impK_tbl h1 hm.1 hm.2
    exact ⟨h4.1, by have := h4.2.2; omega, by simp [impK, h3]⟩
theorem impKs_kids {m : Nat} {ds : List S31} (hd : ∀ d ∈ ds, ∀ x ∈ d.f0, x.f2.length ≤ m) : ∀ k, k ≤ ds.length → ∀ x ∈ (impKs (ds.take k)).1, x.f2.length ≤ m := by
  intro k
  induction k with
  | zero => intro _; simp [impKs]
  | succ k ih =>
    intro hk
    rw [List.take_succ_eq_append_getElem (by omega), impKs_snoc]
    exact imp_kids _ _ _ (ih (by omega)) (hd _ (List.getElem_mem _))
/-- the joined table and its root -/
def jnT (site : Int) (ds : List S31) : List Nd × Int := placeB (impKs ds).1 site (impKs ds).2
/-- between two rounds of Join: the result's cell at block c0, the node at block β -/
structure JnSt (c0 β : Nat) (w W : World) (site : Int) (s : List Nd × List Int) (v vk : Value) : Prop where
  below : Below w.heap.size w W
  row : k60.R 60 W w.heap.size (fun j => j ≠ c0 ∧ j ≠ β ∧ some j ≠ vk.ownBlock) v s.1
  res : W.heap[c0]? = some (.cells #[.slice none 0 0] 31 (0, 0))
  box : W.heap[β]? = some (.cells #[.int .i64 site, .int .i64 0, vk] 60 (0, 0))
  kids : (Kd.int .i64).R 3 W (β + 1) (fun k => β < k) vk s.2
/-- a diagram more is in the table -/
theorem JnSt.app {c0 β : Nat} {w W W2 : World} {site : Int} {s : List Nd × List Int} {v vk v2 : Value} {d : List Nd} {ok : Nat → Prop} (h : JnSt c0 β w W site s v vk) (hc : w.heap.size ≤ c0) (hcβ : c0 < β)
    (a : AppSt W W2 w.heap.size (fun j => j ≠ c0 ∧ j ≠ β ∧ some j ≠ vk.ownBlock) v s.1 d d.length v2) : JnSt c0 β w W2 site ((imp s.1 [] d).1, s.2) v2 vk := by
  have hr := a.row
  rw [List.take_length] at hr
  have hg := a.grown
  have hv : ∀ k, v.ownBlock = some k → w.heap.size ≤ k := Kd.R_base h.row
  refine ⟨h.below.trans ⟨hg.os, hg.tape, hg.output, hg.size, fun j hj => hg.block j (Nat.lt_of_lt_of_le hj h.below.size) (fun e => by have := hv j e.symm; omega)⟩, Kd.R_mono hr (fun j hj => hj.1), ?_, ?_, ?_⟩
  · exact (hg.block _ (blk_lt h.res) (fun e => (h.row.1 _ e.symm).1 rfl)).trans h.res
  · exact (hg.block _ (blk_lt h.box) (fun e => (h.row.1 _ e.symm).2.1 rfl)).trans h.box
  · exact ints_move h.kids (fun q hq => hg.block q (Kd.R_lt h.kids q hq) (fun e => (h.row.1 q e.symm).2.2 hq.symm))
/-- its root is noted -/
theorem JnSt.kid {c0 β : Nat} {w W W5 : World} {site z : Int} {s : List Nd × List Int} {v vk v5 : Value} (h : JnSt c0 β w W site s v vk) (hc : w.heap.size ≤ c0) (hcβ : c0 < β)
    (hR : (Kd.int .i64).R 3 W5 (β + 1) (fun k => β < k) v5 (s.2 ++ [z])) (hg : W.grownBy W5 vk.ownBlock) (hat : v5.ownBlock = vk.ownBlock ∨ ∃ c, v5.ownBlock = some c ∧ W.heap.size ≤ c) :
    JnSt c0 β w (W5.setCell ⟨β, 2, none⟩ v5) site (s.1, s.2 ++ [z]) v v5 := by
  have hkβ : ∀ q, vk.ownBlock = some q → β < q := h.kids.1
  have hbx5 : W5.heap[β]? = some (.cells #[.int .i64 site, .int .i64 0, vk] 60 (0, 0)) := (hg.block β (blk_lt h.box) (fun e => by have := hkβ β e.symm; omega)).trans h.box
  have hrow5 : k60.R 60 W5 w.heap.size (fun j => j ≠ c0 ∧ j ≠ β ∧ some j ≠ v5.ownBlock) v s.1 := by
    refine Kd.R_mono (Kd.R_grown (Kd.R_bound h.row) hg (fun j hj => hj.1.2.2)) (fun j hj => ⟨hj.1.1, hj.1.2.1, fun e => ?_⟩)
    rcases hat with h1 | ⟨c, h1, h2⟩
    · exact hj.1.2.2 (e.trans h1)
    · rw [h1] at e; injection e with e; have := hj.2.2.1; omega
  refine ⟨?_, Kd.R_far (p := ⟨β, 2, none⟩) hrow5 (fun j hj => hj.2.1) _, ?_, blk_set hbx5 2 v5, Kd.R_far (p := ⟨β, 2, none⟩) hR (fun k hk => by show k ≠ β; omega) _⟩
  · exact (h.below.trans ⟨hg.os, hg.tape, hg.output, hg.size, fun j hj => hg.block j (Nat.lt_of_lt_of_le hj h.below.size) (fun e => by have := hkβ j e.symm; omega)⟩).setCell (p := ⟨β, 2, none⟩) (by show w.heap.size ≤ β; omega) _
  · exact (Below.heap_setCell W5 ⟨β, 2, none⟩ v5 c0 (by show c0 ≠ β; omega)).trans ((hg.block c0 (blk_lt h.res) (fun e => by have := hkβ c0 e.symm; omega)).trans h.res)
theorem plR_B {u : List Nd} {site : Int} {ks : List Int} (h : site ≠ -1) : plR u ⟨site, 0, ks⟩ = placeB u site ks := by
  unfold plR placeB
  by_cases hs : sameK ks = true
  · rw [if_pos ⟨h, hs⟩, if_pos hs]
  · rw [if_neg (fun e => hs e.2), if_neg hs]
theorem w64_id' {x : Int} (h : -9223372036854775808 ≤ x) (h2 : x ≤ 9223372036854775807) : wrap64 x = x := by unfold wrap64; omega
set_option maxHeartbeats 32000000 in
set_option maxRecDepth 100000 in
theorem join_calls (site : Int) (ds : List S31) (A : Option Addr) (c : Nat) (w : World) (hC : Kd.C k31 w A ds.length ds) (hc : ds.length ≤ c) (hne : ds ≠ []) (hs : 0 ≤ site) (hg : ∀ d ∈ ds, grB d.f0 = true) (hlen : ds.length ≤ 1000000) (hsum : (sumL ds + 2) * 40 ≤ 140737488355328) :
    Calls Tryd.prog 53 #[.int .i64 site, .slice A ds.length c] w (DPost w (expo (jnT site ds).1 (jnT site ds).2)) := by
  have hpos := List.length_pos_iff.2 hne
  have h0 : JnSt w.heap.size (w.heap.size + 1) w ((w.alloc (.cells #[.slice none 0 0] 31)).alloc (.cells #[.int .i64 site, .int .i64 0, .slice none 0 0] 60)) site ([], []) (.slice none 0 0) (.slice none 0 0) := by
    have e1 : (w.alloc (.cells #[.slice none 0 0] 31)).heap.size = w.heap.size + 1 := by simp
    refine ⟨((Below.refl _ w).alloc (Nat.le_refl _) _).alloc (by rw [e1]; omega) _, Kd.R_nil _ _ _ _ _, (Below.heap_alloc _ _ _ (by rw [e1]; omega)).trans (heap_alloc_new w _), ?_, Kd.R_nil _ _ _ _ _⟩
    have := heap_alloc_new (w.alloc (.cells #[.slice none 0 0] 31)) (.cells #[.int .i64 site, .int .i64 0, .slice none 0 0] 60)
    rwa [e1] at this
  have H0 := Lib.hid h0
  have HC := Lib.hid hC
  have HG := Lib.hid hg
  have HSUM := Lib.hid hsum
  obtain ⟨N, hN⟩ : ∃ N, N = ds.length := ⟨_, rfl⟩
  have HN := Lib.hid hN
  rw [← hN] at hpos hlen hc ⊢
  clear hC hg hsum hN h0 hne
  go_enter Tryd.func53, Tryd.ntmps53
  go_wp2
  go_loopw [5, 7] (fun v i W => ∃ (k : Nat) (vv vk : Value), vv = v ∧ i = .int .i64 k ∧ k ≤ N ∧ JnSt w.heap.size (w.heap.size + 1) w W site (impKs (ds.take k)) vv vk) (fun _ i _ => N - (intOf i).toNat)
  case atStart => exact ⟨0, _, _, rfl, rfl, Nat.zero_le _, by simpa [impKs] using H0.out⟩
  case round =>
    obtain ⟨k, vv, vk, rfl, rfl, hk, hst⟩ := hrel
    obtain ⟨s, hse⟩ : ∃ s, s = impKs (ds.take k) := ⟨_, rfl⟩
    rw [← hse] at hst
    obtain ⟨hT, hTl, hTn⟩ := impKs_tbl (ds := ds) (fun d hd => ⟨gr_fit (HG.out d hd), gr_ne (HG.out d hd)⟩) k (by have := HN.out; omega)
    have hTk := impKs_kids (m := 16) (ds := ds) (fun d hd => gr_kids (HG.out d hd)) k (by have := HN.out; omega)
    rw [← hse] at hT hTl hTn hTk
    have hsl := sumL_take_le ds k
    obtain ⟨Av, cv, rfl⟩ := Kd.R_slice hst.row
    obtain ⟨Ak, ck, rfl⟩ := Kd.R_slice hst.kids
    have HST := Lib.hid hst
    have HSE := Lib.hid hse
    have HT := Lib.hid hT
    have HTL := Lib.hid hTl
    have HTN := Lib.hid hTn
    have HTK := Lib.hid hTk
    have HSL := Lib.hid hsl
    have hβ := blk_lt hst.box
    clear hst hse hT hTl hTn hTk hsl
    by_cases hlt : k < N
    · have hkd : k < ds.length := by have := HN.out; omega
      obtain ⟨ad, A0, c0, rfl, d0, l0, g0⟩ := at_T31 HC.out (k : Int) (by omega) (by omega)
      rw [Int.toNat_natCast] at d0
      have hrd : rd_T31 ds (k : Int) = ds[k] := by unfold rd_T31; rw [Int.toNat_natCast, List.getD_eq_getElem?_getD, List.getElem?_eq_getElem hkd]; rfl
      rw [hrd] at d0 l0 g0
      obtain ⟨d, hd⟩ : ∃ d, d = ds[k] := ⟨_, rfl⟩
      have hdm : d ∈ ds := by rw [hd]; exact List.getElem_mem hkd
      rw [← hd] at d0 l0 g0
      replace d0 := pw_cell_below HST.out.below d0
      have hgd := HG.out d hdm
      have hdl : d.f0.length ≤ sumL ds := by
        have : ds.take (k + 1) = ds.take k ++ [d] := by rw [List.take_succ_eq_append_getElem hkd, ← hd]
        have h1 := sumL_take_le ds (k + 1)
        rw [this, sumL_snoc] at h1
        omega
      have hsuml : sumL (ds.take k) + d.f0.length ≤ sumL ds := by
        have : ds.take (k + 1) = ds.take k ++ [d] := by rw [List.take_succ_eq_append_getElem hkd, ← hd]
        have h1 := sumL_take_le ds (k + 1)
        rwa [this, sumL_snoc] at h1
      have hkb : k < 4000000000000 := by omega
      have hki : (k : Int) < (N : Int) := by omega
      have hwB := HST.out.below.size
      have hvB : ∀ q, (Value.slice Av s.1.length cv).ownBlock = some q → w.heap.size ≤ q := Kd.R_base HST.out.row
      have hA := (append_calls w.heap.size (fun j => j ≠ w.heap.size ∧ j ≠ w.heap.size + 1 ∧ some j ≠ (Value.slice Ak s.2.length ck).ownBlock) s.1 d.f0 Av A0 cv c0 wr hwB HST.out.row (fun W hW => Kd.C_below g0 (HST.out.below.trans ⟨hW.os, hW.tape, hW.output, hW.size, fun j hj => hW.block j (Nat.lt_of_lt_of_le hj hwB) (fun e => by have := hvB j e.symm; omega)⟩)) l0 (gr_fit hgd) (gr_frm hgd) ⟨HT.out.down, HT.out.nodup, by simp⟩ (fun x hx => Nat.le_trans (gr_kids hgd x hx) (by decide)) (fun x hx => Nat.le_trans (HTK.out x hx) (by decide)) (by have := HTL.out; have := HSL.out; have := HSUM.out; omega) (fun j hj => ⟨by omega, by omega, fun e => by have := Kd.R_lt HST.out.kids j e.symm; omega⟩)).mono (R' := fun e w2 => ∃ v', e = .returned (.tuple #[v', .slice (some ⟨wr.heap.size, 0, none⟩) d.f0.length d.f0.length]) ∧ JnSt w.heap.size (w.heap.size + 1) w w2 site ((imp s.1 [] d.f0).1, s.2) v' (.slice Ak s.2.length ck) ∧ w2.cell? ⟨wr.heap.size, d.f0.length - 1, none⟩ = some (.int .i64 (lk (imp s.1 [] d.f0).2 ((d.f0.length - 1 : Nat) : Int)))) (by
        rintro e w2 ⟨v', rfl, h1⟩
        refine ⟨v', rfl, HST.out.app (ok := fun _ => True) (Nat.le_refl _) (by omega) h1, ?_⟩
        have h2 := h1.arr
        rw [List.take_length] at h2
        have hp := gr_pos hgd
        have hl := imp_len d.f0 s.1 []
        have h3 := (h2.at (d.f0.length - 1) (by rw [padd_len (by rw [hl]; simp)]; omega)).1
        rw [padd_get (by rw [hl]; simp; omega)] at h3
        rw [h3]; unfold lk; rw [Int.toNat_natCast])
      obtain ⟨z, hz⟩ : ∃ z, z = lk (imp s.1 [] d.f0).2 ((d.f0.length - 1 : Nat) : Int) := ⟨_, rfl⟩
      obtain ⟨U, hU⟩ : ∃ U, U = (imp s.1 [] d.f0).1 := ⟨_, rfl⟩
      rw [← hz, ← hU] at hA
      have HZ := Lib.hid hz
      have HU := Lib.hid hU
      have HD := Lib.hid hd
      have hp := gr_pos hgd
      obtain ⟨D, hD⟩ : ∃ D, D = d.f0.length := ⟨_, rfl⟩
      rw [← hD] at hA d0 l0 hdl hsuml hp
      obtain ⟨E, rfl⟩ : ∃ E, D = E + 1 := ⟨D - 1, by omega⟩
      rw [Nat.add_sub_cancel] at hA
      have hDb : E < 4000000000000 := by have := HSUM.out; omega
      have hE1 : (E : Int) < (E : Int) + 1 := by omega
      have e3 : IntKind.i64.wrap (E : Int) = (E : Int) := (i64_w _).trans (w64_id' (by omega) (by omega))
      clear hz hU hd hrd g0 hD hgd hdm hvB
      go_wp2_with (go_at_call 71; refine hA.mono ?_; clear hA; rintro e w2 ⟨v2, rfl, hst2, p0⟩; obtain ⟨A2, c2, rfl⟩ := Kd.R_slice hst2.row; have q0 := ((blk_cell hst2.box 2).trans rfl : w2.cell? ⟨w.heap.size + 1, 2, none⟩ = some (.slice Ak s.2.length ck)); have fq0 := blk_frozen hst2.box 2; have hm2 := blk_lt hst2.box; have HST2 := Lib.hid hst2; clear hst2)
      have HR2 := Lib.hid HST2.out.kids
      have hkl : s.2.length ≤ 1000000 := by have := HTN.out; omega
      go_region_law (((refine Kd.R_append_step (Kd.int .i64) (w0 := w2) (W := w2.drew) (w.heap.size + 1 + 1) (by rfl) (.tmp 29) (.tmp 36) 22 3 (.int .i64 0) 8 rfl Tryd.underlying22 info3 rfl (by decide) (by decide) (.slice Ak s.2.length ck) s.2 z [.int .i64 z] (fun k => w.heap.size + 1 < k) (fun _ => False) (by rfl) (by rfl) rfl (fun _ h => h.elim) (fun k hk => Nat.lt_of_lt_of_le hm2 hk) HR2.out (Below.refl _ _).drew hm2 (by omega) ?_; intro v5 w5 hR5 hB5 hg5 hat5; obtain ⟨A5, c5, rfl⟩ := Kd.R_slice hR5; have hbx5 := (hB5.block (w.heap.size + 1) (Nat.lt_succ_self _)).trans HST2.out.box; have q1 := blk_cell hbx5 2; have q2 := blk_frozen hbx5 2)))
      all_goals
        have hk5 := HST2.out.kid (Nat.le_refl _) (by omega) hR5 ⟨hg5.os, hg5.tape, hg5.output, hg5.size, hg5.block⟩ hat5
        rw [List.length_append, List.length_singleton] at hk5 hR5
        have HK5 := Lib.hid hk5
        clear hR5 hB5 hg5 hat5 hbx5 hk5
        go_wp2
        go_roundw
        case rel =>
          refine ⟨k + 1, _, .slice A5 (s.2.length + 1) c5, rfl, by go_num, hlt, ?_⟩
          have e2 : impKs (ds.take (k + 1)) = (U, s.2 ++ [z]) := by
            rw [List.take_succ_eq_append_getElem hkd, impKs_snoc, ← HSE.out, ← HD.out]
            unfold impK
            rw [HU.out, HZ.out]
          rw [e2]
          exact HK5.out
        case measure => simp [intOf]; omega
    · have hke : k = N := by omega
      have htk : ds.take k = ds := List.take_of_length_le (by have := HN.out; omega)
      have hse := HSE.out
      rw [htk] at hse
      have hrn : s.2 ≠ [] := by intro e; have := HTN.out; rw [e] at this; simp at this; omega
      have hpl := plR_B (u := s.1) (site := site) (ks := s.2) (by omega)
      have hjt : jnT site ds = placeB s.1 site s.2 := by unfold jnT; rw [← hse]
      have hlt2 := placeB_lt (u := s.1) (s := site) HT.out.at_lt hrn
      have hdn := placeB_down (u := s.1) (s := site) HT.out.down HT.out.at_lt
      have hpk : ∀ x ∈ (placeB s.1 site s.2).1, x.f2.length ≤ 1073741824 := by
        unfold placeB
        split
        · exact fun x hx => Nat.le_trans (HTK.out x hx) (by decide)
        · exact place0_kids (fun x hx => Nat.le_trans (HTK.out x hx) (by decide)) (by have := HTN.out; show s.2.length ≤ _; omega)
      have hpn := placeB_len s.1 site s.2
      have hsb : s.1.length ≤ sumL ds := Nat.le_trans HTL.out HSL.out
      have hA := (place_calls w.heap.size (fun j => j ≠ w.heap.size ∧ j ≠ w.heap.size + 1) (fun j => w.heap.size + 1 < j ∧ some j = (Value.slice Ak s.2.length ck).ownBlock) s.1 ⟨site, 0, s.2⟩ Av Ak cv ck wr HST.out.below.size (Kd.R_mono HST.out.row (fun j hj => ⟨hj.1, hj.2.1⟩)) (Kd.R_lower (Kd.R_mono (Kd.R_tight rfl HST.out.kids) (fun q hq => ⟨HST.out.kids.1 q hq.symm, hq⟩)) (by omega)) (fun j hj => ⟨⟨by omega, by omega⟩, fun e => (HST.out.row.1 j e.symm).2.2 hj.2⟩) (fun _ => hrn) (by have := HTN.out; show s.2.length ≤ _; omega) (by have := HSUM.out; omega) (fun x hx => Nat.le_trans (HTK.out x hx) (by decide)) (fun j hj => ⟨by omega, by omega⟩)).mono (R' := fun e w2 => ∃ A' c', e = .returned (.tuple #[.slice A' (placeB s.1 site s.2).1.length c', .int .i64 (placeB s.1 site s.2).2]) ∧ (placeB s.1 site s.2).1.length ≤ c' ∧ k60.C w2 A' (placeB s.1 site s.2).1.length (placeB s.1 site s.2).1 ∧ Below w.heap.size w w2 ∧ w2.heap[w.heap.size]? = some (.cells #[.slice none 0 0] 31 (0, 0))) (by
        rintro e w2 ⟨v', rfl, h1, h2, _⟩
        rw [hpl] at h1 ⊢
        obtain ⟨A', c', rfl, h3, h4⟩ := Kd.R_reads h1
        have hvB : ∀ q, (Value.slice Av s.1.length cv).ownBlock = some q → w.heap.size ≤ q := Kd.R_base HST.out.row
        refine ⟨A', c', rfl, h3, h4, HST.out.below.trans ⟨h2.os, h2.tape, h2.output, h2.size, fun j hj => h2.block j (Nat.lt_of_lt_of_le hj HST.out.below.size) (fun e => by have := hvB j e.symm; omega)⟩, ?_⟩
        exact (h2.block _ (blk_lt HST.out.res) (fun e => (HST.out.row.1 _ e.symm).1 rfl)).trans HST.out.res)
      dsimp only at hA
      obtain ⟨U, hU⟩ : ∃ U, U = (placeB s.1 site s.2).1 := ⟨_, rfl⟩
      obtain ⟨R, hR⟩ : ∃ R : Nat, (placeB s.1 site s.2).2 = (R : Int) := ⟨(placeB s.1 site s.2).2.toNat, by omega⟩
      rw [hR] at hA hlt2
      rw [← hU] at hA hlt2 hdn hpk hpn
      have hjt1 : (jnT site ds).1 = U := by rw [hjt, hU]
      have hjt2 : (jnT site ds).2 = (R : Int) := by rw [hjt, hR]
      have HJ1 := Lib.hid hjt1
      have HJ2 := Lib.hid hjt2
      clear hjt1 hjt2
      have b0 : wr.cell? ⟨w.heap.size + 1, 0, none⟩ = some (.int .i64 site) := (blk_cell HST.out.box 0).trans rfl
      have b1 : wr.cell? ⟨w.heap.size + 1, 1, none⟩ = some (.int .i64 0) := (blk_cell HST.out.box 1).trans rfl
      have b2 : wr.cell? ⟨w.heap.size + 1, 2, none⟩ = some (.slice Ak s.2.length ck) := (blk_cell HST.out.box 2).trans rfl
      have HDN := Lib.hid hdn
      have HPK := Lib.hid hpk
      have HLT := Lib.hid hlt2
      have HPN := Lib.hid hpn
      have HSB := Lib.hid hsb
      clear hdn hpk hlt2 hpn hsb hpl hjt hse htk hrn hU hR
      go_wp2_with (first
        | (go_at_call 72; refine hA.mono ?_; clear hA; rintro e w2 ⟨A2, c2, rfl, hc2, hC2, hb2, hr2⟩; have HC2 := Lib.hid hC2; have HB2 := Lib.hid hb2; have HRS := Lib.hid hr2; clear hC2 hb2 hr2)
        | (go_at_call 73; refine (order_calls U R A2 c2 w2 HC2.out hc2 HDN.out (by have := HLT.out; omega) HPK.out (by have := HPN.out; have := HSB.out; have := HSUM.out; omega)).mono ?_; rintro e w3 ⟨hb3, vo, rfl, hR3⟩; obtain ⟨A3, c3, rfl⟩ := Kd.R_slice hR3; have hbx3 := (hb3.block _ (blk_lt HRS.out)).trans HRS.out; have b0 := blk_cell hbx3 0; have f0 := blk_frozen hbx3 0; have HBX3 := Lib.hid hbx3; have HB3 := Lib.hid hb3; have HR3 := Lib.hid hR3; clear hbx3 hb3 hR3))
      have hb4 := blk_set HBX3.out 0 (.slice A3 (expo U (R : Nat)).length c3)
      have q0 := (blk_cell hb4 0).trans rfl
      have hsz2 := HB2.out.size
      have hl2 := blk_lt HRS.out
      refine bodyPost_ret (v := .agg #[.slice A3 (expo U (R : Nat)).length c3]) (by simp [results, Tryd.f53, go_sem, q0]) rfl ⟨(HB2.out.trans (HB3.out.mono hsz2)).setCell (p := ⟨w.heap.size, 0, none⟩) (Nat.le_refl _) _, _, rfl, ?_⟩
      rw [HJ1.out, HJ2.out]
      exact Kd.R_lower (Kd.R_mono (Kd.R_far (p := ⟨w.heap.size, 0, none⟩) (Kd.R_bound HR3.out) (fun q hq => by show q ≠ w.heap.size; have := hq.2.1; omega) _) (fun _ _ => trivial)) hsz2
end Go.Proofs.YtopbjginpmdebaaDoor.K
-- tables of several diagrams: what Join and Branch make is canonical
namespace Go.Proofs.YtopbjginpmdebaaDoor.K
open Go.RowKit Go.Maps Go.Proofs.YtopbjginpmdebaaDoorW.PrintWords Go.Proofs.YtopbjginpmdebaaDoorW.PrintLast Go.Proofs.YtopbjginpmdebaaDoorW.PrintMore
set_option linter.unusedVariables false
set_option linter.unusedSimpArgs false
/-- what holds of all branches' sites -/
def AllF (Q : Int → Prop) (u : List Nd) : Prop := ∀ n ∈ u, 0 ≤ n.f0 → Q n.f0
theorem place0_all {Q : Int → Prop} {u : List Nd} {n : Nd} (h : AllF Q u) (hn : 0 ≤ n.f0 → Q n.f0) : AllF Q (place0 u n).1 := by
  unfold place0
  split
  · exact h
  · intro m hm
    rcases List.mem_append.1 hm with h1 | h1
    · exact h m h1
    · rw [List.mem_singleton.1 h1]; exact hn
theorem placeB_all {Q : Int → Prop} {u : List Nd} {s : Int} {ks : List Int} (h : AllF Q u) (hn : Q s) : AllF Q (placeB u s ks).1 := by
  unfold placeB
  split
  · exact h
  · exact place0_all h (fun _ => hn)
theorem imp_all {Q : Int → Prop} : ∀ (l u : List Nd) (at_ : List Int), AllF Q u → AllF Q l → AllF Q (imp u at_ l).1
  | [], u, at_, h, _ => h
  | n :: l, u, at_, h, hl => by
    simp only [imp]
    refine imp_all l _ _ ?_ (fun m hm => hl m (List.mem_cons_of_mem _ hm))
    unfold place1
    split
    · exact place0_all h (fun h0 => by simp only at h0; omega)
    · rename_i h0
      exact placeB_all h (hl n List.mem_cons_self (by omega))
theorem expo_all {Q : Int → Prop} {u : List Nd} (hu : Down u) {r : Nat} (hr : r < u.length) (h : AllF Q u) : AllF Q (expo u (r : Nat)) := by
  obtain ⟨g, hP, _, _⟩ := expo_pl hu hr
  intro n hn
  obtain ⟨a, ha, rfl⟩ := mem_nth hn
  obtain ⟨i, hi⟩ := hP.all a ha
  obtain ⟨i0, _, i2, _, i4, _⟩ := hP.node i _ hi
  simp only at i4
  rw [i4]
  exact h (nth u i) (nth_mem i0 i2)
/-- a branch more -/
theorem Tb.branch {sh : Int → Nat} {u : List Nd} (h : Tb sh u) {s : Int} {ks : List Int} (hs : 0 ≤ s ∧ s < 64) (hne : ks ≠ []) (hl : ks.length = sh s) (hl2 : ks.length ≤ 16) (hk : ∀ k ∈ ks, 0 ≤ k ∧ k < (u.length : Int)) (ho : ∀ k ∈ ks, (nth u k).f0 < 0 ∨ s < (nth u k).f0) :
    Tb sh (placeB u s ks).1 := by
  have hr := h.red.placeB hs.1 hk hne
  by_cases hq : sameK ks = true
  · have e : placeB u s ks = (u, ks.headD 0) := by unfold placeB; rw [if_pos hq]
    rw [e]; exact h
  · have e : placeB u s ks = K.place0 u ⟨s, 0, ks⟩ := by unfold placeB; rw [if_neg hq]
    rw [e] at hr ⊢
    exact h.place0 hk hr ho (.inr ⟨hs.1, hs.2, hl, hl2⟩)
/-- the node that stands for a branch is a leaf or no higher -/
theorem placeB_top {u : List Nd} {s : Int} {ks : List Int} (hne : ks ≠ []) (ho : ∀ k ∈ ks, (nth u k).f0 < 0 ∨ s < (nth u k).f0) : (nth (placeB u s ks).1 (placeB u s ks).2).f0 < 0 ∨ s ≤ (nth (placeB u s ks).1 (placeB u s ks).2).f0 := by
  by_cases hq : sameK ks = true
  · have e : placeB u s ks = (u, ks.headD 0) := by unfold placeB; rw [if_pos hq]
    rw [e]
    rcases ho _ (sameK_mem hne) with h | h
    · exact .inl h
    · exact .inr (by show s ≤ (nth u (ks.headD 0)).f0; omega)
  · have e : placeB u s ks = K.place0 u ⟨s, 0, ks⟩ := by unfold placeB; rw [if_neg hq]
    rw [e, place0_nth]
    exact .inr (Int.le_refl _)
/-- diagrams of one shape in one table; their roots are leaves or higher than s -/
theorem impKs_tb {sh : Int → Nat} {s : Int} {ds : List S31} (hd : ∀ d ∈ ds, GrS sh d.f0 ∧ d.f0 ≠ [] ∧ AllF (fun x => s < x) d.f0) : ∀ k, k ≤ ds.length → Tb sh (impKs (ds.take k)).1 ∧ (∀ a ∈ (impKs (ds.take k)).2, (0 ≤ a ∧ a < ((impKs (ds.take k)).1.length : Int)) ∧ ((nth (impKs (ds.take k)).1 a).f0 < 0 ∨ s < (nth (impKs (ds.take k)).1 a).f0)) := by
  intro k
  induction k with
  | zero => intro _; simp only [List.take_zero, impKs, List.foldl_nil]; exact ⟨tb_nil sh, by simp⟩
  | succ k ih =>
    intro hk
    obtain ⟨h1, h2⟩ := ih (by omega)
    obtain ⟨g1, g2, g3⟩ := hd ds[k] (List.getElem_mem _)
    rw [List.take_succ_eq_append_getElem (by omega), impKs_snoc]
    generalize impKs (ds.take k) = S at h1 h2 ⊢
    generalize ds[k] = d at g1 g2 g3
    have hp := List.length_pos_iff.2 g2
    have hi := imp_tb h1 g1 d.f0.length (Nat.le_refl _)
    have hb := imp_tbl g1.fit h1.tbl d.f0.length (Nat.le_refl _)
    rw [List.take_length] at hi hb
    refine ⟨hi.1, fun a ha => ?_⟩
    rcases List.mem_append.1 ha with ha | ha
    · obtain ⟨h3, h4⟩ := h2 a ha
      have := hb.2.2.length_le
      refine ⟨⟨h3.1, by show a < ((imp S.1 [] d.f0).1.length : Int); omega⟩, ?_⟩
      show (nth (imp S.1 [] d.f0).1 a).f0 < 0 ∨ s < (nth (imp S.1 [] d.f0).1 a).f0
      rw [nth_prefix hb.2.2 h3.1 h3.2]
      exact h4
    · rw [List.mem_singleton.1 ha]
      refine ⟨hb.1.at_lt _ (lk_mem (by omega) (by rw [imp_len]; simp; omega)), ?_⟩
      rcases hi.2 (d.f0.length - 1) (by omega) with h5 | h5
      · exact .inl h5
      · have hm : nth d.f0 ((d.f0.length - 1 : Nat) : Int) ∈ d.f0 := by rw [nth_lt (by omega)]; exact List.getElem_mem _
        have := g3 _ hm h5.1
        exact .inr (by show s < (nth (imp S.1 [] d.f0).1 _).f0; omega)
theorem impKs_all {Q : Int → Prop} {ds : List S31} (hd : ∀ d ∈ ds, AllF Q d.f0) : ∀ k, k ≤ ds.length → AllF Q (impKs (ds.take k)).1 := by
  intro k
  induction k with
  | zero => intro _; simp [impKs, AllF]
  | succ k ih =>
    intro hk
    rw [List.take_succ_eq_append_getElem (by omega), impKs_snoc]
    exact imp_all _ _ _ (ih (by omega)) (hd _ (List.getElem_mem _))
/-- what Join makes -/
def jn (s : Int) (ds : List S31) : List Nd := expo (jnT s ds).1 (jnT s ds).2
theorem jn_tb {sh : Int → Nat} {s : Int} {ds : List S31} (hd : ∀ d ∈ ds, GrS sh d.f0 ∧ d.f0 ≠ [] ∧ AllF (fun x => s < x) d.f0) (hs : 0 ≤ s ∧ s < 64) (hne : ds ≠ []) (hl : ds.length = sh s) (hl2 : ds.length ≤ 16) :
    Tb sh (jnT s ds).1 ∧ (0 ≤ (jnT s ds).2 ∧ (jnT s ds).2 < ((jnT s ds).1.length : Int)) ∧ (jnT s ds).1.length ≤ sumL ds + 1 := by
  have h := impKs_tb hd ds.length (Nat.le_refl _)
  have hb := impKs_tbl (ds := ds) (fun d hd' => ⟨(hd d hd').1.fit, (hd d hd').2.1⟩) ds.length (Nat.le_refl _)
  rw [List.take_length] at h hb
  have hrn : (impKs ds).2 ≠ [] := by intro e; have := hb.2.2; rw [e] at this; simp at this; exact hne (List.length_eq_zero_iff.1 this.symm)
  unfold jnT
  refine ⟨h.1.branch hs hrn (by rw [hb.2.2]; exact hl) (by rw [hb.2.2]; exact hl2) (fun k hk => (h.2 k hk).1) (fun k hk => (h.2 k hk).2), placeB_lt (fun k hk => (h.2 k hk).1) hrn, ?_⟩
  have := placeB_len (impKs ds).1 s (impKs ds).2
  have := hb.2.1
  omega
theorem jn_ok {sh : Int → Nat} {s : Int} {ds : List S31} (hd : ∀ d ∈ ds, GrS sh d.f0 ∧ d.f0 ≠ [] ∧ AllF (fun x => s < x) d.f0) (hs : 0 ≤ s ∧ s < 64) (hne : ds ≠ []) (hl : ds.length = sh s) (hl2 : ds.length ≤ 16) :
    GrS sh (jn s ds) ∧ grB (jn s ds) = true ∧ Can (jn s ds) ∧ (jn s ds).length ≤ sumL ds + 1 := by
  obtain ⟨h1, h2, h3⟩ := jn_tb hd hs hne hl hl2
  obtain ⟨r, hr⟩ : ∃ r : Nat, (jnT s ds).2 = (r : Int) := ⟨(jnT s ds).2.toNat, by omega⟩
  unfold jn
  rw [hr] at h2 ⊢
  have hr' : r < (jnT s ds).1.length := by omega
  have hc := h1.can hr'
  exact ⟨(h1.expo hr').grs, hc.1, hc.2, Nat.le_trans (expo_len h1.red.down hr') h3⟩
theorem jn_all {Q : Int → Prop} {s : Int} {ds : List S31} (hd : ∀ d ∈ ds, AllF Q d.f0) (hq : Q s) (hdn : Down (jnT s ds).1) (hr : 0 ≤ (jnT s ds).2 ∧ (jnT s ds).2 < ((jnT s ds).1.length : Int)) : AllF Q (jn s ds) := by
  have h := impKs_all hd ds.length (Nat.le_refl _)
  rw [List.take_length] at h
  obtain ⟨r, hr2⟩ : ∃ r : Nat, (jnT s ds).2 = (r : Int) := ⟨(jnT s ds).2.toNat, by omega⟩
  unfold jn
  rw [hr2] at hr ⊢
  exact expo_all hdn (by omega) (placeB_all h hq)
/-- the reference's Join, in the form that the printed texts call it -/
def exactpplref19_Join.f (s : Int) (ds : List S31) : Option (List S60) := if 0 ≤ s ∧ ds ≠ [] ∧ ds.length ≤ 1000000 ∧ (sumL ds + 2) * 40 ≤ 140737488355328 then (if (ds.all fun d => grB d.f0) = true then some (jn s ds) else none) else none
theorem exactpplref19_Join.calls (s : Int) (A : Option Addr) (c : Nat) (ds : List S31) (r : List S60) (w : World) (hr : Kd.C k31 w A ds.length ds) (hc : ds.length ≤ c) (h : exactpplref19_Join.f s ds = some r) :
    Calls Tryd.prog 53 #[.int .i64 s, .slice A ds.length c] w fun e w' => ∃ v0_ : Value, e = .returned (.agg #[v0_]) ∧ Kd.V k60 60 w' w.heap.size (fun k_ => (w.heap.size ≤ k_)) v0_ r ∧ Below w.heap.size w w' := by
  unfold exactpplref19_Join.f at h
  by_cases h1 : 0 ≤ s ∧ ds ≠ [] ∧ ds.length ≤ 1000000 ∧ (sumL ds + 2) * 40 ≤ 140737488355328
  · rw [if_pos h1] at h
    by_cases h2 : (ds.all fun d => grB d.f0) = true
    · rw [if_pos h2] at h
      obtain rfl := Option.some.inj h
      exact (join_calls s ds A c w hr hc h1.2.1 h1.1 (fun d hd => List.all_eq_true.1 h2 d hd) h1.2.2.1 h1.2.2.2).mono fun e w' ⟨hb, vo, he, hR⟩ => ⟨vo, he, V_of_R hR, hb⟩
    · rw [if_neg h2] at h; cases h
  · rw [if_neg h1] at h; cases h
end Go.Proofs.YtopbjginpmdebaaDoor.K
namespace Go.Proofs.YtopbjginpmdebaaDoor.K
open Go.RowKit Go.Proofs.YtopbjginpmdebaaDoorW.PrintWords Go.Proofs.YtopbjginpmdebaaDoorW.PrintLast Go.Proofs.YtopbjginpmdebaaDoorW.PrintMore
attribute [local go_sem] max2_int min2_int max_two min_two max_three min_three max_four min_four   -- for this text's walks alone
set_option linter.unusedVariables false
set_option linter.unusedSimpArgs false

/-! ### exactpplmake_Src_Diagram: function 22 -/
mutual
def exactpplmake_Src_Diagram.j0 : Nat → Int → Int → Bool → List Int → Int → Int → Option ((List (S60)) × Int × Int)
 | 0, _, _, _, _, _, _ => none
 | k + 1, x1, x2, x16, x1000, x1001, x1002 => if x16 = true then ((exactpplmake_Src_Range.f x1000 x1001 x1002 (-2) 3).bind fun bt339 => ((exactpplref19_Const.f bt339.1).bind fun t342 => (some (t342, bt339.2.1, bt339.2.2)))) else ((exactpplmake_Src_N.f x1000 x1001 x1002 4).bind fun bt345 => (if bt345.1 = 0 then ((exactpplmake_Src_Diagram.f k x1000 bt345.2.1 bt345.2.2 (wrap64 (x1 + 1)) x2).bind fun bt348 => (some (bt348.1, bt348.2.1, bt348.2.2))) else (exactpplmake_Src_Diagram.l0 k x1 x2 ([] : List (S31)) 0 x1000 bt345.2.1 bt345.2.2)))
def exactpplmake_Src_Diagram.l0 : Nat → Int → Int → List (S31) → Int → List Int → Int → Int → Option ((List (S60)) × Int × Int)
 | 0, _, _, _, _, _, _, _ => none
 | k + 1, x1, x2, x7, x8, x1000, x1001, x1002 => (exactpplmake_Width.f x1).bind fun t353 => (if x8 < t353 then ((exactpplmake_Src_Diagram.f k x1000 x1001 x1002 (wrap64 (x1 + 1)) x2).bind fun bt354 => (if x7.length < 5864062014805 then (exactpplmake_Src_Diagram.l0 k x1 x2 (x7 ++ [(⟨bt354.1⟩ : S31)]) (wrap64 (x8 + 1)) x1000 bt354.2.1 bt354.2.2) else (none))) else ((exactpplref19_Join.f x1 x7).bind fun t362 => (some (t362, x1001, x1002))))
def exactpplmake_Src_Diagram.f : Nat → List Int → Int → Int → Int → Int → Option ((List (S60)) × Int × Int)
 | 0, _, _, _, _, _ => none
 | k + 1, s0_0, s0_1, s0_2, a1, a2 => if a1 > a2 then (exactpplmake_Src_Diagram.j0 k a1 a2 true s0_0 s0_1 s0_2) else ((exactpplmake_Src_N.f s0_0 s0_1 s0_2 5).bind fun bt336 => (exactpplmake_Src_Diagram.j0 k a1 a2 (bt336.1 == 0) s0_0 bt336.2.1 bt336.2.2))
end
theorem exactpplmake_Src_Diagram.mono_l : ∀ k, (∀ y0 y1 y2 y3 y4, LeO (exactpplmake_Src_Diagram.f k y0 y1 y2 y3 y4) (exactpplmake_Src_Diagram.f (k + 1) y0 y1 y2 y3 y4)) ∧ (∀ y0 y1 y2 y3 y4 y5, LeO (exactpplmake_Src_Diagram.j0 k y0 y1 y2 y3 y4 y5) (exactpplmake_Src_Diagram.j0 (k + 1) y0 y1 y2 y3 y4 y5)) ∧ (∀ y0 y1 y2 y3 y4 y5 y6, LeO (exactpplmake_Src_Diagram.l0 k y0 y1 y2 y3 y4 y5 y6) (exactpplmake_Src_Diagram.l0 (k + 1) y0 y1 y2 y3 y4 y5 y6))
 | 0 => ⟨fun _ _ _ _ _ r h => by simp [exactpplmake_Src_Diagram.f] at h, fun _ _ _ _ _ _ r h => by simp [exactpplmake_Src_Diagram.j0] at h, fun _ _ _ _ _ _ _ r h => by simp [exactpplmake_Src_Diagram.l0] at h⟩
 | k + 1 => by
  obtain ⟨ih0, ih1, ih2⟩ := exactpplmake_Src_Diagram.mono_l k
  refine ⟨?_, ?_, ?_⟩
  ·intro y0 y1 y2 y3 y4
   unfold exactpplmake_Src_Diagram.f
   repeat' first
   | (with_reducible exact ih0 _ _ _ _ _)
   | (with_reducible exact ih1 _ _ _ _ _ _)
   | (with_reducible exact ih2 _ _ _ _ _ _ _)
   | (with_reducible exact LeO.refl _)
   | (with_reducible exact LeO.none _)
   | (with_reducible refine LeO.ite ?_ ?_)
   | (with_reducible refine LeO.bind ?_ (fun _ => ?_))
   | exact ih0 _ _ _ _ _
   | exact ih1 _ _ _ _ _ _
   | exact ih2 _ _ _ _ _ _ _
   | exact LeO.none _
   | refine LeO.ite ?_ ?_
   | refine LeO.bind ?_ (fun _ => ?_)
  ·intro y0 y1 y2 y3 y4 y5
   unfold exactpplmake_Src_Diagram.j0
   repeat' first
   | (with_reducible exact ih0 _ _ _ _ _)
   | (with_reducible exact ih1 _ _ _ _ _ _)
   | (with_reducible exact ih2 _ _ _ _ _ _ _)
   | (with_reducible exact LeO.refl _)
   | (with_reducible exact LeO.none _)
   | (with_reducible refine LeO.ite ?_ ?_)
   | (with_reducible refine LeO.bind ?_ (fun _ => ?_))
   | exact ih0 _ _ _ _ _
   | exact ih1 _ _ _ _ _ _
   | exact ih2 _ _ _ _ _ _ _
   | exact LeO.none _
   | refine LeO.ite ?_ ?_
   | refine LeO.bind ?_ (fun _ => ?_)
  ·intro y0 y1 y2 y3 y4 y5 y6
   unfold exactpplmake_Src_Diagram.l0
   repeat' first
   | (with_reducible exact ih0 _ _ _ _ _)
   | (with_reducible exact ih1 _ _ _ _ _ _)
   | (with_reducible exact ih2 _ _ _ _ _ _ _)
   | (with_reducible exact LeO.refl _)
   | (with_reducible exact LeO.none _)
   | (with_reducible refine LeO.ite ?_ ?_)
   | (with_reducible refine LeO.bind ?_ (fun _ => ?_))
   | exact ih0 _ _ _ _ _
   | exact ih1 _ _ _ _ _ _
   | exact ih2 _ _ _ _ _ _ _
   | exact LeO.none _
   | refine LeO.ite ?_ ?_
   | refine LeO.bind ?_ (fun _ => ?_)
theorem exactpplmake_Src_Diagram.mono : ∀ a0 a1 a2 a3 a4 k, LeO (exactpplmake_Src_Diagram.f k a0 a1 a2 a3 a4) (exactpplmake_Src_Diagram.f (k + 1) a0 a1 a2 a3 a4) := by
 intro a0 a1 a2 a3 a4 k
 obtain ⟨ih0, ih1, ih2⟩ := exactpplmake_Src_Diagram.mono_l k
 exact ih0 a0 a1 a2 a3 a4
set_option maxHeartbeats 8000000 in
set_option maxRecDepth 100000 in
theorem exactpplmake_Src_Diagram.calls (k : Nat) : ∀ (g : Nat) (s0_0 : List Int) (s0_1 : Int) (s0_2 : Int) (a1 : Int) (a2 : Int) (r1 : List (S60)) (r2 : Int) (r3 : Int) (w0 w : World) (hI : IsS58 w0 w g s0_0 s0_1 s0_2) (hB : Below w0.heap.size w0 w) (h : exactpplmake_Src_Diagram.f k s0_0 s0_1 s0_2 a1 a2 = some (r1, r2, r3)),
  Calls Tryd.prog 22 #[.pointer (some ⟨g, 0, none⟩), .int .i64 a1, .int .i64 a2] w fun e w' => ∃ v0_ : Value, e = .returned (.agg #[v0_]) ∧ Kd.V k60 60 w' w.heap.size (fun k_ => (w.heap.size ≤ k_)) v0_ r1 ∧ IsS58 w0 w' g s0_0 r2 r3 ∧ Below w0.heap.size w0 w' ∧ KeepBut w w' g none := by
 induction k using Nat.strongRecOn with
 | _ k ih =>
 intro g s0_0 s0_1 s0_2 a1 a2 r1 r2 r3 w0 w hI hB h
 cases k with
 | zero => exact absurd h (by simp [exactpplmake_Src_Diagram.f])
 | succ k =>
 simp only [exactpplmake_Src_Diagram.f] at h
 have hu31 := Tryd.underlying31
 have HI0 := Aside0.mk hI
 have HK := Aside0.mk (KeepBut.refl w g none)
 have HL := Aside0.mk hB.size
 clear hI
 have HW0 := Aside0.mk hB.size
 have HB := Aside0.mk hB
 clear hB
 have H : (if a1 > a2 then (exactpplmake_Src_Diagram.j0 k a1 a2 true s0_0 s0_1 s0_2) else ((exactpplmake_Src_N.f s0_0 s0_1 s0_2 5).bind fun bt336 => (exactpplmake_Src_Diagram.j0 k a1 a2 (bt336.1 == 0) s0_0 bt336.2.1 bt336.2.2))) = some (r1, r2, r3) := h
 clear h
 have HC4 := Aside0.mk H
 clear H
 go_enter Tryd.func22, Tryd.ntmps22
 go_upto_region 1 with (first | ((with_reducible refine gate_dst (N := 6) rfl ?_); refine box_event ?hg (N := 6) ?hd (cs := #[.slice none 0 0]) (t := 31) ?hr ?_; (case hd => rfl); (case hg => rfl); (case hr => first | (go_simp; done) | (go_simp; rfl)); intro gb335 hg w5 hbox hb; have BK335 := Aside0.mk (hbox); have GW335 := Aside0.mk ((by rw [hg]; exact (keep_size (w := w) (g := g) (row := none) (by repeat (first | (with_reducible first | exact HK.out | apply KeepBut.set_ | apply keep_drewN | apply keep_drew | apply keep_alloc) | exact HK.out))) : w.heap.size ≤ gb335)); have GE335 := Aside0.mk ((Nat.le_trans HW0.out (by rw [hg]; exact (keep_size (w := w) (g := g) (row := none) (by repeat (first | (with_reducible first | exact HK.out | apply KeepBut.set_ | apply keep_drewN | apply keep_drew | apply keep_alloc) | exact HK.out))) : w.heap.size ≤ gb335) : w0.heap.size ≤ gb335)); have NB0_335 := Aside0.mk ((by rw [hg]; exact Nat.ne_of_lt (IsS58.lt (show IsS58 w0 _ g s0_0 s0_1 s0_2 from si_)) : g ≠ gb335)); have NB335_0 := Aside0.mk ((by rw [hg]; exact Nat.ne_of_gt (IsS58.lt (show IsS58 w0 _ g s0_0 s0_1 s0_2 from si_)) : gb335 ≠ g)); replace HI0 := Aside0.mk (IsS58.below si_ hb); replace HK := Aside0.mk (KeepBut.trans (by repeat (first | (with_reducible first | exact HK.out | apply KeepBut.set_ | apply keep_drewN | apply keep_drew | apply keep_alloc) | exact HK.out)) (KeepBut.of_below hb g none) (.inl rfl)); replace HB := Aside0.mk (below_step bl_ hb); clear hb hbox hg))
 (try simp only [Act.put, List.setIfInBounds_toArray, List.set_cons_zero, List.set_cons_succ])
 go_cut [16] (fun v16 wc => ∃ (kq : Nat) (x16_3 : Bool) (x1001_3 : Int) (x1002_3 : Int), v16 = .bool x16_3 ∧ Aside0 (exactpplmake_Src_Diagram.j0 kq a1 a2 x16_3 s0_0 x1001_3 x1002_3 = some (r1, r2, r3)) ∧ Aside0 (kq ≤ k) ∧ Aside0 (wc.heap[gb335]? = some (.cells #[(.slice none 0 0)] 31 (0, 0))) ∧ Aside0 (IsS58 w0 wc g s0_0 x1001_3 x1002_3) ∧ Aside0 (KeepBut w wc g none) ∧ Aside0 (Below w0.heap.size w0 wc))
 case first =>
  have H := HC4.out
  clear HC4
  by_cases c6 : a1 > a2
  ·rw [if_pos c6] at H
   have c6b0 : decide (a2 < a1) = true := decide_eq_true c6
   clear c6
   (first | rw [c6b0] | (simp only [i64_w, i32_w]; rw [c6b0]) | skip)
   have H' := Aside0.mk H
   clear H
   go_wp2
   go_meet
   case rel => exact ⟨_, (true), (s0_1), (s0_2), rs_, H', ⟨by first | omega | exact Nat.le_refl _⟩, ⟨bk_⟩, ⟨si_⟩, ⟨by repeat (first | (with_reducible first | exact HK.out | apply KeepBut.set_ | apply keep_drewN | apply keep_drew | apply keep_alloc | refine keep_far ?_ GW335.out _) | exact HK.out)⟩, ⟨bl_⟩⟩
  ·rw [if_neg c6] at H
   have c6b0 : decide (a2 < a1) = false := decide_eq_false c6
   clear c6
   (first | rw [c6b0] | (simp only [i64_w, i32_w]; rw [c6b0]) | skip)
   replace H := Option.bind_eq_some_iff.mp H
   obtain ⟨⟨t336, t337, t338⟩, A70, H⟩ := H
   replace H : (exactpplmake_Src_Diagram.j0 k a1 a2 (t336 == 0) s0_0 t337 t338) = some (r1, r2, r3) := H
   have A7 := Aside0.mk A70
   clear A70
   have H' := Aside0.mk H
   clear H
   go_wp2_with (first | (go_at_call 23; (with_reducible refine (exactpplmake_Src_N.calls g s0_0 s0_1 s0_2 5 t336 t337 t338 w0 _ ?side1 ?side2 A7.out).mono ?_); (case side1 => repeat (first | (with_reducible first | exact HI0.out | apply IsS58.alloc | apply IsS58.drewN | apply IsS58.drew | apply IsS58.set_1 | apply IsS58.set_2 | refine IsS58.far ?_ NB0_335.out _) | exact HI0.out)); (case side2 => repeat (first | (with_reducible first | exact HB.out | apply below_alloc | apply pw_below_drewN | apply below_drew1 | refine below_set ?_ (IsS58.ge HI0.out) | refine below_set ?_ GE335.out) | exact HB.out)); rintro e w8 ⟨rfl, hi, hb, hk⟩; replace BK335 := Aside0.mk (KeepBut.blk hk (g' := gb335) (o := .cells #[.slice none 0 0] 31 (0, 0)) bk_ NB335_0.out (by simp)); replace HK := Aside0.mk (KeepBut.trans (by repeat (first | (with_reducible first | exact HK.out | apply KeepBut.set_ | apply keep_drewN | apply keep_drew | apply keep_alloc | refine keep_far ?_ GW335.out _) | exact HK.out)) hk (.inl rfl)); replace HB := Aside0.mk (hb); replace HI0 := Aside0.mk (hi); (try clear hb); (try clear hb2); (try clear hk); (try clear hi)))
   go_meet
   case rel => exact ⟨_, ((t336 == 0)), (t337), (t338), rs_, H', ⟨by first | omega | exact Nat.le_refl _⟩, ⟨bk_⟩, ⟨si_⟩, ⟨by repeat (first | (with_reducible first | exact HK.out | apply KeepBut.set_ | apply keep_drewN | apply keep_drew | apply keep_alloc | refine keep_far ?_ GW335.out _) | exact HK.out)⟩, ⟨bl_⟩⟩
 case rest =>
  clear HC4
  try clear c2
  try clear p2
  try clear c6
  try clear c6b0
  obtain ⟨kq, x16_3, x1001_3, x1002_3, rfl, HA, HJ3, BK335, HI0, HK, HB⟩ := hcut
  cases kq with
  | zero => exact absurd HA.out (by simp [exactpplmake_Src_Diagram.j0])
  | succ kj3 =>
   have H := HA.out
   clear HA
   simp only [exactpplmake_Src_Diagram.j0] at H
   by_cases c9 : x16_3 = true
   ·subst c9
    have H1 : ((exactpplmake_Src_Range.f s0_0 x1001_3 x1002_3 (-2) 3).bind fun bt339 => ((exactpplref19_Const.f bt339.1).bind fun t342 => (some (t342, bt339.2.1, bt339.2.2)))) = some (r1, r2, r3) := by rw [if_pos rfl] at H; exact H
    clear H
    have H := H1
    clear H1
    replace H := Option.bind_eq_some_iff.mp H
    obtain ⟨⟨t339, t340, t341⟩, A100, H⟩ := H
    replace H : ((exactpplref19_Const.f t339).bind fun t342 => (some (t342, t340, t341))) = some (r1, r2, r3) := H
    have A10 := Aside0.mk A100
    clear A100
    replace H := Option.bind_eq_some_iff.mp H
    obtain ⟨t342, A110, H⟩ := H
    replace H : (some (t342, t340, t341)) = some (r1, r2, r3) := H
    have A11 := Aside0.mk A110
    clear A110
    simp only [Option.some.injEq, Prod.mk.injEq] at H
    obtain ⟨rfl, rfl, rfl⟩ := H
    go_wp2_with (first | ((with_reducible refine gate_callee (f := 25) rfl ?_); refine goesL_ (some 18) rfl rfl Tryd.func25 (by kernel_rfl) rfl #[.pointer (some ⟨g, 0, none⟩), .int .i64 (-2), .int .i64 3] rfl (by (try simp only [List.map_toArray, List.map_cons, List.map_nil]); first | done | rfl | (simp only [List.length_drop, List.length_take]; rfl)) ?_; (with_reducible refine (exactpplmake_Src_Range.calls g s0_0 x1001_3 x1002_3 (-2) 3 t339 t340 t341 w0 _ ?side1 ?side2 A10.out).mono ?_); (case side1 => repeat (first | (with_reducible first | exact HI0.out | apply IsS58.alloc | apply IsS58.drewN | apply IsS58.drew | apply IsS58.set_1 | apply IsS58.set_2 | refine IsS58.far ?_ NB0_335.out _) | exact HI0.out)); (case side2 => repeat (first | (with_reducible first | exact HB.out | apply below_alloc | apply pw_below_drewN | apply below_drew1 | refine below_set ?_ (IsS58.ge HI0.out) | refine below_set ?_ GE335.out) | exact HB.out)); rintro e w12 ⟨rfl, hi, hb, hk⟩; refine ⟨_, rfl, ?_⟩; replace BK335 := Aside0.mk (KeepBut.blk hk (g' := gb335) (o := .cells #[.slice none 0 0] 31 (0, 0)) bk_ NB335_0.out (by simp)); replace HK := Aside0.mk (KeepBut.trans (by repeat (first | (with_reducible first | exact HK.out | apply KeepBut.set_ | apply keep_drewN | apply keep_drew | apply keep_alloc | refine keep_far ?_ GW335.out _) | exact HK.out)) hk (.inl rfl)); replace HB := Aside0.mk (hb); replace HI0 := Aside0.mk (hi); (try clear hb); (try clear hb2); (try clear hk); (try clear hi)) | ((with_reducible refine gate_callee (f := 33) rfl ?_); refine goesL_ (some 19) rfl rfl Tryd.func33 (by kernel_rfl) rfl #[.int .i64 t339] rfl (by (try simp only [List.map_toArray, List.map_cons, List.map_nil]); first | done | rfl | (simp only [List.length_drop, List.length_take]; rfl)) ?_; (with_reducible refine (exactpplref19_Const.calls t339 t342 _ A11.out).mono ?_); rintro e w13 ⟨v343, rfl, ho0, hb⟩; refine ⟨_, rfl, ?_⟩; have HO344 := Aside0.mk (Kd.N_lower (Kd.N_mono (ok' := fun k_ => (w.heap.size ≤ k_) ∧ k_ ≠ gb335 ∧ k_ ≠ g) (Kd.S_N (Kd.S_bound ho0)) (fun k_ hk_ => ⟨(Nat.le_trans (keep_size (w := w) (g := g) (row := none) (by repeat (first | (with_reducible first | exact HK.out | apply KeepBut.set_ | apply keep_drewN | apply keep_drew | apply keep_alloc | refine keep_far ?_ GW335.out _) | exact HK.out))) hk_.2.1), (Kd.freshB (g := gb335) (o := .cells #[.slice none 0 0] 31 (0, 0)) bk_ k_ hk_.2.1), (IsS58.fresh si_ k_ hk_.2.1)⟩)) (keep_size (w := w) (g := g) (row := none) (by repeat (first | (with_reducible first | exact HK.out | apply KeepBut.set_ | apply keep_drewN | apply keep_drew | apply keep_alloc | refine keep_far ?_ GW335.out _) | exact HK.out)))); replace BK335 := Aside0.mk (blk_below (g := gb335) (o := .cells #[.slice none 0 0] 31 (0, 0)) bk_ hb); replace HI0 := Aside0.mk (IsS58.below si_ hb); replace HK := Aside0.mk (KeepBut.trans (by repeat (first | (with_reducible first | exact HK.out | apply KeepBut.set_ | apply keep_drewN | apply keep_drew | apply keep_alloc | refine keep_far ?_ GW335.out _) | exact HK.out)) (KeepBut.of_below hb g none) (.inl rfl)); replace HB := Aside0.mk (below_step bl_ hb); (try clear hb); (try clear hb2); (try clear hk); (try clear hi); (try clear ho0); obtain ⟨Ao14, co14, eo14⟩ := Kd.N_slice HO344.out; subst eo14; have hnb15 := NB335_0.out; have hnc15 := NB0_335.out; obtain ⟨hcz16_0, hfz16_0⟩ := cf1_ BK335.out))
    refine bodyPost_ret (results_cell_row rfl _ _ gb335 31 #[.slice Ao14 t342.length co14] (0, 0) _ rfl (by (with_reducible repeat (first | refine blk_drewN ?_ _ | refine blk_drew ?_ | refine blk_alloc ?_ _)); refine blk_put (cs := #[.slice none 0 0]) ?_ 0 _ rfl; (with_reducible repeat (first | refine blk_drewN ?_ _ | refine blk_drew ?_ | refine blk_alloc ?_ _)); exact BK335.out) Tryd.underlying31 rfl (by kernel_rfl)) rfl ?_
    exact ⟨_, re_, Kd.N_V (by (with_reducible repeat (first | apply Kd.N_alloc | apply Kd.N_drewN | apply Kd.N_drew)); exact Kd.N_mono (Kd.N_far (p := ⟨gb335, 0, none⟩) (Kd.N_mono HO344.out (fun k_ hk => (⟨hk, by first | exact hk.2.1 | exact hk.1 | exact hk.2 | exact hk.1.1 | exact hk.1.2⟩ : _ ∧ k_ ≠ gb335))) (fun _ hk => hk.2) (.slice Ao14 t342.length co14)) (fun _ hk => hk.1.1)), si_, bl_, by repeat (first | (with_reducible first | exact HK.out | apply KeepBut.set_ | apply keep_drewN | apply keep_drew | apply keep_alloc | refine keep_far ?_ GW335.out _) | exact HK.out)⟩
   ·replace c9 := Bool.eq_false_iff.mpr c9
    subst c9
    have H1 : ((exactpplmake_Src_N.f s0_0 x1001_3 x1002_3 4).bind fun bt345 => (if bt345.1 = 0 then ((exactpplmake_Src_Diagram.f kj3 s0_0 bt345.2.1 bt345.2.2 (wrap64 (a1 + 1)) a2).bind fun bt348 => (some (bt348.1, bt348.2.1, bt348.2.2))) else (exactpplmake_Src_Diagram.l0 kj3 a1 a2 ([] : List (S31)) 0 s0_0 bt345.2.1 bt345.2.2))) = some (r1, r2, r3) := by rw [if_neg (show ¬ (false = true) by decide)] at H; exact H
    clear H
    have H := H1
    clear H1
    replace H := Option.bind_eq_some_iff.mp H
    obtain ⟨⟨t345, t346, t347⟩, A170, H⟩ := H
    replace H : (if t345 = 0 then ((exactpplmake_Src_Diagram.f kj3 s0_0 t346 t347 (wrap64 (a1 + 1)) a2).bind fun bt348 => (some (bt348.1, bt348.2.1, bt348.2.2))) else (exactpplmake_Src_Diagram.l0 kj3 a1 a2 ([] : List (S31)) 0 s0_0 t346 t347)) = some (r1, r2, r3) := H
    have A17 := Aside0.mk A170
    clear A170
    by_cases c18 : t345 = 0
    ·rw [if_pos c18] at H
     have c18b0 : (t345 == 0) = true := beq_iff_eq.mpr c18
     have c18b1 : (t345 != 0) = false := bne_eq_false_iff_eq.mpr c18
     clear c18
     replace H := Option.bind_eq_some_iff.mp H
     obtain ⟨⟨t348, t351, t352⟩, A190, H⟩ := H
     replace H : (some (t348, t351, t352)) = some (r1, r2, r3) := H
     have A19 := Aside0.mk A190
     clear A190
     simp only [Option.some.injEq, Prod.mk.injEq] at H
     obtain ⟨rfl, rfl, rfl⟩ := H
     go_wp2_with (first | ((with_reducible refine gate_callee (f := 23) rfl ?_); refine goesL_ (some 21) rfl rfl Tryd.func23 (by kernel_rfl) rfl #[.pointer (some ⟨g, 0, none⟩), .int .i64 4] rfl (by (try simp only [List.map_toArray, List.map_cons, List.map_nil]); first | done | rfl | (simp only [List.length_drop, List.length_take]; rfl)) ?_; (with_reducible refine (exactpplmake_Src_N.calls g s0_0 x1001_3 x1002_3 4 t345 t346 t347 w0 _ ?side1 ?side2 A17.out).mono ?_); (case side1 => repeat (first | (with_reducible first | exact HI0.out | apply IsS58.alloc | apply IsS58.drewN | apply IsS58.drew | apply IsS58.set_1 | apply IsS58.set_2 | refine IsS58.far ?_ NB0_335.out _) | exact HI0.out)); (case side2 => repeat (first | (with_reducible first | exact HB.out | apply below_alloc | apply pw_below_drewN | apply below_drew1 | refine below_set ?_ (IsS58.ge HI0.out) | refine below_set ?_ GE335.out) | exact HB.out)); rintro e w20 ⟨rfl, hi, hb, hk⟩; refine ⟨_, rfl, ?_⟩; replace BK335 := Aside0.mk (KeepBut.blk hk (g' := gb335) (o := .cells #[.slice none 0 0] 31 (0, 0)) bk_ NB335_0.out (by simp)); replace HK := Aside0.mk (KeepBut.trans (by repeat (first | (with_reducible first | exact HK.out | apply KeepBut.set_ | apply keep_drewN | apply keep_drew | apply keep_alloc | refine keep_far ?_ GW335.out _) | exact HK.out)) hk (.inl rfl)); replace HB := Aside0.mk (hb); replace HI0 := Aside0.mk (hi); (try clear hb); (try clear hb2); (try clear hk); (try clear hi)) | ((with_reducible refine gate_callee (f := 22) rfl ?_); refine goesL_ (some 27) rfl rfl Tryd.func22 (by kernel_rfl) rfl #[.pointer (some ⟨g, 0, none⟩), .int .i64 (wrap64 (a1 + 1)), .int .i64 a2] rfl (by (try simp only [List.map_toArray, List.map_cons, List.map_nil]); first | done | rfl | (simp only [List.length_drop, List.length_take]; rfl)) ?_; (with_reducible refine (ih kj3 (by have := HJ3.out; omega) g s0_0 t346 t347 (wrap64 (a1 + 1)) a2 t348 t351 t352 w0 _ ?side1 ?side2 A19.out).mono ?_); (case side1 => repeat (first | (with_reducible first | exact HI0.out | apply IsS58.alloc | apply IsS58.drewN | apply IsS58.drew | apply IsS58.set_1 | apply IsS58.set_2 | refine IsS58.far ?_ NB0_335.out _) | exact HI0.out)); (case side2 => repeat (first | (with_reducible first | exact HB.out | apply below_alloc | apply pw_below_drewN | apply below_drew1 | refine below_set ?_ (IsS58.ge HI0.out) | refine below_set ?_ GE335.out) | exact HB.out)); rintro e w21 ⟨v349, rfl, ho0, hi, hb, hk⟩; refine ⟨_, rfl, ?_⟩; have HO350 := Aside0.mk (Kd.V_lower (Kd.V_mono (ok' := fun k_ => (w.heap.size ≤ k_) ∧ k_ ≠ gb335 ∧ k_ ≠ g) ho0 (fun k_ hk_ => ⟨(Nat.le_trans (keep_size (w := w) (g := g) (row := none) (by repeat (first | (with_reducible first | exact HK.out | apply KeepBut.set_ | apply keep_drewN | apply keep_drew | apply keep_alloc | refine keep_far ?_ GW335.out _) | exact HK.out))) hk_), (Kd.freshB (g := gb335) (o := .cells #[.slice none 0 0] 31 (0, 0)) bk_ k_ hk_), (IsS58.fresh si_ k_ hk_)⟩)) (keep_size (w := w) (g := g) (row := none) (by repeat (first | (with_reducible first | exact HK.out | apply KeepBut.set_ | apply keep_drewN | apply keep_drew | apply keep_alloc | refine keep_far ?_ GW335.out _) | exact HK.out)))); replace BK335 := Aside0.mk (KeepBut.blk hk (g' := gb335) (o := .cells #[.slice none 0 0] 31 (0, 0)) bk_ NB335_0.out (by simp)); replace HK := Aside0.mk (KeepBut.trans (by repeat (first | (with_reducible first | exact HK.out | apply KeepBut.set_ | apply keep_drewN | apply keep_drew | apply keep_alloc | refine keep_far ?_ GW335.out _) | exact HK.out)) hk (.inl rfl)); replace HB := Aside0.mk (hb); replace HI0 := Aside0.mk (hi); (try clear hb); (try clear hb2); (try clear hk); (try clear hi); (try clear ho0); obtain ⟨Ao22, co22, eo22⟩ := Kd.V_slice HO350.out; subst eo22; have hnb23 := NB335_0.out; have hnc23 := NB0_335.out; obtain ⟨hcz24_0, hfz24_0⟩ := cf1_ BK335.out))
     refine bodyPost_ret (results_cell_row rfl _ _ gb335 31 #[.slice Ao22 t348.length co22] (0, 0) _ rfl (by (with_reducible repeat (first | refine blk_drewN ?_ _ | refine blk_drew ?_ | refine blk_alloc ?_ _)); refine blk_put (cs := #[.slice none 0 0]) ?_ 0 _ rfl; (with_reducible repeat (first | refine blk_drewN ?_ _ | refine blk_drew ?_ | refine blk_alloc ?_ _)); exact BK335.out) Tryd.underlying31 rfl (by kernel_rfl)) rfl ?_
     exact ⟨_, re_, by (with_reducible repeat (first | apply Kd.V_alloc | apply Kd.V_drewN | apply Kd.V_drew)); exact Kd.V_mono (Kd.V_far (p := ⟨gb335, 0, none⟩) (Kd.V_mono HO350.out (fun k_ hk => (⟨hk, by first | exact hk.2.1 | exact hk.1 | exact hk.2 | exact hk.1.1 | exact hk.1.2⟩ : _ ∧ k_ ≠ gb335))) (fun _ hk => hk.2) (.slice Ao22 t348.length co22)) (fun _ hk => hk.1.1), si_, bl_, by repeat (first | (with_reducible first | exact HK.out | apply KeepBut.set_ | apply keep_drewN | apply keep_drew | apply keep_alloc | refine keep_far ?_ GW335.out _) | exact HK.out)⟩
    ·rw [if_neg c18] at H
     have c18b0 : (t345 == 0) = false := beq_eq_false_iff_ne.mpr c18
     have c18b1 : (t345 != 0) = true := bne_iff_ne.mpr c18
     have H' := Aside0.mk H
     clear H
     go_wp2_with (first | ((with_reducible refine gate_callee (f := 23) rfl ?_); refine goesL_ (some 21) rfl rfl Tryd.func23 (by kernel_rfl) rfl #[.pointer (some ⟨g, 0, none⟩), .int .i64 4] rfl (by (try simp only [List.map_toArray, List.map_cons, List.map_nil]); first | done | rfl | (simp only [List.length_drop, List.length_take]; rfl)) ?_; (with_reducible refine (exactpplmake_Src_N.calls g s0_0 x1001_3 x1002_3 4 t345 t346 t347 w0 _ ?side1 ?side2 A17.out).mono ?_); (case side1 => repeat (first | (with_reducible first | exact HI0.out | apply IsS58.alloc | apply IsS58.drewN | apply IsS58.drew | apply IsS58.set_1 | apply IsS58.set_2 | refine IsS58.far ?_ NB0_335.out _) | exact HI0.out)); (case side2 => repeat (first | (with_reducible first | exact HB.out | apply below_alloc | apply pw_below_drewN | apply below_drew1 | refine below_set ?_ (IsS58.ge HI0.out) | refine below_set ?_ GE335.out) | exact HB.out)); rintro e w25 ⟨rfl, hi, hb, hk⟩; refine ⟨_, rfl, ?_⟩; replace BK335 := Aside0.mk (KeepBut.blk hk (g' := gb335) (o := .cells #[.slice none 0 0] 31 (0, 0)) bk_ NB335_0.out (by simp)); replace HK := Aside0.mk (KeepBut.trans (by repeat (first | (with_reducible first | exact HK.out | apply KeepBut.set_ | apply keep_drewN | apply keep_drew | apply keep_alloc | refine keep_far ?_ GW335.out _) | exact HK.out)) hk (.inl rfl)); replace HB := Aside0.mk (hb); replace HI0 := Aside0.mk (hi); (try clear hb); (try clear hb2); (try clear hk); (try clear hi)))
     go_loopg [7, 8] kj3 (fun kq v7 v8 w' => ∃ (x7_2 : List (S31)) (x8_2 : Int) (x1001_2 : Int) (x1002_2 : Int), v8 = .int .i64 x8_2 ∧ Aside0 (exactpplmake_Src_Diagram.l0 kq a1 a2 x7_2 x8_2 s0_0 x1001_2 x1002_2 = some (r1, r2, r3)) ∧ Aside0 (kq ≤ kj3) ∧ Aside0 (Kd.N k31 31 w' w.heap.size (fun k_ => (w.heap.size ≤ k_) ∧ k_ ≠ gb335 ∧ k_ ≠ g) v7 x7_2) ∧ Aside0 (w'.heap[gb335]? = some (.cells #[(.slice none 0 0)] 31 (0, 0))) ∧ Aside0 (IsS58 w0 w' g s0_0 x1001_2 x1002_2) ∧ Aside0 (KeepBut w w' g none) ∧ Aside0 (Below w0.heap.size w0 w'))
     case atStart => exact ⟨(([] : List (S31))), (0), (t346), (t347), rs_, H', ⟨Nat.le_refl _⟩, ⟨by first | exact Kd.R_nil _ _ _ _ _ | exact Kd.N_nil _ _ _ _ _ | exact Kd.V_nil _ _ _ _ _ | exact Kd.Q_nil _ _ _ _ _ | exact Kd.S_nil _ _ _ _ _⟩, ⟨bk_⟩, ⟨si_⟩, ⟨by repeat (first | (with_reducible first | exact HK.out | apply KeepBut.set_ | apply keep_drewN | apply keep_drew | apply keep_alloc | refine keep_far ?_ GW335.out _) | exact HK.out)⟩, ⟨bl_⟩⟩
     case round =>
      clear H'
      try clear c1
      try clear c2
      try clear p2
      try clear c3
      try clear c6
      try clear c6b0
      try clear p6
      try clear c9
      try clear c15
      try clear c18
      try clear c18b0
      try clear c18b1
      try clear c22
      try clear c23
      try clear c25
      try clear hcz16_0 hfz16_0
      try clear hcz24_0 hfz24_0
      try clear p2
      obtain ⟨x7_2, x8_2, x1001_2, x1002_2, rfl, HA, HK2, HO_7, BK335, HI0, HK, HB⟩ := hrel
      cases gk with
      | zero => exact absurd HA.out (by simp [exactpplmake_Src_Diagram.l0])
      | succ k2 =>
       have H := HA.out
       clear HA
       simp only [exactpplmake_Src_Diagram.l0] at H
       replace H := Option.bind_eq_some_iff.mp H
       obtain ⟨t353, A260, H⟩ := H
       replace H : (if x8_2 < t353 then ((exactpplmake_Src_Diagram.f k2 s0_0 x1001_2 x1002_2 (wrap64 (a1 + 1)) a2).bind fun bt354 => (if x7_2.length < 5864062014805 then (exactpplmake_Src_Diagram.l0 k2 a1 a2 (x7_2 ++ [(⟨bt354.1⟩ : S31)]) (wrap64 (x8_2 + 1)) s0_0 bt354.2.1 bt354.2.2) else (none))) else ((exactpplref19_Join.f a1 x7_2).bind fun t362 => (some (t362, x1001_2, x1002_2)))) = some (r1, r2, r3) := H
       have A26 := Aside0.mk A260
       clear A260
       by_cases c27 : x8_2 < t353
       ·rw [if_pos c27] at H
        have c27b0 : decide (x8_2 < t353) = true := decide_eq_true c27
        clear c27
        replace H := Option.bind_eq_some_iff.mp H
        obtain ⟨⟨t354, t357, t358⟩, A280, H⟩ := H
        replace H : (if x7_2.length < 5864062014805 then (exactpplmake_Src_Diagram.l0 k2 a1 a2 (x7_2 ++ [(⟨t354⟩ : S31)]) (wrap64 (x8_2 + 1)) s0_0 t357 t358) else (none)) = some (r1, r2, r3) := H
        have A28 := Aside0.mk A280
        clear A280
        by_cases c29 : x7_2.length < 5864062014805
        ·rw [if_pos c29] at H
         have LMc29 := Aside0.mk c29
         clear c29
         obtain ⟨y359, hy359⟩ : ∃ y_ : List (S31), y_ = (x7_2 ++ [(⟨t354⟩ : S31)]) := ⟨_, rfl⟩
         replace H : (exactpplmake_Src_Diagram.l0 k2 a1 a2 y359 (wrap64 (x8_2 + 1)) s0_0 t357 t358) = some (r1, r2, r3) := by first | (rw [hy359]; with_reducible exact H) | (have H2_ := (Option.bind_some _ _).symm.trans H; rw [hy359]; with_reducible exact H2_) | (have H2_ := (Option.bind_some _ _).symm.trans H; with_reducible exact H2_) | with_reducible exact H | (rw [hy359]; exact H) | exact H
         have Ny359 := Aside0.mk hy359
         clear hy359
         have H' := Aside0.mk H
         clear H
         go_wp2_with (first | ((with_reducible refine gate_callee (f := 42) rfl ?_); refine goesL_ (some 30) rfl rfl Tryd.func42 (by kernel_rfl) rfl #[.int .i64 a1] rfl (by (try simp only [List.map_toArray, List.map_cons, List.map_nil]); first | done | rfl | (simp only [List.length_drop, List.length_take]; rfl)) ?_; (with_reducible refine (exactpplmake_Width.calls a1 t353 _ A26.out).mono ?_); rintro e w' ⟨rfl, ⟨nd, rfl⟩⟩; refine ⟨_, rfl, ?_⟩) | ((with_reducible refine gate_callee (f := 22) rfl ?_); refine goesL_ (some 39) rfl rfl Tryd.func22 (by kernel_rfl) rfl #[.pointer (some ⟨g, 0, none⟩), .int .i64 (wrap64 (a1 + 1)), .int .i64 a2] rfl (by (try simp only [List.map_toArray, List.map_cons, List.map_nil]); first | done | rfl | (simp only [List.length_drop, List.length_take]; rfl)) ?_; (with_reducible refine (ih k2 (by have := HJ3.out; have := HK2.out; omega) g s0_0 x1001_2 x1002_2 (wrap64 (a1 + 1)) a2 t354 t357 t358 w0 _ ?side1 ?side2 A28.out).mono ?_); (case side1 => repeat (first | (with_reducible first | exact HI0.out | apply IsS58.alloc | apply IsS58.drewN | apply IsS58.drew | apply IsS58.set_1 | apply IsS58.set_2 | refine IsS58.far ?_ NB0_335.out _) | exact HI0.out)); (case side2 => repeat (first | (with_reducible first | exact HB.out | apply below_alloc | apply pw_below_drewN | apply below_drew1 | refine below_set ?_ (IsS58.ge HI0.out) | refine below_set ?_ GE335.out) | exact HB.out)); rintro e w30 ⟨v355, rfl, ho0, hi, hb, hk⟩; refine ⟨_, rfl, ?_⟩; have HO356 := Aside0.mk (Kd.V_lower (Kd.V_mono (ok' := fun k_ => (w.heap.size ≤ k_) ∧ some k_ ≠ (u7 : Value).ownBlock ∧ k_ ≠ gb335 ∧ k_ ≠ g) ho0 (fun k_ hk_ => ⟨(Nat.le_trans (keep_size (w := w) (g := g) (row := none) (by repeat (first | (with_reducible first | exact HK.out | apply KeepBut.set_ | apply keep_drewN | apply keep_drew | apply keep_alloc | refine keep_far ?_ GW335.out _) | exact HK.out))) hk_), (Kd.fresh' (Kd.N_lt (pN_ HO_7.out)) k_ hk_), (Kd.freshB (g := gb335) (o := .cells #[.slice none 0 0] 31 (0, 0)) bk_ k_ hk_), (IsS58.fresh si_ k_ hk_)⟩)) (keep_size (w := w) (g := g) (row := none) (by repeat (first | (with_reducible first | exact HK.out | apply KeepBut.set_ | apply keep_drewN | apply keep_drew | apply keep_alloc | refine keep_far ?_ GW335.out _) | exact HK.out)))); replace HO_7 := Aside0.mk (Kd.N_mono (Kd.N_keep (Kd.N_mono (ok := fun k_ => (((w.heap.size ≤ k_)) ∧ (k_ ≠ gb335 ∧ k_ ≠ g))) (pN_ HO_7.out) (fun k_ hk_ => (⟨hk_, hk_.2.2⟩ : _ ∧ k_ ≠ g))) hk (fun _ h => h.2)) (fun _ h => h.1)); replace BK335 := Aside0.mk (KeepBut.blk hk (g' := gb335) (o := .cells #[.slice none 0 0] 31 (0, 0)) bk_ NB335_0.out (by simp)); replace HK := Aside0.mk (KeepBut.trans (by repeat (first | (with_reducible first | exact HK.out | apply KeepBut.set_ | apply keep_drewN | apply keep_drew | apply keep_alloc | refine keep_far ?_ GW335.out _) | exact HK.out)) hk (.inl rfl)); replace HB := Aside0.mk (hb); replace HI0 := Aside0.mk (hi); (try clear hb); (try clear hb2); (try clear hk); (try clear hi); (try clear ho0); obtain ⟨Ao32, co32, eo32⟩ := Kd.V_slice HO356.out; subst eo32) | ((with_reducible refine gate_builtin (b := .append) (xs := #[.tmp 34, .tmp 40]) rfl ?_); at_builtin; refine Kd.N_append k31 w.heap.size rfl (.tmp 34) (.tmp 40) 48 31 (.agg #[(.slice none 0 0)]) 24 rfl Tryd.underlying48 info31 rfl (by decide) (by omega) u7 x7_2 (⟨t354⟩ : S31) [.slice Ao32 t354.length co32] (fun k_ => (w.heap.size ≤ k_) ∧ k_ ≠ gb335 ∧ k_ ≠ g) (fun k_ => ((fun k_ => (w.heap.size ≤ k_) ∧ k_ ≠ gb335 ∧ k_ ≠ g)) k_ ∧ some k_ ≠ (u7 : Value).ownBlock) rfl rfl ?aP (fun _ hk => hk) ?aF ?aO (Below.refl _ _) ?aS ?aL ?_; (case aP => exact (k31_mkF _ _ (⟨t354⟩ : S31) (Kd.V_reads' (Kd.V_mono (ok' := (fun k_ => ((fun k_ => (w.heap.size ≤ k_) ∧ k_ ≠ gb335 ∧ k_ ≠ g)) k_ ∧ some k_ ≠ (u7 : Value).ownBlock)) (HO356.out) (fun k_ hk => ⟨⟨hk.1, ⟨hk.2.2.1, hk.2.2.2⟩⟩, hk.2.1⟩))).2.1 (Kd.V_F (Kd.V_mono (ok' := (fun k_ => ((fun k_ => (w.heap.size ≤ k_) ∧ k_ ≠ gb335 ∧ k_ ≠ g)) k_ ∧ some k_ ≠ (u7 : Value).ownBlock)) (HO356.out) (fun k_ hk => ⟨⟨hk.1, ⟨hk.2.2.1, hk.2.2.2⟩⟩, hk.2.1⟩))))); (case aF => exact (fun k_ hk => ⟨(Nat.le_trans (keep_size (w := w) (g := g) (row := none) (by repeat (first | (with_reducible first | exact HK.out | apply KeepBut.set_ | apply keep_drewN | apply keep_drew | apply keep_alloc | refine keep_far ?_ GW335.out _) | exact HK.out))) hk), Kd.freshB (g := gb335) (o := .cells #[.slice none 0 0] 31 (0, 0)) bk_ k_ hk, IsS58.fresh si_ k_ hk⟩)); (case aO => exact (pN_ HO_7.out)); (case aS => exact (keep_size (w := w) (g := g) (row := none) (by repeat (first | (with_reducible first | exact HK.out | apply KeepBut.set_ | apply keep_drewN | apply keep_drew | apply keep_alloc | refine keep_far ?_ GW335.out _) | exact HK.out)))); (case aL => have := LMc29.out; omega); intro v360 w31 ho hb hg hat; rw [← Ny359.out] at ho; have HO361 := Aside0.mk (ho); replace BK335 := Aside0.mk (blk_grown (g := gb335) (o := .cells #[.slice none 0 0] 31 (0, 0)) bk_ hg (Kd.N_away HO_7.out (fun _ hk => hk.2.1))); replace HI0 := Aside0.mk (IsS58.grown si_ hg (IsS58.own_neN HI0.out HO_7.out (by decide))); replace HO356 := Aside0.mk (Kd.V_afterv (ok := (fun k_ => (w.heap.size ≤ k_) ∧ k_ ≠ gb335 ∧ k_ ≠ g)) (by (with_reducible repeat (first | apply Kd.V_alloc | apply Kd.V_drewN | apply Kd.V_drew)); exact Kd.V_mono HO356.out (fun _ hk => ⟨⟨hk.1, ⟨hk.2.2.1, hk.2.2.2⟩⟩, hk.2.1⟩)) hg hat); replace HB := Aside0.mk (below_weaken bl_ HL.out hb); replace HK := Aside0.mk (KeepBut.trans (by repeat (first | (with_reducible first | exact HK.out | apply KeepBut.set_ | apply keep_drewN | apply keep_drew | apply keep_alloc | refine keep_far ?_ GW335.out _) | exact HK.out)) (KeepBut.of_grown hg g) (Kd.N_base2 HO_7.out)); clear HO_7; clear ho hb hg hat))
         go_roundg k2
         case measure => have := HJ3.out; have := HK2.out; omega
         case rel => exact ⟨(y359), (wrap64 (x8_2 + 1)), (t357), (t358), rs_, H', ⟨by have := HJ3.out; have := HK2.out; omega⟩, ⟨pN_ HO361.out⟩, ⟨bk_⟩, ⟨si_⟩, ⟨by repeat (first | (with_reducible first | exact HK.out | apply KeepBut.set_ | apply keep_drewN | apply keep_drew | apply keep_alloc | refine keep_far ?_ GW335.out _) | exact HK.out)⟩, ⟨bl_⟩⟩
        ·rw [if_neg c29] at H
         exact absurd H (by simp)
       ·rw [if_neg c27] at H
        have c27b0 : decide (x8_2 < t353) = false := decide_eq_false c27
        clear c27
        replace H := Option.bind_eq_some_iff.mp H
        obtain ⟨t362, A330, H⟩ := H
        replace H : (some (t362, x1001_2, x1002_2)) = some (r1, r2, r3) := H
        have A33 := Aside0.mk A330
        clear A330
        simp only [Option.some.injEq, Prod.mk.injEq] at H
        obtain ⟨rfl, rfl, rfl⟩ := H
        go_wp2_with (first | ((with_reducible refine gate_callee (f := 42) rfl ?_); refine goesL_ (some 30) rfl rfl Tryd.func42 (by kernel_rfl) rfl #[.int .i64 a1] rfl (by (try simp only [List.map_toArray, List.map_cons, List.map_nil]); first | done | rfl | (simp only [List.length_drop, List.length_take]; rfl)) ?_; (with_reducible refine (exactpplmake_Width.calls a1 t353 _ A26.out).mono ?_); rintro e w' ⟨rfl, ⟨nd, rfl⟩⟩; refine ⟨_, rfl, ?_⟩; (try (rw [drewN_self wr]; generalize hq_ : World.drewN wr _ = wr; replace HO_7 : Aside0 (Kd.N k31 31 wr w.heap.size (fun k_ => (w.heap.size ≤ k_) ∧ k_ ≠ g ∧ k_ ≠ gb335) u7 x7_2) := ⟨by rw [← hq_]; exact (by (with_reducible repeat (first | apply Kd.N_alloc | apply Kd.N_drewN | apply Kd.N_drew)); exact Kd.N_mono HO_7.out (fun _ hk => ⟨hk.1, ⟨hk.2.2, hk.2.1⟩⟩))⟩; replace BK335 : Aside0 (wr.heap[gb335]? = some (.cells #[.slice none 0 0] 31 (0, 0))) := ⟨by rw [← hq_]; exact bk_⟩; replace HI0 : Aside0 (IsS58 w0 wr g s0_0 x1001_2 x1002_2) := ⟨by rw [← hq_]; exact si_⟩; replace HK : Aside0 (KeepBut w wr g none) := ⟨by rw [← hq_]; exact (by repeat (first | (with_reducible first | exact HK.out | apply KeepBut.set_ | apply keep_drewN | apply keep_drew | apply keep_alloc | refine keep_far ?_ GW335.out _) | exact HK.out))⟩; replace HB : Aside0 (Below w0.heap.size w0 wr) := ⟨by rw [← hq_]; exact bl_⟩; clear hq_)); obtain ⟨Ao34, co34, eo34⟩ := Kd.N_slice HO_7.out; subst eo34) | ((with_reducible refine gate_callee (f := 53) rfl ?_); refine goesL_ (some 44) rfl rfl Tryd.func53 (by kernel_rfl) rfl #[.int .i64 a1, .slice Ao34 x7_2.length co34] rfl (by (try simp only [List.map_toArray, List.map_cons, List.map_nil]); first | done | rfl | (simp only [List.length_drop, List.length_take]; rfl)) ?_; (with_reducible refine (exactpplref19_Join.calls a1 _ _ x7_2 t362 _ ?side1 ?side2 A33.out).mono ?_); (case side1 => repeat (first | exact (Kd.N_reads' HO_7.out).2.2 | (with_reducible refine Kd.C_alloc ?_ _) | (with_reducible refine Kd.C_drewN ?_ _) | (with_reducible refine Kd.C_drew ?_))); (case side2 => exact (Kd.N_reads' HO_7.out).2.1); rintro e w35 ⟨v363, rfl, ho0, hb⟩; refine ⟨_, rfl, ?_⟩; have HO364 := Aside0.mk (Kd.V_lower (Kd.V_mono (ok' := fun k_ => (w.heap.size ≤ k_) ∧ some k_ ≠ (.slice Ao34 x7_2.length co34 : Value).ownBlock ∧ k_ ≠ gb335 ∧ k_ ≠ g) ho0 (fun k_ hk_ => ⟨(Nat.le_trans (keep_size (w := w) (g := g) (row := none) (by repeat (first | (with_reducible first | exact HK.out | apply KeepBut.set_ | apply keep_drewN | apply keep_drew | apply keep_alloc | refine keep_far ?_ GW335.out _) | exact HK.out))) hk_), (Kd.fresh' (Kd.N_lt (pN_ HO_7.out)) k_ hk_), (Kd.freshB (g := gb335) (o := .cells #[.slice none 0 0] 31 (0, 0)) bk_ k_ hk_), (IsS58.fresh si_ k_ hk_)⟩)) (keep_size (w := w) (g := g) (row := none) (by repeat (first | (with_reducible first | exact HK.out | apply KeepBut.set_ | apply keep_drewN | apply keep_drew | apply keep_alloc | refine keep_far ?_ GW335.out _) | exact HK.out)))); replace HO_7 := Aside0.mk (Kd.N_below (pN_ HO_7.out) hb); replace BK335 := Aside0.mk (blk_below (g := gb335) (o := .cells #[.slice none 0 0] 31 (0, 0)) bk_ hb); replace HI0 := Aside0.mk (IsS58.below si_ hb); replace HK := Aside0.mk (KeepBut.trans (by repeat (first | (with_reducible first | exact HK.out | apply KeepBut.set_ | apply keep_drewN | apply keep_drew | apply keep_alloc | refine keep_far ?_ GW335.out _) | exact HK.out)) (KeepBut.of_below hb g none) (.inl rfl)); replace HB := Aside0.mk (below_step bl_ hb); (try clear hb); (try clear hb2); (try clear hk); (try clear hi); (try clear ho0); obtain ⟨Ao36, co36, eo36⟩ := Kd.V_slice HO364.out; subst eo36; have hnb37 := NB335_0.out; have hnc37 := NB0_335.out; obtain ⟨hcz38_0, hfz38_0⟩ := cf1_ BK335.out))
        refine bodyPost_ret (results_cell_row rfl _ _ gb335 31 #[.slice Ao36 t362.length co36] (0, 0) _ rfl (by (with_reducible repeat (first | refine blk_drewN ?_ _ | refine blk_drew ?_ | refine blk_alloc ?_ _)); refine blk_put (cs := #[.slice none 0 0]) ?_ 0 _ rfl; (with_reducible repeat (first | refine blk_drewN ?_ _ | refine blk_drew ?_ | refine blk_alloc ?_ _)); exact BK335.out) Tryd.underlying31 rfl (by kernel_rfl)) rfl ?_
        exact ⟨_, re_, by (with_reducible repeat (first | apply Kd.V_alloc | apply Kd.V_drewN | apply Kd.V_drew)); exact Kd.V_mono (Kd.V_far (p := ⟨gb335, 0, none⟩) (Kd.V_mono HO364.out (fun k_ hk => (⟨hk, by first | exact hk.2.2.1 | exact hk.1 | exact hk.2 | exact hk.1.1 | exact hk.1.2⟩ : _ ∧ k_ ≠ gb335))) (fun _ hk => hk.2) (.slice Ao36 t362.length co36)) (fun _ hk => hk.1.1), si_, bl_, by repeat (first | (with_reducible first | exact HK.out | apply KeepBut.set_ | apply keep_drewN | apply keep_drew | apply keep_alloc | refine keep_far ?_ GW335.out _) | exact HK.out)⟩

end Go.Proofs.YtopbjginpmdebaaDoor.K
namespace Go.Proofs.YtopbjginpmdebaaDoor.K
open Go.RowKit Go.Proofs.YtopbjginpmdebaaDoorW.PrintWords Go.Proofs.YtopbjginpmdebaaDoorW.PrintLast Go.Proofs.YtopbjginpmdebaaDoorW.PrintMore
attribute [local go_sem] max2_int min2_int max_two min_two max_three min_three max_four min_four   -- for this text's walks alone
set_option linter.unusedVariables false
set_option linter.unusedSimpArgs false

/-! ### exactppllaw19_assignments: function 36 -/
mutual
def exactppllaw19_assignments.l0 : Nat → Int → List (List Int) → Int → Option ((List (List Int)))
 | 0, _, _, _ => none
 | k + 1, x0, x3, x4 => if x4 < x0 then (exactppllaw19_assignments.l1 k x0 x3 x4 ([] : List (List Int)) 0) else (some x3)
def exactppllaw19_assignments.l1 : Nat → Int → List (List Int) → Int → List (List Int) → Int → Option ((List (List Int)))
 | 0, _, _, _, _, _ => none
 | k + 1, x0, x3, x4, x5, x6 => if x6 < (x3.length : Int) then (exactppllaw19_assignments.l2 k x0 x3 x4 x5 x6 0) else (exactppllaw19_assignments.l0 k x0 x5 (wrap64 (x4 + 1)))
def exactppllaw19_assignments.l2 : Nat → Int → List (List Int) → Int → List (List Int) → Int → Int → Option ((List (List Int)))
 | 0, _, _, _, _, _, _ => none
 | k + 1, x0, x3, x4, x5, x6, x7 => (exactpplmake_Width.f x4).bind fun t584 => (if x7 < t584 then (if 0 ≤ x6 then (if x6 < (x3.length : Int) then (if ([] : List Int).length + (rd_L1 x3 x6).length < 17592186044416 then ((some (([] : List Int) ++ (rd_L1 x3 x6) : List Int)).bind fun y586 => (if y586.length < 17592186044416 then (if x5.length < 5864062014805 then (exactppllaw19_assignments.l2 k x0 x3 x4 (x5 ++ [(y586 ++ [x7])]) x6 (wrap64 (x7 + 1))) else (none)) else (none))) else (none)) else (none)) else (none)) else (exactppllaw19_assignments.l1 k x0 x3 x4 x5 (wrap64 (x6 + 1))))
end
def exactppllaw19_assignments.f (k : Nat) (a0 : Int) : Option ((List (List Int))) := exactppllaw19_assignments.l0 k a0 (([[]] : List (List Int))) 0
theorem exactppllaw19_assignments.mono_l : ∀ k, (∀ y0 y1 y2, LeO (exactppllaw19_assignments.l0 k y0 y1 y2) (exactppllaw19_assignments.l0 (k + 1) y0 y1 y2)) ∧ (∀ y0 y1 y2 y3 y4, LeO (exactppllaw19_assignments.l1 k y0 y1 y2 y3 y4) (exactppllaw19_assignments.l1 (k + 1) y0 y1 y2 y3 y4)) ∧ (∀ y0 y1 y2 y3 y4 y5, LeO (exactppllaw19_assignments.l2 k y0 y1 y2 y3 y4 y5) (exactppllaw19_assignments.l2 (k + 1) y0 y1 y2 y3 y4 y5))
 | 0 => ⟨fun _ _ _ r h => by simp [exactppllaw19_assignments.l0] at h, fun _ _ _ _ _ r h => by simp [exactppllaw19_assignments.l1] at h, fun _ _ _ _ _ _ r h => by simp [exactppllaw19_assignments.l2] at h⟩
 | k + 1 => by
  obtain ⟨ih0, ih1, ih2⟩ := exactppllaw19_assignments.mono_l k
  refine ⟨?_, ?_, ?_⟩
  ·intro y0 y1 y2
   unfold exactppllaw19_assignments.l0
   repeat' first
   | (with_reducible exact ih0 _ _ _)
   | (with_reducible exact ih1 _ _ _ _ _)
   | (with_reducible exact ih2 _ _ _ _ _ _)
   | (with_reducible exact LeO.refl _)
   | (with_reducible exact LeO.none _)
   | (with_reducible refine LeO.ite ?_ ?_)
   | (with_reducible refine LeO.bind ?_ (fun _ => ?_))
   | exact ih0 _ _ _
   | exact ih1 _ _ _ _ _
   | exact ih2 _ _ _ _ _ _
   | exact LeO.none _
   | refine LeO.ite ?_ ?_
   | refine LeO.bind ?_ (fun _ => ?_)
  ·intro y0 y1 y2 y3 y4
   unfold exactppllaw19_assignments.l1
   repeat' first
   | (with_reducible exact ih0 _ _ _)
   | (with_reducible exact ih1 _ _ _ _ _)
   | (with_reducible exact ih2 _ _ _ _ _ _)
   | (with_reducible exact LeO.refl _)
   | (with_reducible exact LeO.none _)
   | (with_reducible refine LeO.ite ?_ ?_)
   | (with_reducible refine LeO.bind ?_ (fun _ => ?_))
   | exact ih0 _ _ _
   | exact ih1 _ _ _ _ _
   | exact ih2 _ _ _ _ _ _
   | exact LeO.none _
   | refine LeO.ite ?_ ?_
   | refine LeO.bind ?_ (fun _ => ?_)
  ·intro y0 y1 y2 y3 y4 y5
   unfold exactppllaw19_assignments.l2
   repeat' first
   | (with_reducible exact ih0 _ _ _)
   | (with_reducible exact ih1 _ _ _ _ _)
   | (with_reducible exact ih2 _ _ _ _ _ _)
   | (with_reducible exact LeO.refl _)
   | (with_reducible exact LeO.none _)
   | (with_reducible refine LeO.ite ?_ ?_)
   | (with_reducible refine LeO.bind ?_ (fun _ => ?_))
   | exact ih0 _ _ _
   | exact ih1 _ _ _ _ _
   | exact ih2 _ _ _ _ _ _
   | exact LeO.none _
   | refine LeO.ite ?_ ?_
   | refine LeO.bind ?_ (fun _ => ?_)
theorem exactppllaw19_assignments.mono : ∀ a0 k, LeO (exactppllaw19_assignments.f k a0) (exactppllaw19_assignments.f (k + 1) a0) := by
 intro a0 k
 obtain ⟨ih0, ih1, ih2⟩ := exactppllaw19_assignments.mono_l k
 unfold exactppllaw19_assignments.f
 repeat' first
   | (with_reducible exact ih0 _ _ _)
   | (with_reducible exact ih1 _ _ _ _ _)
   | (with_reducible exact ih2 _ _ _ _ _ _)
   | (with_reducible exact LeO.refl _)
   | (with_reducible exact LeO.none _)
   | (with_reducible refine LeO.ite ?_ ?_)
   | (with_reducible refine LeO.bind ?_ (fun _ => ?_))
   | exact ih0 _ _ _
   | exact ih1 _ _ _ _ _
   | exact ih2 _ _ _ _ _ _
   | exact LeO.none _
   | refine LeO.ite ?_ ?_
   | refine LeO.bind ?_ (fun _ => ?_)
set_option maxHeartbeats 8000000 in
set_option maxRecDepth 100000 in
theorem exactppllaw19_assignments.calls (k : Nat) (a0 : Int) (r : List (List Int)) (w : World) (h : exactppllaw19_assignments.f k a0 = some r) :
  Calls Tryd.prog 36 #[.int .i64 a0] w fun e w' => ∃ v0_ : Value, e = .returned (v0_) ∧ Kd.S (Kd.slice 3 (Kd.int .i64)) 22 w' w.heap.size (fun _ => True) v0_ r ∧ Below w.heap.size w w' := by
 have HB := Aside0.mk (Below.refl w.heap.size w)
 have H : (exactppllaw19_assignments.l0 k a0 (([[]] : List (List Int))) 0) = some r := h
 clear h
 obtain ⟨y581, hy581⟩ : ∃ y_ : List (List Int), y_ = (([[]] : List (List Int))) := ⟨_, rfl⟩
 replace H : (exactppllaw19_assignments.l0 k a0 y581 0) = some r := by first | (rw [hy581]; with_reducible exact H) | (have H2_ := (Option.bind_some _ _).symm.trans H; rw [hy581]; with_reducible exact H2_) | (have H2_ := (Option.bind_some _ _).symm.trans H; with_reducible exact H2_) | with_reducible exact H | (rw [hy581]; exact H) | exact H
 have Ny581 := Aside0.mk hy581
 clear hy581
 have H' := Aside0.mk H
 clear H
 go_enter Tryd.func36, Tryd.ntmps36
 go_wp2_with (first | ((with_reducible refine gate_dst (N := 8) rfl ?_); refine Kd.S_lit (Kd.slice 3 (Kd.int .i64)) _ 22 ?hg (N := 8) ?hd (xs := ([[]] : List (List Int))) (inner := [.slice none 0 0]) (ok := fun _ => True) (okp := fun _ => True) ?hr ?hp (fun _ hk => hk) trivial (Below.refl _ _) (Nat.le_refl _) (by simp) ?_; (case hd => rfl); (case hg => rfl); (case hr => first | (go_simp; done) | (go_simp; rfl)); (case hp => exact (Reps.one (show Kd.M (Kd.slice 3 (Kd.int .i64)) _ _ _ [] [.slice none 0 0] from ⟨_, rfl, Kd.R_nil _ _ _ _ _⟩) (Reps.none _ _))); intro v582 w2 ho3 hb hg_ hnew_; clear hg_ hnew_; (first | rw [← Ny581.out] at ho3 | (simp only [Int.reduceToNat] at ho3; rw [← Ny581.out] at ho3)); have HO583 := Aside0.mk (Kd.S_lower ho3 (below_size bl_)); replace HB := Aside0.mk (below_step bl_ hb); clear hb ho3))
 go_loopg [3, 4] k (fun kq v3 v4 w' => ∃ (x3_1 : List (List Int)) (x4_1 : Int), v4 = .int .i64 x4_1 ∧ Aside0 (exactppllaw19_assignments.l0 kq a0 x3_1 x4_1 = some r) ∧ Aside0 (kq ≤ k) ∧ Aside0 (Kd.S (Kd.slice 3 (Kd.int .i64)) 22 w' w.heap.size (fun _ => True) v3 x3_1) ∧ Aside0 (Below w.heap.size w w'))
 case atStart => exact ⟨(y581), (0), rs_, H', ⟨Nat.le_refl _⟩, ⟨pS_ HO583.out⟩, ⟨bl_⟩⟩
 case round =>
  clear H'
  try clear p2
  try clear c3
  obtain ⟨x3_1, x4_1, rfl, HA, HK1, HO_3, HB⟩ := hrel
  cases gk with
  | zero => exact absurd HA.out (by simp [exactppllaw19_assignments.l0])
  | succ k1 =>
   have H := HA.out
   clear HA
   simp only [exactppllaw19_assignments.l0] at H
   by_cases c4 : x4_1 < a0
   ·rw [if_pos c4] at H
    have c4b0 : decide (x4_1 < a0) = true := decide_eq_true c4
    clear c4
    have H' := Aside0.mk H
    clear H
    go_wp2
    go_loopg [5, 6] k1 (fun kq v5 v6 w' => ∃ (x5_2 : List (List Int)) (x6_2 : Int), v6 = .int .i64 x6_2 ∧ Aside0 (exactppllaw19_assignments.l1 kq a0 x3_1 x4_1 x5_2 x6_2 = some r) ∧ Aside0 (kq ≤ k1) ∧ Aside0 (Kd.S (Kd.slice 3 (Kd.int .i64)) 22 w' w.heap.size (fun k_ => some k_ ≠ (v5 : Value).ownBlock) u3 x3_1) ∧ Aside0 (Kd.S (Kd.slice 3 (Kd.int .i64)) 22 w' w.heap.size (fun k_ => some k_ ≠ (u3 : Value).ownBlock) v5 x5_2) ∧ Aside0 (Below w.heap.size w w'))
    case atStart => exact ⟨(([] : List (List Int))), (0), rs_, H', ⟨Nat.le_refl _⟩, ⟨by (with_reducible repeat (first | apply Kd.S_alloc | apply Kd.S_drewN | apply Kd.S_drew)); exact Kd.S_mono HO_3.out (fun _ hk => (by simp [Value.ownBlock]))⟩, ⟨by first | exact Kd.S_nil _ _ _ _ _ | exact Kd.N_nil _ _ _ _ _ | exact Kd.V_nil _ _ _ _ _ | exact Kd.Q_nil _ _ _ _ _ | exact Kd.R_nil _ _ _ _ _⟩, ⟨bl_⟩⟩
    case round =>
     clear H'
     try clear p2
     try clear c3
     try clear c4
     try clear c4b0
     try clear p2
     obtain ⟨x5_2, x6_2, rfl, HA, HK2, HO_3, HO_5, HB⟩ := hrel
     cases gk with
     | zero => exact absurd HA.out (by simp [exactppllaw19_assignments.l1])
     | succ k2 =>
      have H := HA.out
      clear HA
      simp only [exactppllaw19_assignments.l1] at H
      by_cases c5 : x6_2 < (x3_1.length : Int)
      ·rw [if_pos c5] at H
       have c5b0 : decide (x6_2 < (x3_1.length : Int)) = true := decide_eq_true c5
       clear c5
       have H' := Aside0.mk H
       clear H
       obtain ⟨Ao6, co6, eo6⟩ := Kd.S_slice HO_3.out
       subst eo6
       go_wp2
       go_loopg [5, 7] k2 (fun kq v5 v7 w' => ∃ (x5_3 : List (List Int)) (x7_3 : Int), v7 = .int .i64 x7_3 ∧ Aside0 (exactppllaw19_assignments.l2 kq a0 x3_1 x4_1 x5_3 x6_2 x7_3 = some r) ∧ Aside0 (kq ≤ k2) ∧ Aside0 (Kd.S (Kd.slice 3 (Kd.int .i64)) 22 w' w.heap.size (fun k_ => some k_ ≠ (v5 : Value).ownBlock) (.slice Ao6 x3_1.length co6) x3_1) ∧ Aside0 (Kd.S (Kd.slice 3 (Kd.int .i64)) 22 w' w.heap.size (fun k_ => some k_ ≠ ((.slice Ao6 x3_1.length co6) : Value).ownBlock) v5 x5_3) ∧ Aside0 (Below w.heap.size w w'))
       case atStart => exact ⟨(x5_2), (0), rs_, H', ⟨Nat.le_refl _⟩, ⟨pS_ HO_3.out⟩, ⟨pS_ HO_5.out⟩, ⟨bl_⟩⟩
       case round =>
        clear H'
        try clear p2
        try clear c3
        try clear c4
        try clear c4b0
        try clear c5
        try clear c5b0
        try clear p2
        obtain ⟨x5_3, x7_3, rfl, HA, HK3, HO_3, HO_5, HB⟩ := hrel
        cases gk with
        | zero => exact absurd HA.out (by simp [exactppllaw19_assignments.l2])
        | succ k3 =>
         have H := HA.out
         clear HA
         simp only [exactppllaw19_assignments.l2] at H
         replace H := Option.bind_eq_some_iff.mp H
         obtain ⟨t584, A70, H⟩ := H
         replace H : (if x7_3 < t584 then (if 0 ≤ x6_2 then (if x6_2 < (x3_1.length : Int) then (if ([] : List Int).length + (rd_L1 x3_1 x6_2).length < 17592186044416 then ((some (([] : List Int) ++ (rd_L1 x3_1 x6_2) : List Int)).bind fun y586 => (if y586.length < 17592186044416 then (if x5_3.length < 5864062014805 then (exactppllaw19_assignments.l2 k3 a0 x3_1 x4_1 (x5_3 ++ [(y586 ++ [x7_3])]) x6_2 (wrap64 (x7_3 + 1))) else (none)) else (none))) else (none)) else (none)) else (none)) else (exactppllaw19_assignments.l1 k3 a0 x3_1 x4_1 x5_3 (wrap64 (x6_2 + 1)))) = some r := H
         have A7 := Aside0.mk A70
         clear A70
         by_cases c8 : x7_3 < t584
         ·rw [if_pos c8] at H
          have c8b0 : decide (x7_3 < t584) = true := decide_eq_true c8
          clear c8
          by_cases c9 : 0 ≤ x6_2
          ·rw [if_pos c9] at H
           have c9b0 : decide (0 ≤ x6_2) = true := decide_eq_true c9
           clear c9
           by_cases c10 : x6_2 < (x3_1.length : Int)
           ·rw [if_pos c10] at H
            have c10b0 : decide (x6_2 < (x3_1.length : Int)) = true := decide_eq_true c10
            clear c10
            by_cases c11 : ([] : List Int).length + (rd_L1 x3_1 x6_2).length < 17592186044416
            ·rw [if_pos c11] at H
             have LMc11 := Aside0.mk c11
             clear c11
             obtain ⟨y586, hy586⟩ : ∃ y_ : List Int, y_ = (([] : List Int) ++ (rd_L1 x3_1 x6_2)) := ⟨_, rfl⟩
             replace H : (if y586.length < 17592186044416 then (if x5_3.length < 5864062014805 then (exactppllaw19_assignments.l2 k3 a0 x3_1 x4_1 (x5_3 ++ [(y586 ++ [x7_3])]) x6_2 (wrap64 (x7_3 + 1))) else (none)) else (none)) = some r := by first | (rw [hy586]; with_reducible exact H) | (have H2_ := (Option.bind_some _ _).symm.trans H; rw [hy586]; with_reducible exact H2_) | (have H2_ := (Option.bind_some _ _).symm.trans H; with_reducible exact H2_) | with_reducible exact H | (rw [hy586]; exact H) | exact H
             have Ny586 := Aside0.mk hy586
             clear hy586
             by_cases c12 : y586.length < 17592186044416
             ·rw [if_pos c12] at H
              have LMc12 := Aside0.mk c12
              clear c12
              obtain ⟨y589, hy589⟩ : ∃ y_ : List Int, y_ = (y586 ++ [x7_3]) := ⟨_, rfl⟩
              replace H : (if x5_3.length < 5864062014805 then (exactppllaw19_assignments.l2 k3 a0 x3_1 x4_1 (x5_3 ++ [y589]) x6_2 (wrap64 (x7_3 + 1))) else (none)) = some r := by first | (rw [hy589]; with_reducible exact H) | (have H2_ := (Option.bind_some _ _).symm.trans H; rw [hy589]; with_reducible exact H2_) | (have H2_ := (Option.bind_some _ _).symm.trans H; with_reducible exact H2_) | with_reducible exact H | (rw [hy589]; exact H) | exact H
              have Ny589 := Aside0.mk hy589
              clear hy589
              by_cases c13 : x5_3.length < 5864062014805
              ·rw [if_pos c13] at H
               have LMc13 := Aside0.mk c13
               clear c13
               obtain ⟨y592, hy592⟩ : ∃ y_ : List (List Int), y_ = (x5_3 ++ [y589]) := ⟨_, rfl⟩
               replace H : (exactppllaw19_assignments.l2 k3 a0 x3_1 x4_1 y592 x6_2 (wrap64 (x7_3 + 1))) = some r := by first | (rw [hy592]; with_reducible exact H) | (have H2_ := (Option.bind_some _ _).symm.trans H; rw [hy592]; with_reducible exact H2_) | (have H2_ := (Option.bind_some _ _).symm.trans H; with_reducible exact H2_) | with_reducible exact H | (rw [hy592]; exact H) | exact H
               have Ny592 := Aside0.mk hy592
               clear hy592
               have H' := Aside0.mk H
               clear H
               go_wp2_with (first | ((with_reducible refine gate_callee (f := 42) rfl ?_); refine goesL_ (some 22) rfl rfl Tryd.func42 (by kernel_rfl) rfl #[.int .i64 x4_1] rfl (by (try simp only [List.map_toArray, List.map_cons, List.map_nil]); first | done | rfl | (simp only [List.length_drop, List.length_take]; rfl)) ?_; (with_reducible refine (exactpplmake_Width.calls x4_1 t584 _ A7.out).mono ?_); rintro e w' ⟨rfl, ⟨nd, rfl⟩⟩; refine ⟨_, rfl, ?_⟩; have p585 : 0 ≤ (x6_2 : Int) := dt_; have q585 : x6_2 < (x3_1.length : Int) := dt_; obtain ⟨ad585, A585_0, c585_0, e585, hx585_0, hl585_0, hi585_0⟩ := at_L1 (Kd.S_reads' HO_3.out).2.2 x6_2 p585 q585; cases e585; obtain ⟨ce585, hce585, hMe585, hcc585⟩ := Kd.S_get HO_3.out [] x6_2 p585 (by first | exact q585 | exact dt_ | (have e_ := (Kd.S_reads' HO_3.out).1; omega)); obtain ⟨ve585_0, rfl, ge585_0⟩ := hMe585; have hv585_0 := hcc585 0 _ rfl; rw [Nat.add_zero, show ((Kd.slice 3 (Kd.int .i64))).sz = 1 from rfl, Nat.mul_one] at hv585_0; replace hv585_0 := Option.some.inj (hv585_0.symm.trans hx585_0); rw [hv585_0] at ge585_0; have HL585_0 := Aside0.mk (show Kd.R (Kd.int .i64) 3 _ _ _ _ (rd_L1 x3_1 x6_2) from ge585_0); clear hv585_0 ge585_0; clear hcc585 hce585; have HR585_0 := Aside0.mk hi585_0; have HC585_0 := Aside0.mk hl585_0; clear hi585_0 hl585_0; replace p585 := eq_true p585; replace q585 := eq_true q585) | ((with_reducible refine gate_builtin (b := .append) (xs := #[.const (.slice none 0 0), .tmp 30]) rfl ?_); at_builtin; refine Kd.R_append_rows (Kd.int .i64) (w0 := w) w.heap.size rfl (.const (.slice none 0 0)) (.tmp 30) 22 3 (.int .i64 0) 8 rfl Tryd.underlying22 info3 rfl (by decide) (by omega) (.slice none 0 0) ([] : List Int) (rd_L1 x3_1 x6_2) _ _ _ (fun k_ => some k_ ≠ (.slice A585_0 (rd_L1 x3_1 x6_2).length c585_0 : Value).ownBlock) (fun _ => False) rfl rfl ?aO ?aR (fun _ _ h => h) (fun _ h => h.elim) ?aF ?aB ?aS ?aL ?_; (case aR => repeat (first | exact (by repeat (first | (with_reducible exact HR585_0.out) | (with_reducible refine Kd.C_alloc ?_ _) | (with_reducible refine Kd.C_drewN ?_ _) | (with_reducible refine Kd.C_drew ?_) | exact HR585_0.out)) | (with_reducible refine Kd.C_alloc ?_ _) | (with_reducible refine Kd.C_drewN ?_ _) | (with_reducible refine Kd.C_drew ?_))); (case aB => exact bl_); (case aF => exact (fun k_ hk => Kd.fresh' (Kd.R_lt (by (with_reducible repeat (first | apply Kd.R_alloc | apply Kd.R_drewN | apply Kd.R_drew)); exact HL585_0.out)) k_ hk)); (case aO => exact ((Kd.R_nil _ _ _ _ (fun k_ => some k_ ≠ (.slice A585_0 (rd_L1 x3_1 x6_2).length c585_0 : Value).ownBlock)))); (case aS => exact (below_size bl_)); (case aL => have := LMc11.out; omega); intro v587 w14 ho hb hg hat; rw [← Ny586.out] at ho; have HO588 := Aside0.mk (ho); replace HO_3 := Aside0.mk (Kd.S_after (Kd.S_apart_nil (pS_ HO_3.out)) hg hat); replace HO_5 := Aside0.mk (Kd.S_after (Kd.S_apart_nil (pS_ HO_5.out)) hg hat); replace HL585_0 := Aside0.mk (Kd.R_after (Kd.R_apart_nil (by (with_reducible repeat (first | apply Kd.R_alloc | apply Kd.R_drewN | apply Kd.R_drew)); exact HL585_0.out)) hg hat); replace HB := Aside0.mk (hb); clear ho hb hg hat) | ((with_reducible refine gate_builtin (b := .append) (xs := #[.tmp 31, .tmp 33]) rfl ?_); at_builtin; refine Kd.R_append (Kd.int .i64) (w0 := w) w.heap.size rfl (.tmp 31) (.tmp 33) 22 3 (.int .i64 0) 8 rfl Tryd.underlying22 info3 rfl (by decide) (by omega) v587 y586 x7_3 [.int .i64 x7_3] (fun k_ => some k_ ≠ (.slice A585_0 (rd_L1 x3_1 x6_2).length c585_0 : Value).ownBlock) (fun _ => False) rfl rfl ?aP (fun _ hk => hk.elim) ?aF ?aO ?aB ?aS ?aL ?_; (case aP => exact rfl); (case aB => exact bl_); (case aF => exact (fun k_ hk => Kd.fresh' (Kd.R_lt (by (with_reducible repeat (first | apply Kd.R_alloc | apply Kd.R_drewN | apply Kd.R_drew)); exact HL585_0.out)) k_ hk)); (case aO => exact (pR_ HO588.out)); (case aS => exact (below_size bl_)); (case aL => have := LMc12.out; omega); intro v590 w15 ho hb hg hat; rw [← Ny589.out] at ho; have HO591 := Aside0.mk (ho); replace HO_3 := Aside0.mk (Kd.S_after (ok := (fun k_ => some k_ ≠ (u5 : Value).ownBlock)) (pS_ HO_3.out) hg hat); replace HO_5 := Aside0.mk (Kd.S_after (ok := (fun k_ => some k_ ≠ (.slice (some ad585) x3_1.length co6 : Value).ownBlock)) (pS_ HO_5.out) hg hat); replace HL585_0 := Aside0.mk (Kd.R_after (ok := (fun k_ => some k_ ≠ (.slice (some ad585) x3_1.length co6 : Value).ownBlock ∧ some k_ ≠ (u5 : Value).ownBlock)) (by (with_reducible repeat (first | apply Kd.R_alloc | apply Kd.R_drewN | apply Kd.R_drew)); exact Kd.R_mono HL585_0.out (fun _ hk => ⟨⟨hk.1.2, hk.1.1⟩, hk.2⟩)) hg hat); replace HB := Aside0.mk (hb); clear HO588; clear ho hb hg hat; obtain ⟨Ao17, co17, eo17⟩ := Kd.R_slice HO591.out; subst eo17) | ((with_reducible refine gate_builtin (b := .append) (xs := #[.tmp 26, .tmp 35]) rfl ?_); at_builtin; refine Kd.S_append (Kd.slice 3 (Kd.int .i64)) (w0 := w) w.heap.size rfl (.tmp 26) (.tmp 35) 53 22 (.slice none 0 0) 24 rfl Tryd.underlying53 info22 rfl (by decide) (by omega) u5 x5_3 y589 [.slice Ao17 y589.length co17] (fun k_ => some k_ ≠ (.slice (some ad585) x3_1.length co6 : Value).ownBlock) (fun k_ => some k_ = (.slice Ao17 y589.length co17 : Value).ownBlock) rfl rfl ?aP (fun k_ hk_ => ((Kd.R_mono (ok' := fun k_ => ((fun k_ => some k_ ≠ (.slice (some ad585) x3_1.length co6 : Value).ownBlock)) k_ ∧ some k_ ≠ (u5 : Value).ownBlock) (Kd.R_apart' (Kd.R_apart' (HO591.out) (Kd.S_typed HO_3.out) (by decide)) (Kd.S_typed HO_5.out) (by decide)) (fun k_ hk => ⟨hk.1.2, hk.2⟩))).1 k_ hk_.symm) ?aF ?aO ?aB ?aS ?aL ?_; (case aP => exact Kd.M_row (Kd.R_mono (Kd.R_tight rfl (Kd.R_mono (ok' := fun k_ => ((fun k_ => some k_ ≠ (.slice (some ad585) x3_1.length co6 : Value).ownBlock)) k_ ∧ some k_ ≠ (u5 : Value).ownBlock) (Kd.R_apart' (Kd.R_apart' (HO591.out) (Kd.S_typed HO_3.out) (by decide)) (Kd.S_typed HO_5.out) (by decide)) (fun k_ hk => ⟨hk.1.2, hk.2⟩))) (fun _ h_ => h_))); (case aB => exact bl_); (case aF => exact (fun k_ hk => Kd.fresh' (Kd.S_lt (pS_ HO_3.out)) k_ hk)); (case aO => exact (by (with_reducible repeat (first | apply Kd.S_alloc | apply Kd.S_drewN | apply Kd.S_drew)); exact Kd.S_mono HO_5.out (fun k_ hk => ⟨hk.1, fun e_ => hk.2 e_⟩))); (case aS => exact (below_size bl_)); (case aL => have := LMc13.out; omega); intro v593 w16 ho hb hg hat; rw [← Ny592.out] at ho; have HO594 := Aside0.mk (ho); replace HO_3 := Aside0.mk (Kd.S_after (ok := (fun k_ => some k_ ≠ (.slice Ao17 y589.length co17 : Value).ownBlock)) (by (with_reducible repeat (first | apply Kd.S_alloc | apply Kd.S_drewN | apply Kd.S_drew)); exact Kd.S_mono HO_3.out (fun _ hk => ⟨hk.2, hk.1⟩)) hg hat); replace HL585_0 := Aside0.mk (Kd.R_after (ok := (fun k_ => some k_ ≠ (.slice (some ad585) x3_1.length co6 : Value).ownBlock ∧ some k_ ≠ (.slice Ao17 y589.length co17 : Value).ownBlock)) (by (with_reducible repeat (first | apply Kd.R_alloc | apply Kd.R_drewN | apply Kd.R_drew)); exact Kd.R_mono HL585_0.out (fun _ hk => ⟨⟨hk.1.1, hk.2⟩, hk.1.2⟩)) hg hat); replace HB := Aside0.mk (hb); clear HO_5 HO591; clear ho hb hg hat))
               go_roundg k3
               case measure => have := HK1.out; have := HK2.out; have := HK3.out; omega
               case rel => exact ⟨(y592), (wrap64 (x7_3 + 1)), rs_, H', ⟨by have := HK1.out; have := HK2.out; have := HK3.out; omega⟩, ⟨by (with_reducible repeat (first | apply Kd.S_alloc | apply Kd.S_drewN | apply Kd.S_drew)); exact Kd.S_mono HO_3.out (fun _ hk => hk.2)⟩, ⟨pS_ HO594.out⟩, ⟨bl_⟩⟩
              ·rw [if_neg c13] at H
               exact absurd H (by simp)
             ·rw [if_neg c12] at H
              exact absurd H (by simp)
            ·rw [if_neg c11] at H
             exact absurd H (by simp)
           ·rw [if_neg c10] at H
            exact absurd H (by simp)
          ·rw [if_neg c9] at H
           exact absurd H (by simp)
         ·rw [if_neg c8] at H
          have c8b0 : decide (x7_3 < t584) = false := decide_eq_false c8
          clear c8
          have H' := Aside0.mk H
          clear H
          go_wp2_with (first | ((with_reducible refine gate_callee (f := 42) rfl ?_); refine goesL_ (some 22) rfl rfl Tryd.func42 (by kernel_rfl) rfl #[.int .i64 x4_1] rfl (by (try simp only [List.map_toArray, List.map_cons, List.map_nil]); first | done | rfl | (simp only [List.length_drop, List.length_take]; rfl)) ?_; (with_reducible refine (exactpplmake_Width.calls x4_1 t584 _ A7.out).mono ?_); rintro e w' ⟨rfl, ⟨nd, rfl⟩⟩; refine ⟨_, rfl, ?_⟩))
          go_roundg k3
          case measure => have := HK1.out; have := HK2.out; have := HK3.out; omega
          case rel => exact ⟨(x5_3), (wrap64 (x6_2 + 1)), rs_, H', ⟨by have := HK1.out; have := HK2.out; have := HK3.out; omega⟩, ⟨pS_ HO_3.out⟩, ⟨pS_ HO_5.out⟩, ⟨bl_⟩⟩
      ·rw [if_neg c5] at H
       have c5b0 : decide (x6_2 < (x3_1.length : Int)) = false := decide_eq_false c5
       clear c5
       have H' := Aside0.mk H
       clear H
       obtain ⟨Ao18, co18, eo18⟩ := Kd.S_slice HO_3.out
       subst eo18
       go_wp2
       go_roundg k2
       case measure => have := HK1.out; have := HK2.out; omega
       case rel => exact ⟨(x5_2), (wrap64 (x4_1 + 1)), rs_, H', ⟨by have := HK1.out; have := HK2.out; omega⟩, ⟨by (with_reducible repeat (first | apply Kd.S_alloc | apply Kd.S_drewN | apply Kd.S_drew)); exact Kd.S_mono HO_5.out (fun _ hk => trivial)⟩, ⟨bl_⟩⟩
   ·rw [if_neg c4] at H
    have c4b0 : decide (x4_1 < a0) = false := decide_eq_false c4
    clear c4
    obtain rfl := Option.some.inj H
    go_wp2
    go_ret
    exact ⟨_, re_, pS_ HO_3.out, bl_⟩

end Go.Proofs.YtopbjginpmdebaaDoor.K
-- diagram.Branch: what it answers
namespace Go.Proofs.YtopbjginpmdebaaDoor.K
open Go.RowKit Go.Maps Go.Proofs.YtopbjginpmdebaaDoorW.PrintWords Go.Proofs.YtopbjginpmdebaaDoorW.PrintLast Go.Proofs.YtopbjginpmdebaaDoorW.PrintMore
set_option linter.unusedVariables false
set_option linter.unusedSimpArgs false
/-- the first error of a child -/
def vdE : List S31 → Int
  | [] => 0
  | d :: ds => if valE d.f0 = 0 then vdE ds else valE d.f0
/-- all nodes -/
def flatD (ds : List S31) : List Nd := (ds.map (·.f0)).flatten
def shK (ds : List S31) : Option PM := shp (fun _ => none) (flatD ds)
def lowB (site : Int) (l : List Nd) : Bool := l.all fun n => decide (n.f0 < 0 ∨ site < n.f0)
def rngB (site : Int) (n : Nat) : Bool := decide (0 ≤ site ∧ site < 64 ∧ 1 ≤ n ∧ n ≤ 16)
/-- Branch's error and nodes -/
def brE (site : Int) (ds : List S31) : Int := if rngB site ds.length = true then (if vdE ds = 0 then (if (shK ds).isSome = true then (if lowB site (flatD ds) = true then (if (jn site ds).length ≤ 20000 then 0 else 9) else 2) else 2) else vdE ds) else 1
def brL (site : Int) (ds : List S31) : List Nd := if brE site ds = 0 then jn site ds else []
theorem flatD_snoc (ds : List S31) (d : S31) : flatD (ds ++ [d]) = flatD ds ++ d.f0 := by simp [flatD]
theorem flatD_len (ds : List S31) : (flatD ds).length = sumL ds := by simp [flatD, sumL, List.length_flatten, Function.comp_def]
theorem shp_append : ∀ (a b : List Nd) (g : PM), shp g (a ++ b) = (shp g a).bind fun g' => shp g' b
  | [], b, g => rfl
  | n :: a, b, g => by
    simp only [List.cons_append, shp]
    split
    · exact shp_append a b g
    · split
      · rfl
      · exact shp_append a b _
theorem shK_snoc (ds : List S31) (d : S31) : shK (ds ++ [d]) = (shK ds).bind fun g => shp g d.f0 := by
  unfold shK
  rw [flatD_snoc, shp_append]
theorem shK_take {ds : List S31} {k : Nat} (h : shK (ds.take k) = none) : shK ds = none := by
  have e : flatD ds = flatD (ds.take k) ++ flatD (ds.drop k) := by
    unfold flatD
    rw [List.map_take, List.map_drop, ← List.flatten_append, List.take_append_drop]
  unfold shK at h ⊢
  rw [e]
  exact shp_none _ _ _ h
/-- which sites are noted -/
theorem shp_keys : ∀ (l : List Nd) (g g' : PM), shp g l = some g' → ∀ x, (g' x).isSome = true ↔ ((g x).isSome = true ∨ ∃ n ∈ l, 0 ≤ n.f0 ∧ n.f0 = x)
  | [], g, g', h, x => by
    obtain rfl := Option.some.inj h
    simp
  | n :: l, g, g', h, x => by
    simp only [shp] at h
    by_cases h0 : n.f0 < 0
    · rw [if_pos h0] at h
      rw [shp_keys l g g' h x]
      constructor
      · rintro (h1 | ⟨m, hm, h1⟩)
        · exact .inl h1
        · exact .inr ⟨m, List.mem_cons_of_mem _ hm, h1⟩
      · rintro (h1 | ⟨m, hm, h1⟩)
        · exact .inl h1
        · rcases List.mem_cons.1 hm with rfl | hm
          · omega
          · exact .inr ⟨m, hm, h1⟩
    · rw [if_neg h0] at h
      split at h
      · cases h
      · rw [shp_keys l _ g' h x]
        unfold upd
        by_cases e : x = n.f0
        · rw [if_pos e]
          constructor
          · intro _; exact .inr ⟨n, List.mem_cons_self, by omega, e.symm⟩
          · intro _; exact .inl rfl
        · rw [if_neg e]
          constructor
          · rintro (h1 | ⟨m, hm, h1⟩)
            · exact .inl h1
            · exact .inr ⟨m, List.mem_cons_of_mem _ hm, h1⟩
          · rintro (h1 | ⟨m, hm, h1⟩)
            · exact .inl h1
            · rcases List.mem_cons.1 hm with rfl | hm
              · exact absurd h1.2.symm e
              · exact .inr ⟨m, hm, h1⟩
theorem shK_keys {ds : List S31} {g : PM} (h : shK ds = some g) (x : Int) : (g x).isSome = true ↔ ∃ n ∈ flatD ds, 0 ≤ n.f0 ∧ n.f0 = x := by
  rw [shp_keys _ _ _ h x]; simp
theorem lowB_of {ds : List S31} {g : PM} {site : Int} (h : shK ds = some g) (hk : ∀ x, (g x).isSome = true → site < x) : lowB site (flatD ds) = true := by
  refine List.all_eq_true.2 fun n hn => decide_eq_true ?_
  by_cases h0 : n.f0 < 0
  · exact .inl h0
  · exact .inr (hk _ ((shK_keys h _).2 ⟨n, hn, by omega, rfl⟩))
theorem lowB_bad {ds : List S31} {g : PM} {site x : Int} (h : shK ds = some g) (hk : (g x).isSome = true) (hx : x ≤ site) : lowB site (flatD ds) = false := by
  obtain ⟨n, hn, h0, rfl⟩ := (shK_keys h x).1 hk
  refine List.all_eq_false.2 ⟨n, hn, ?_⟩
  rw [decide_eq_true_eq]; omega
theorem vdE_take : ∀ (ds : List S31) (k : Nat) (hk : k < ds.length), vdE (ds.take k) = 0 → valE (ds[k]).f0 ≠ 0 → vdE ds = valE (ds[k]).f0
  | [], k, hk, _, _ => by simp at hk
  | d :: ds, 0, hk, _, h => by simp only [vdE]; rw [if_neg (by simpa using h)]; rfl
  | d :: ds, k + 1, hk, h1, h2 => by
    simp only [List.take_succ_cons, vdE, List.getElem_cons_succ] at h1 h2 ⊢
    by_cases h0 : valE d.f0 = 0
    · rw [if_pos h0] at h1 ⊢
      exact vdE_take ds k (by simpa using hk) h1 h2
    · rw [if_neg h0] at h1; exact absurd h1 h0
theorem vdE_snoc : ∀ (ds : List S31) (d : S31), vdE ds = 0 → valE d.f0 = 0 → vdE (ds ++ [d]) = 0
  | [], d, _, h => by simp only [List.nil_append, vdE]; rw [if_pos h]
  | e :: ds, d, h1, h2 => by
    simp only [List.cons_append, vdE] at h1 ⊢
    by_cases h0 : valE e.f0 = 0
    · rw [if_pos h0] at h1 ⊢; exact vdE_snoc ds d h1 h2
    · rw [if_neg h0] at h1; exact absurd h1 h0
theorem vdE_all : ∀ {ds : List S31}, vdE ds = 0 → ∀ d ∈ ds, valE d.f0 = 0
  | [], _, d, hd => by cases hd
  | e :: ds, h, d, hd => by
    simp only [vdE] at h
    by_cases h0 : valE e.f0 = 0
    · rw [if_pos h0] at h
      rcases List.mem_cons.1 hd with rfl | hd
      · exact h0
      · exact vdE_all h d hd
    · rw [if_neg h0] at h; exact absurd h h0
theorem vdE_of : ∀ {ds : List S31}, (∀ d ∈ ds, valE d.f0 = 0) → vdE ds = 0
  | [], _ => rfl
  | e :: ds, h => by
    simp only [vdE]
    rw [if_pos (h e List.mem_cons_self)]
    exact vdE_of fun d hd => h d (List.mem_cons_of_mem _ hd)
/-- graphs of one shape -/
theorem shK_sh {ds : List S31} (h : (shK ds).isSome = true) (hg : ∀ d ∈ ds, grB d.f0 = true) : ∃ sh : Int → Nat, ∀ d ∈ ds, GrS sh d.f0 := by
  have hp := ((shp_iff _ _).1 h).2
  have hp' : ∀ a ∈ flatD ds, ∀ b ∈ flatD ds, 0 ≤ a.f0 → a.f0 = b.f0 → a.f2.length = b.f2.length := by
    intro a ha b hb h0 he
    obtain ⟨i, hi, rfl⟩ := List.getElem_of_mem ha
    obtain ⟨j, hj, rfl⟩ := List.getElem_of_mem hb
    rw [List.pairwise_iff_getElem] at hp
    rcases Nat.lt_trichotomy i j with h1 | h1 | h1
    · exact hp i j hi hj h1 h0 he
    · subst h1; rfl
    · exact (hp j i hj hi h1 (by omega) he.symm).symm
  refine ⟨fun s => if hx : ∃ n ∈ flatD ds, n.f0 = s then (Classical.choose hx).f2.length else 0, fun d hd => ⟨fun i hi => ?_⟩⟩
  rcases gr_nd (hg d hd) hi with h1 | h1
  · exact .inl h1
  · refine .inr ⟨h1, ?_⟩
    have hm : nth d.f0 (i : Int) ∈ flatD ds := by
      unfold flatD
      exact List.mem_flatten.2 ⟨d.f0, List.mem_map_of_mem hd, by rw [nth_lt hi]; exact List.getElem_mem hi⟩
    have hx : ∃ n ∈ flatD ds, n.f0 = (nth d.f0 (i : Int)).f0 := ⟨_, hm, rfl⟩
    have hs := Classical.choose_spec hx
    rw [dif_pos hx]
    exact hp' _ hm _ hs.1 (br_iff.1 h1).1.1 hs.2.symm
theorem mem_flatD {ds : List S31} {d : S31} {n : Nd} (hd : d ∈ ds) (hn : n ∈ d.f0) : n ∈ flatD ds := List.mem_flatten.2 ⟨d.f0, List.mem_map_of_mem hd, hn⟩
end Go.Proofs.YtopbjginpmdebaaDoor.K
-- exactpplref19.Fix
namespace Go.Proofs.YtopbjginpmdebaaDoor.K
open Go.RowKit Go.Maps Go.Proofs.YtopbjginpmdebaaDoorW.PrintWords Go.Proofs.YtopbjginpmdebaaDoorW.PrintLast Go.Proofs.YtopbjginpmdebaaDoorW.PrintMore
set_option linter.unusedVariables false
set_option linter.unusedSimpArgs false
/-- a node, its site's outcome fixed -/
def fx1 (site oc : Int) (u : List Nd) (at_ : List Int) (n : Nd) : List Nd × Int := if 0 ≤ n.f0 ∧ n.f0 = site then (u, lk at_ (rd n.f2 oc)) else place1 u at_ n
def fx (site oc : Int) : List Nd → List Int → List Nd → List Nd × List Int
  | u, at_, [] => (u, at_)
  | u, at_, n :: ns => fx site oc (fx1 site oc u at_ n).1 (at_ ++ [(fx1 site oc u at_ n).2]) ns
theorem fx_snoc (site oc : Int) (ns : List Nd) (n : Nd) : ∀ (u : List Nd) (at_ : List Int), fx site oc u at_ (ns ++ [n]) = ((fx1 site oc (fx site oc u at_ ns).1 (fx site oc u at_ ns).2 n).1, (fx site oc u at_ ns).2 ++ [(fx1 site oc (fx site oc u at_ ns).1 (fx site oc u at_ ns).2 n).2]) := by
  induction ns with
  | nil => intro u at_; simp [fx]
  | cons m ns ih => intro u at_; simp only [List.cons_append, fx]; exact ih _ _
theorem fx_len (site oc : Int) (ns : List Nd) : ∀ (u : List Nd) (at_ : List Int), (fx site oc u at_ ns).2.length = at_.length + ns.length := by
  induction ns with
  | nil => intro u at_; simp [fx]
  | cons m ns ih => intro u at_; simp only [fx]; rw [ih]; simp; omega
theorem fx_kids {m : Nat} (site oc : Int) : ∀ (ns : List Nd) (u : List Nd) (at_ : List Int), (∀ x ∈ u, x.f2.length ≤ m) → (∀ n ∈ ns, n.f2.length ≤ m) → ∀ x ∈ (fx site oc u at_ ns).1, x.f2.length ≤ m
  | [], u, at_, h, _ => h
  | n :: ns, u, at_, h, hn => by
    simp only [fx]
    refine fx_kids site oc ns _ _ ?_ (fun x hx => hn x (List.mem_cons_of_mem _ hx))
    unfold fx1
    split
    · exact h
    · exact place1_kids h (hn n List.mem_cons_self)
/-- the outcome is one of the site's -/
def OcOk (site oc : Int) (nodes : List Nd) : Prop := ∀ n ∈ nodes, 0 ≤ n.f0 → n.f0 = site → 0 ≤ oc ∧ oc < (n.f2.length : Int)
theorem rd_mem {l : List Int} {i : Int} (h0 : 0 ≤ i) (h1 : i < (l.length : Int)) : rd l i ∈ l := by
  have hx : i.toNat < l.length := by omega
  unfold rd
  rw [List.getD_eq_getElem?_getD, List.getElem?_eq_getElem hx]; exact List.getElem_mem hx
theorem fx_tbl {ns : List Nd} {site oc : Int} (hf : Fit ns) (ho : OcOk site oc ns) {u : List Nd} (hu : Tbl u []) : ∀ k, k ≤ ns.length → Tbl (fx site oc u [] (ns.take k)).1 (fx site oc u [] (ns.take k)).2 ∧ (fx site oc u [] (ns.take k)).1.length ≤ u.length + k ∧ u <+: (fx site oc u [] (ns.take k)).1 := by
  intro k
  induction k with
  | zero => intro _; simpa [fx] using hu
  | succ k ih =>
    intro hk
    obtain ⟨h1, h2, h3⟩ := ih (by omega)
    have hm : nth ns (k : Int) ∈ ns := by rw [nth_lt (by omega)]; exact List.getElem_mem _
    rw [take_snoc' (by omega), fx_snoc]
    have hl := fx_len site oc (ns.take k) u []
    have hkid : ∀ c ∈ (nth ns (k : Int)).f2, 0 ≤ c ∧ c < (((fx site oc u [] (ns.take k)).2).length : Int) := fun c hc => by
      have := hf.1 k (by omega) c hc
      rw [hl]; simp; omega
    unfold fx1
    by_cases hs : 0 ≤ (nth ns (k : Int)).f0 ∧ (nth ns (k : Int)).f0 = site
    · rw [if_pos hs]
      have hoc := ho _ hm hs.1 hs.2
      refine ⟨⟨h1.down, h1.nodup, fun a ha => ?_⟩, by simp only; omega, h3⟩
      rcases List.mem_append.1 ha with ha | ha
      · exact h1.at_lt a ha
      · rw [List.mem_singleton.1 ha]
        have := hkid _ (rd_mem hoc.1 hoc.2)
        exact h1.at_lt _ (lk_mem this.1 this.2)
    · rw [if_neg hs]
      obtain ⟨h4, h5, h6⟩ := h1.place1 (n := nth ns (k : Int)) hkid (hf.2 _ hm)
      exact ⟨h4, by simp only; omega, h3.trans h5⟩
/-- between two rounds of Fix: the places at block b, the result's cell at c0, the diagram's box at c1 -/
structure FxSt (b c0 c1 : Nat) (w W : World) (A : Option Addr) (N c : Nat) (U : List Nd) (at_ : List Int) (v : Value) : Prop where
  below : Below w.heap.size w W
  row : k60.R 60 W w.heap.size (fun j => j ≠ b ∧ j ≠ c0 ∧ j ≠ c1) v U
  arr : Arr W b (padd at_ N)
  res : W.heap[c0]? = some (.cells #[.slice none 0 0] 31 (0, 0))
  dbox : W.heap[c1]? = some (.cells #[.slice A N c] 31 (0, 0))
theorem FxSt.put {b c0 c1 : Nat} {w W W2 : World} {A : Option Addr} {N c k : Nat} {U U2 : List Nd} {at_ : List Int} {v v2 : Value} {z : Int} (h : FxSt b c0 c1 w W A N c U at_ v) (hb : w.heap.size ≤ b) (hc0 : c0 ≠ b) (hc1 : c1 ≠ b)
    (hR : k60.R 60 W2 w.heap.size (fun j => j ≠ b ∧ j ≠ c0 ∧ j ≠ c1) v2 U2) (hg : W.grownBy W2 v.ownBlock) (hat : at_.length = k) (hk : k < N) : FxSt b c0 c1 w (W2.setCell ⟨b, k, none⟩ (.int .i64 z)) A N c U2 (at_ ++ [z]) v2 := by
  have hvB := Kd.R_base h.row
  have hnb : some b ≠ v.ownBlock := fun e => (h.row.1 _ e.symm).1 rfl
  have ha : Arr W2 b (padd at_ N) := h.arr.move (hg.block _ h.arr.lt hnb)
  refine ⟨?_, Kd.R_far (p := ⟨b, k, none⟩) hR (fun j hj => hj.1) _, ?_, ?_, ?_⟩
  · exact (h.below.trans ⟨hg.os, hg.tape, hg.output, hg.size, fun j hj => hg.block j (Nat.lt_of_lt_of_le hj h.below.size) (fun e => by have := hvB j e.symm; omega)⟩).setCell (p := ⟨b, k, none⟩) hb _
  · have := ha.put k z
    have e := padd_set (l := at_) (n := N) z (by rw [hat]; exact hk)
    rw [hat] at e
    rw [e] at this
    exact this
  · exact (Below.heap_setCell W2 ⟨b, k, none⟩ _ c0 (by show c0 ≠ b; exact hc0)).trans ((hg.block _ (blk_lt h.res) (fun e => (h.row.1 _ e.symm).2.1 rfl)).trans h.res)
  · exact (Below.heap_setCell W2 ⟨b, k, none⟩ _ c1 (by show c1 ≠ b; exact hc1)).trans ((hg.block _ (blk_lt h.dbox) (fun e => (h.row.1 _ e.symm).2.2 rfl)).trans h.dbox)
theorem FxSt.on {b c0 c1 : Nat} {w W W2 : World} {A : Option Addr} {N c : Nat} {U : List Nd} {at_ : List Int} {v : Value} (h : FxSt b c0 c1 w W A N c U at_ v) (hb : Below W.heap.size W W2) : FxSt b c0 c1 w W2 A N c U at_ v :=
  ⟨h.below.trans (hb.mono h.below.size), Kd.R_below h.row hb, h.arr.move (hb.block _ h.arr.lt), (hb.block _ (blk_lt h.res)).trans h.res, (hb.block _ (blk_lt h.dbox)).trans h.dbox⟩
set_option maxHeartbeats 32000000 in
set_option maxRecDepth 100000 in
theorem fix_calls (nodes : List Nd) (site oc : Int) (A : Option Addr) (c : Nat) (w : World) (hC : k60.C w A nodes.length nodes) (hc : nodes.length ≤ c) (hg : grB nodes = true) (ho : OcOk site oc nodes) (hroom : (nodes.length + 2) * 40 ≤ 140737488355328) :
    Calls Tryd.prog 59 #[.agg #[.slice A nodes.length c], .int .i64 site, .int .i64 oc] w (DPost w (expo (fx site oc [] [] nodes).1 (lk (fx site oc [] [] nodes).2 ((nodes.length - 1 : Nat) : Int)))) := by
  have hp := gr_pos hg
  have h0 : FxSt (w.heap.size + 2) (w.heap.size + 1) w.heap.size w (((w.alloc (.cells #[.slice A nodes.length c] 31)).alloc (.cells #[.slice none 0 0] 31)).alloc (.cells (madeCells #[.int .i64 0] nodes.length) 3)) A nodes.length c [] [] (.slice none 0 0) := by
    have e1 : (w.alloc (.cells #[.slice A nodes.length c] 31)).heap.size = w.heap.size + 1 := by simp
    have e2 : ((w.alloc (.cells #[.slice A nodes.length c] 31)).alloc (.cells #[.slice none 0 0] 31)).heap.size = w.heap.size + 2 := by simp
    refine ⟨(((Below.refl _ w).alloc (Nat.le_refl _) _).alloc (by rw [e1]; omega) _).alloc (by rw [e2]; omega) _, Kd.R_nil _ _ _ _ _, ?_, ?_, ?_⟩
    · have := Arr.made ((w.alloc (.cells #[.slice A nodes.length c] 31)).alloc (.cells #[.slice none 0 0] 31)) nodes.length (by omega)
      rw [e2] at this
      simpa [padd] using this
    · refine (Below.heap_alloc _ _ _ (by rw [e2]; omega)).trans ?_
      have := heap_alloc_new (w.alloc (.cells #[.slice A nodes.length c] 31)) (.cells #[.slice none 0 0] 31)
      rwa [e1] at this
    · exact (Below.heap_alloc _ _ _ (by rw [e2]; omega)).trans ((Below.heap_alloc _ _ _ (by rw [e1]; omega)).trans (heap_alloc_new w _))
  have H0 := Lib.hid h0
  have HC := Lib.hid hC
  have HG := Lib.hid hg
  have HO := Lib.hid ho
  obtain ⟨N, hN⟩ : ∃ N, N = nodes.length := ⟨_, rfl⟩
  have HN := Lib.hid hN
  have hmk := print_make (P := Tryd.prog) 22 3 .i64 8 Tryd.underlying22 info3 (by decide) N (by omega)
  rw [← hN] at hroom hc hp H0 ⊢
  have b0 := blk_cell H0.out.dbox 0
  clear hC hg ho hN h0
  have b00 : (w.alloc (Obj.cells #[.slice A N c] 31)).cell? ⟨w.heap.size, 0, none⟩ = some (.slice A N c) := (blk_cell (heap_alloc_new w (.cells #[.slice A N c] 31)) 0).trans rfl
  go_enter Tryd.func59, Tryd.ntmps59
  go_wp2
  go_loopw [7, 9] (fun v i W => ∃ (k : Nat) (vv : Value), vv = v ∧ i = .int .i64 k ∧ k ≤ N ∧ FxSt (w.heap.size + 2) (w.heap.size + 1) w.heap.size w W A N c (fx site oc [] [] (nodes.take k)).1 (fx site oc [] [] (nodes.take k)).2 vv) (fun _ i _ => N - (intOf i).toNat)
  case atStart => exact ⟨0, _, rfl, rfl, Nat.zero_le _, by simpa [fx] using H0.out⟩
  case round =>
    obtain ⟨k, vv, rfl, rfl, hk, hst⟩ := hrel
    obtain ⟨U, hUe⟩ : ∃ U, U = (fx site oc [] [] (nodes.take k)).1 := ⟨_, rfl⟩
    obtain ⟨at_, hae⟩ : ∃ at_, at_ = (fx site oc [] [] (nodes.take k)).2 := ⟨_, rfl⟩
    rw [← hUe, ← hae] at hst
    obtain ⟨Av0, cv0, rfl⟩ := Kd.R_slice hst.row
    have hat : at_.length = k := by rw [hae, fx_len]; simp; have := HN.out; omega
    obtain ⟨tT, tL, -⟩ := fx_tbl (site := site) (oc := oc) (gr_fit HG.out) HO.out tbl_nil k (by have := HN.out; omega)
    rw [← hUe, ← hae] at tT
    rw [← hUe] at tL
    have huk : ∀ x ∈ U, x.f2.length ≤ 1073741824 := by rw [hUe]; exact fx_kids site oc (nodes.take k) [] [] (by simp) (fun x hx => Nat.le_trans (gr_kids HG.out x (List.mem_of_mem_take hx)) (by decide))
    have y0 : wr.cell? ⟨w.heap.size, 0, none⟩ = some (.slice A N c) := (blk_cell hst.dbox 0).trans rfl
    have HST := Lib.hid hst
    have HUE := Lib.hid hUe
    have HAE := Lib.hid hae
    have HAT := Lib.hid hat
    have HT := Lib.hid tT
    have HTL := Lib.hid tL
    have HUK := Lib.hid huk
    have hsz := hst.below.size
    have hab := hst.arr.lt
    clear hst hUe hae hat tT tL huk
    by_cases hlt : k < N
    · have hkn : k < nodes.length := by have := HN.out; omega
      have hnm : nth nodes k ∈ nodes := by rw [nth_lt hkn]; exact List.getElem_mem hkn
      obtain ⟨ad, A2, c2, rfl, d0, d1, d2, l2, g2⟩ := at_T60 (Kd.C_below HC.out HST.out.below) (k : Int) (by omega) (by omega)
      rw [Int.toNat_natCast] at d0 d1 d2
      rw [rd_nth] at d0 d1 d2 l2 g2
      obtain ⟨n, hn⟩ : ∃ n, n = nth nodes (k : Int) := ⟨_, rfl⟩
      rw [← hn] at d0 d1 d2 l2 g2 hnm
      have hI2 : n.f2.length ≤ 16 := gr_kids HG.out n hnm
      have hfrm := gr_frm HG.out n hnm
      have hkids : ∀ c ∈ n.f2, 0 ≤ c ∧ c < (k : Int) := by rw [hn]; exact (gr_fit HG.out).1 k hkn
      have hsucc : fx site oc [] [] (nodes.take (k + 1)) = ((fx1 site oc U at_ n).1, at_ ++ [(fx1 site oc U at_ n).2]) := by rw [take_snoc' hkn, fx_snoc, ← hn, ← HUE.out, ← HAE.out]
      have hkb : k < 4000000000000 := by omega
      have hki : (k : Int) < (N : Int) := by omega
      have hb0 : Below wr.heap.size wr (wr.alloc (.cells #[.int .i64 n.f0, .int .i64 n.f1, .slice A2 n.f2.length c2] 60)) := (Below.refl _ wr).alloc (Nat.le_refl _) _
      have hbx0 := heap_alloc_new wr (.cells #[.int .i64 n.f0, .int .i64 n.f1, .slice A2 n.f2.length c2] 60)
      have hI := exactpplref19_IsBranch.calls n.f0 n.f1 A2 c2 n.f2 _ _ (Kd.C_below g2 hb0) l2 rfl
      obtain ⟨M, hM⟩ : ∃ M, M = n.f2.length := ⟨_, rfl⟩
      have HM := Lib.hid hM
      rw [← hM] at d2 l2 hI2 hI hb0 hbx0
      have hdl := World.block_lt_of_cell? _ _ d0
      have HKIDS := Lib.hid hkids
      have HFRM := Lib.hid hfrm
      have HSUCC := Lib.hid hsucc
      have HNN := Lib.hid hn
      have HNM := Lib.hid hnm
      have HG2 := Lib.hid g2
      have HB0 := Lib.hid hb0
      have HBX0 := Lib.hid hbx0
      clear hkids hfrm hsucc hn hnm hM g2 hb0 hbx0
      by_cases hlf : n.f0 = -1
      · have hnb : (n.f0 != -1) = false := by simp [hlf]
        rw [hnb] at hI
        have HFX := Lib.hid (show fx1 site oc U at_ n = place1 U at_ n from by unfold fx1; rw [if_neg (by omega)])
        clear hnb hlf
        go_wp2_with (go_at_call 55; refine hI.mono ?_; clear hI; rintro e w1 ⟨rfl, hb1⟩; have HB1 := Lib.hid (HB0.out.trans (hb1.mono (by simp))); have hbx1 := (hb1.block wr.heap.size (by simp)).trans HBX0.out; have hlt1 := blk_lt hbx1; have x0 : w1.cell? ⟨wr.heap.size, 0, none⟩ = some (.int .i64 n.f0) := (blk_cell hbx1 0).trans rfl; have x1 : w1.cell? ⟨wr.heap.size, 1, none⟩ = some (.int .i64 n.f1) := (blk_cell hbx1 1).trans rfl; have x2 : w1.cell? ⟨wr.heap.size, 2, none⟩ = some (.slice A2 M c2) := (blk_cell hbx1 2).trans rfl; have HBX1 := Lib.hid hbx1; clear hb1 hbx1)
        obtain ⟨wo, rfl⟩ : ∃ wo : World, wo = wr := ⟨_, rfl⟩
        go_loopw [12] (fun i W => ∃ (j : Nat) (v : Value), i = .int .i64 j ∧ j ≤ M ∧ NdSt w1 W n.f0 n.f1 ((n.f2.take j).map (lk at_)) v) (fun i _ => M - (intOf i).toNat)
        case atStart => exact ⟨0, _, rfl, Nat.zero_le _, NdSt.first w1 n.f0 n.f1⟩
        case round =>
          obtain ⟨j, v, rfl, hj, hnd⟩ := hrel
          obtain ⟨l, hl⟩ : ∃ l, l = (n.f2.take j).map (lk at_) := ⟨_, rfl⟩
          rw [← hl] at hnd
          have hll : l.length = j := by rw [hl]; simp; have := HM.out; omega
          obtain ⟨Av, cv, rfl⟩ := Kd.R_slice hnd.row
          have hbW := hnd.below
          have hsW := hbW.size
          have hmW := blk_lt hnd.box
          have bm2 : wr.cell? ⟨w1.heap.size, 2, none⟩ = some (.slice Av l.length cv) := (blk_cell hnd.box 2).trans rfl
          have fm2 := blk_frozen hnd.box 2
          replace x2 := pw_cell_below hbW x2
          have HND := Lib.hid hnd
          have HBW := Lib.hid (HB1.out.trans (hbW.mono HB1.out.size))
          have HLL := Lib.hid hl
          have HLK := Lib.hid hll
          have hlb : l.length ≤ 1073741824 := by omega
          have hjb : j ≤ 1073741824 := by omega
          clear hl hll hnd hbW
          by_cases hjl : j < M
          · have hjn : j < n.f2.length := by have := HM.out; omega
            obtain ⟨ad2, rfl, hkc⟩ := reads_at (Kd.C_below HG2.out HBW.out) (by intro e; rw [e] at hjn; simp at hjn)
            have e0 := hkc j hjn
            have hcm : n.f2.getD j 0 ∈ n.f2 := by rw [List.getD_eq_getElem?_getD, List.getElem?_eq_getElem hjn]; exact List.getElem_mem hjn
            obtain ⟨hc0, hc1⟩ := HKIDS.out _ hcm
            obtain ⟨cn, hcn⟩ : ∃ cn : Nat, n.f2.getD j 0 = cn := ⟨(n.f2.getD j 0).toNat, by omega⟩
            rw [hcn] at e0 hc1
            have hcN : cn < N := by omega
            have hcNi : (cn : Int) < (N : Int) := by omega
            have hcb : cn < 4000000000000 := by omega
            have hji : (j : Int) < (M : Int) := by omega
            have e1 := (HST.out.arr.move (HBW.out.block _ hab)).at cn (by rw [padd_len (by rw [HAT.out]; omega)]; omega)
            rw [padd_get (by rw [HAT.out]; omega)] at e1
            have e2 := e1.1
            obtain ⟨y, hy⟩ : ∃ y, y = at_.getD cn 0 := ⟨_, rfl⟩
            rw [← hy] at e2
            have HY := Lib.hid hy
            have HCN := Lib.hid hcn
            have HR2 := Lib.hid HND.out.row
            clear e1 hcm hcn hkc hy
            go_wp2
            go_region_law (((refine Kd.R_append_step (Kd.int .i64) (w0 := wr) (W := wr.drew) (w1.heap.size + 1) (by rfl) (.tmp 61) (.tmp 70) 22 3 (.int .i64 0) 8 rfl Tryd.underlying22 info3 rfl (by decide) (by decide) (.slice Av l.length cv) l y [.int .i64 y] (fun k => w1.heap.size < k) (fun _ => False) (by rfl) (by rfl) rfl (fun _ h => h.elim) (fun k hk => Nat.lt_of_lt_of_le hmW hk) HR2.out (Below.refl _ _).drew hmW (by omega) ?_; intro v5 w5 hR5 hB5 hg5 hat5; obtain ⟨A5, c5, rfl⟩ := Kd.R_slice hR5; have hbx5 := (hB5.block w1.heap.size (Nat.lt_succ_self _)).trans HND.out.box; have q1 := blk_cell hbx5 2; have q2 := blk_frozen hbx5 2)))
            all_goals
              rw [List.length_append, List.length_singleton] at hR5
              have HR5 := Lib.hid hR5
              have HB5 := Lib.hid hB5
              clear hR5 hB5 hg5 hat5 hbx5
              go_wp2
              go_roundw
              case rel =>
                refine ⟨j + 1, .slice A5 (l.length + 1) c5, by go_num, hjl, ?_⟩
                have h3 : (n.f2.take (j + 1)).map (lk at_) = l ++ [y] := by
                  rw [List.take_succ_eq_append_getElem hjn, List.map_append, ← HLL.out]
                  congr 1
                  have : n.f2[j] = (cn : Int) := by
                    have := HCN.out
                    rw [List.getD_eq_getElem?_getD, List.getElem?_eq_getElem hjn] at this
                    exact this
                  simp [lk, this, HY.out]
                rw [h3]
                exact HND.out.next HR5.out HB5.out
              case measure => simp [intOf]; omega
          · have ej : j = M := by omega
            have hKL : l = n.f2.map (lk at_) := by rw [HLL.out, ej, List.take_of_length_le (l := n.f2) (i := M) (by have := HM.out; omega)]
            have hpl : plR U ⟨n.f0, n.f1, l⟩ = fx1 site oc U at_ n := by rw [hKL, HFX.out]; exact plR_place1 HFRM.out
            have hne : n.f0 ≠ -1 → l ≠ [] := by
              intro h0 e
              rcases HFRM.out with ⟨h1, _⟩ | ⟨_, _, h1⟩
              · exact h0 h1
              · rw [hKL] at e; exact h1 (by simpa using e)
            have hsW' := HBW.out.size
            have hst2 := HST.out.on HBW.out
            have hA := (place_calls w.heap.size (fun j => j ≠ w.heap.size + 2 ∧ j ≠ w.heap.size + 1 ∧ j ≠ w.heap.size) (fun j => w1.heap.size < j) U ⟨n.f0, n.f1, l⟩ Av0 Av cv0 cv wr hst2.below.size hst2.row (Kd.R_lower HND.out.row (by omega)) (fun j hj => ⟨⟨by omega, by omega, by omega⟩, fun e => by have := Kd.R_lt HST.out.row _ e.symm; omega⟩) hne (by show l.length ≤ _; omega) (by have := HTL.out; simp at this; omega) HUK.out (fun j hj => ⟨by omega, by omega, by omega⟩)).mono (R' := fun e w2 => ∃ v', e = .returned (.tuple #[v', .int .i64 (fx1 site oc U at_ n).2]) ∧
                k60.R 60 w2 w.heap.size (fun j => j ≠ w.heap.size + 2 ∧ j ≠ w.heap.size + 1 ∧ j ≠ w.heap.size) v' (fx1 site oc U at_ n).1 ∧ wo.grownBy w2 (Value.slice Av0 U.length cv0).ownBlock ∧ (∃ v, w2.cell? ⟨w.heap.size + 2, k, none⟩ = some (.int .i64 v)) ∧ w2.frozen? ⟨w.heap.size + 2, k, none⟩ = false) (by
              rintro e w2 ⟨v', rfl, h2, h3, h4⟩
              rw [hpl] at h2 ⊢
              have h5 := World.grownBy.trans (grown_below' HBW.out) h3
              have h6 := (HST.out.arr.move (h5.block _ hab (fun e => (HST.out.row.1 _ e.symm).1 rfl))).at k (by rw [padd_len (by rw [HAT.out]; omega)]; exact hlt)
              exact ⟨v', rfl, h2, h5, ⟨_, h6.1⟩, h6.2⟩)
            dsimp only at hA
            obtain ⟨r, hr⟩ : ∃ r, r = fx1 site oc U at_ n := ⟨_, rfl⟩
            rw [← hr] at hA
            have HR := Lib.hid hr
            have bm0 : wr.cell? ⟨w1.heap.size, 0, none⟩ = some (.int .i64 n.f0) := (blk_cell HND.out.box 0).trans rfl
            have bm1 : wr.cell? ⟨w1.heap.size, 1, none⟩ = some (.int .i64 n.f1) := (blk_cell HND.out.box 1).trans rfl
            clear hr hpl hne hKL ej hst2
            go_wp2_with (go_at_call 72; refine hA.mono ?_; clear hA; rintro e w2 ⟨v2, rfl, hR2, hg2, ⟨vc, hvc⟩, hfc⟩; have HR2 := Lib.hid hR2; have HGG := Lib.hid hg2; clear hR2 hg2)
            go_roundw
            case rel =>
              refine ⟨k + 1, v2, rfl, by go_num, hlt, ?_⟩
              rw [HSUCC.out, ← HR.out]
              exact HST.out.put (by omega) (by omega) (by omega) HR2.out HGG.out HAT.out hlt
            case measure => simp [intOf]; omega
      · have hnb : (n.f0 != -1) = true := by simp [hlf]
        rw [hnb] at hI
        have hpos : 0 ≤ n.f0 := by rcases HFRM.out with h | h; exact absurd h.1 hlf; exact h.1
        by_cases hsite : n.f0 = site
        · have hoc := HO.out n HNM.out hpos hsite
          have HFX := Lib.hid (show fx1 site oc U at_ n = (U, lk at_ (rd n.f2 oc)) from by unfold fx1; rw [if_pos ⟨hpos, hsite⟩])
          obtain ⟨oN, rfl⟩ : ∃ oN : Nat, oc = oN := ⟨oc.toNat, by omega⟩
          have hoN : oN < n.f2.length := by omega
          obtain ⟨ad2, rfl, hkc⟩ := reads_at HG2.out (by intro e; rw [e] at hoN; simp at hoN)
          have e0 := hkc oN hoN
          obtain ⟨hc0, hc1⟩ := HKIDS.out _ (rd_mem hoc.1 hoc.2)
          have hrd : rd n.f2 (oN : Int) = n.f2.getD oN 0 := by unfold rd; rw [Int.toNat_natCast]
          rw [hrd] at hc0 hc1
          obtain ⟨cn, hcn⟩ : ∃ cn : Nat, n.f2.getD oN 0 = cn := ⟨(n.f2.getD oN 0).toNat, by omega⟩
          rw [hcn] at e0 hc1
          have hcN : cn < N := by omega
          have hcNi : (cn : Int) < (N : Int) := by omega
          have hcb : cn < 4000000000000 := by omega
          have hoM : oN < M := by have := HM.out; omega
          have hoMi : (oN : Int) < (M : Int) := by omega
          have hob : oN < 4000000000000 := by omega
          have p0 := HST.out.arr.at cn (by rw [padd_len (by rw [HAT.out]; omega)]; omega)
          rw [padd_get (by rw [HAT.out]; omega)] at p0
          have p1 := p0.1
          have p2 := HST.out.arr.at k (by rw [padd_len (by rw [HAT.out]; omega)]; omega)
          obtain ⟨y, hy⟩ : ∃ y, y = at_.getD cn 0 := ⟨_, rfl⟩
          rw [← hy] at p1
          have hyl : lk at_ (rd n.f2 (oN : Int)) = y := by rw [hrd, hcn, hy]; unfold lk; rw [Int.toNat_natCast]
          have HYL := Lib.hid hyl
          have hsb : (n.f0 == site) = true := by simp [hsite]
          have hke := HKIDS
          clear hoc hkc hrd hcn hy hyl p0 hnb hc0
          obtain ⟨z, hz⟩ : ∃ z, wr.cell? ⟨w.heap.size + 2, k, none⟩ = some (.int .i64 z) := ⟨_, p2.1⟩
          have hf := p2.2
          have HSITE := Lib.hid hsite
          clear p2 hsite hlf
          go_wp2_with (go_at_call 55; refine hI.mono ?_; clear hI; rintro e w1 ⟨rfl, hb1⟩; have HB1 := Lib.hid (HB0.out.trans (hb1.mono (by simp))); have hbx1 := (hb1.block wr.heap.size (by simp)).trans HBX0.out; have hlt1 := blk_lt hbx1; have x0 : w1.cell? ⟨wr.heap.size, 0, none⟩ = some (.int .i64 n.f0) := (blk_cell hbx1 0).trans rfl; have x1 : w1.cell? ⟨wr.heap.size, 1, none⟩ = some (.int .i64 n.f1) := (blk_cell hbx1 1).trans rfl; have x2 : w1.cell? ⟨wr.heap.size, 2, none⟩ = some (.slice (some ad2) M c2) := (blk_cell hbx1 2).trans rfl; have e0 := pw_cell_below HB1.out e0; have p1 := pw_cell_below HB1.out p1; have hz := pw_cell_below HB1.out hz; have hst1 := HST.out.on HB1.out; have hf := (hst1.arr.at k (by rw [padd_len (by rw [HAT.out]; omega)]; omega)).2; have HST1 := Lib.hid hst1; clear hb1 hbx1 hst1)
          go_roundw
          case rel =>
            refine ⟨k + 1, .slice Av0 U.length cv0, rfl, by go_num, hlt, ?_⟩
            rw [HSUCC.out, HFX.out, HYL.out]
            exact HST1.out.put (by omega) (by omega) (by omega) HST1.out.row (World.grownBy.refl _ _) HAT.out hlt
          case measure => simp [intOf]; omega
        · have hsb : (n.f0 == site) = false := by simp [hsite]
          have HFX := Lib.hid (show fx1 site oc U at_ n = place1 U at_ n from by unfold fx1; rw [if_neg (fun h => hsite h.2)])
          clear hnb hlf hsite
          go_wp2_with (go_at_call 55; refine hI.mono ?_; clear hI; rintro e w1 ⟨rfl, hb1⟩; have HB1 := Lib.hid (HB0.out.trans (hb1.mono (by simp))); have hbx1 := (hb1.block wr.heap.size (by simp)).trans HBX0.out; have hlt1 := blk_lt hbx1; have x0 : w1.cell? ⟨wr.heap.size, 0, none⟩ = some (.int .i64 n.f0) := (blk_cell hbx1 0).trans rfl; have x1 : w1.cell? ⟨wr.heap.size, 1, none⟩ = some (.int .i64 n.f1) := (blk_cell hbx1 1).trans rfl; have x2 : w1.cell? ⟨wr.heap.size, 2, none⟩ = some (.slice A2 M c2) := (blk_cell hbx1 2).trans rfl; have HBX1 := Lib.hid hbx1; clear hb1 hbx1)
          obtain ⟨wo, rfl⟩ : ∃ wo : World, wo = wr := ⟨_, rfl⟩
          go_loopw [12] (fun i W => ∃ (j : Nat) (v : Value), i = .int .i64 j ∧ j ≤ M ∧ NdSt w1 W n.f0 n.f1 ((n.f2.take j).map (lk at_)) v) (fun i _ => M - (intOf i).toNat)
          case atStart => exact ⟨0, _, rfl, Nat.zero_le _, NdSt.first w1 n.f0 n.f1⟩
          case round =>
            obtain ⟨j, v, rfl, hj, hnd⟩ := hrel
            obtain ⟨l, hl⟩ : ∃ l, l = (n.f2.take j).map (lk at_) := ⟨_, rfl⟩
            rw [← hl] at hnd
            have hll : l.length = j := by rw [hl]; simp; have := HM.out; omega
            obtain ⟨Av, cv, rfl⟩ := Kd.R_slice hnd.row
            have hbW := hnd.below
            have hsW := hbW.size
            have hmW := blk_lt hnd.box
            have bm2 : wr.cell? ⟨w1.heap.size, 2, none⟩ = some (.slice Av l.length cv) := (blk_cell hnd.box 2).trans rfl
            have fm2 := blk_frozen hnd.box 2
            replace x2 := pw_cell_below hbW x2
            have HND := Lib.hid hnd
            have HBW := Lib.hid (HB1.out.trans (hbW.mono HB1.out.size))
            have HLL := Lib.hid hl
            have HLK := Lib.hid hll
            have hlb : l.length ≤ 1073741824 := by omega
            have hjb : j ≤ 1073741824 := by omega
            clear hl hll hnd hbW
            by_cases hjl : j < M
            · have hjn : j < n.f2.length := by have := HM.out; omega
              obtain ⟨ad2, rfl, hkc⟩ := reads_at (Kd.C_below HG2.out HBW.out) (by intro e; rw [e] at hjn; simp at hjn)
              have e0 := hkc j hjn
              have hcm : n.f2.getD j 0 ∈ n.f2 := by rw [List.getD_eq_getElem?_getD, List.getElem?_eq_getElem hjn]; exact List.getElem_mem hjn
              obtain ⟨hc0, hc1⟩ := HKIDS.out _ hcm
              obtain ⟨cn, hcn⟩ : ∃ cn : Nat, n.f2.getD j 0 = cn := ⟨(n.f2.getD j 0).toNat, by omega⟩
              rw [hcn] at e0 hc1
              have hcN : cn < N := by omega
              have hcNi : (cn : Int) < (N : Int) := by omega
              have hcb : cn < 4000000000000 := by omega
              have hji : (j : Int) < (M : Int) := by omega
              have e1 := (HST.out.arr.move (HBW.out.block _ hab)).at cn (by rw [padd_len (by rw [HAT.out]; omega)]; omega)
              rw [padd_get (by rw [HAT.out]; omega)] at e1
              have e2 := e1.1
              obtain ⟨y, hy⟩ : ∃ y, y = at_.getD cn 0 := ⟨_, rfl⟩
              rw [← hy] at e2
              have HY := Lib.hid hy
              have HCN := Lib.hid hcn
              have HR2 := Lib.hid HND.out.row
              clear e1 hcm hcn hkc hy
              go_wp2
              go_region_law (((refine Kd.R_append_step (Kd.int .i64) (w0 := wr) (W := wr.drew) (w1.heap.size + 1) (by rfl) (.tmp 61) (.tmp 70) 22 3 (.int .i64 0) 8 rfl Tryd.underlying22 info3 rfl (by decide) (by decide) (.slice Av l.length cv) l y [.int .i64 y] (fun k => w1.heap.size < k) (fun _ => False) (by rfl) (by rfl) rfl (fun _ h => h.elim) (fun k hk => Nat.lt_of_lt_of_le hmW hk) HR2.out (Below.refl _ _).drew hmW (by omega) ?_; intro v5 w5 hR5 hB5 hg5 hat5; obtain ⟨A5, c5, rfl⟩ := Kd.R_slice hR5; have hbx5 := (hB5.block w1.heap.size (Nat.lt_succ_self _)).trans HND.out.box; have q1 := blk_cell hbx5 2; have q2 := blk_frozen hbx5 2)))
              all_goals
                rw [List.length_append, List.length_singleton] at hR5
                have HR5 := Lib.hid hR5
                have HB5 := Lib.hid hB5
                clear hR5 hB5 hg5 hat5 hbx5
                go_wp2
                go_roundw
                case rel =>
                  refine ⟨j + 1, .slice A5 (l.length + 1) c5, by go_num, hjl, ?_⟩
                  have h3 : (n.f2.take (j + 1)).map (lk at_) = l ++ [y] := by
                    rw [List.take_succ_eq_append_getElem hjn, List.map_append, ← HLL.out]
                    congr 1
                    have : n.f2[j] = (cn : Int) := by
                      have := HCN.out
                      rw [List.getD_eq_getElem?_getD, List.getElem?_eq_getElem hjn] at this
                      exact this
                    simp [lk, this, HY.out]
                  rw [h3]
                  exact HND.out.next HR5.out HB5.out
                case measure => simp [intOf]; omega
            · have ej : j = M := by omega
              have hKL : l = n.f2.map (lk at_) := by rw [HLL.out, ej, List.take_of_length_le (l := n.f2) (i := M) (by have := HM.out; omega)]
              have hpl : plR U ⟨n.f0, n.f1, l⟩ = fx1 site oc U at_ n := by rw [hKL, HFX.out]; exact plR_place1 HFRM.out
              have hne : n.f0 ≠ -1 → l ≠ [] := by
                intro h0 e
                rcases HFRM.out with ⟨h1, _⟩ | ⟨_, _, h1⟩
                · exact h0 h1
                · rw [hKL] at e; exact h1 (by simpa using e)
              have hsW' := HBW.out.size
              have hst2 := HST.out.on HBW.out
              have hA := (place_calls w.heap.size (fun j => j ≠ w.heap.size + 2 ∧ j ≠ w.heap.size + 1 ∧ j ≠ w.heap.size) (fun j => w1.heap.size < j) U ⟨n.f0, n.f1, l⟩ Av0 Av cv0 cv wr hst2.below.size hst2.row (Kd.R_lower HND.out.row (by omega)) (fun j hj => ⟨⟨by omega, by omega, by omega⟩, fun e => by have := Kd.R_lt HST.out.row _ e.symm; omega⟩) hne (by show l.length ≤ _; omega) (by have := HTL.out; simp at this; omega) HUK.out (fun j hj => ⟨by omega, by omega, by omega⟩)).mono (R' := fun e w2 => ∃ v', e = .returned (.tuple #[v', .int .i64 (fx1 site oc U at_ n).2]) ∧
                  k60.R 60 w2 w.heap.size (fun j => j ≠ w.heap.size + 2 ∧ j ≠ w.heap.size + 1 ∧ j ≠ w.heap.size) v' (fx1 site oc U at_ n).1 ∧ wo.grownBy w2 (Value.slice Av0 U.length cv0).ownBlock ∧ (∃ v, w2.cell? ⟨w.heap.size + 2, k, none⟩ = some (.int .i64 v)) ∧ w2.frozen? ⟨w.heap.size + 2, k, none⟩ = false) (by
                rintro e w2 ⟨v', rfl, h2, h3, h4⟩
                rw [hpl] at h2 ⊢
                have h5 := World.grownBy.trans (grown_below' HBW.out) h3
                have h6 := (HST.out.arr.move (h5.block _ hab (fun e => (HST.out.row.1 _ e.symm).1 rfl))).at k (by rw [padd_len (by rw [HAT.out]; omega)]; exact hlt)
                exact ⟨v', rfl, h2, h5, ⟨_, h6.1⟩, h6.2⟩)
              dsimp only at hA
              obtain ⟨r, hr⟩ : ∃ r, r = fx1 site oc U at_ n := ⟨_, rfl⟩
              rw [← hr] at hA
              have HR := Lib.hid hr
              have bm0 : wr.cell? ⟨w1.heap.size, 0, none⟩ = some (.int .i64 n.f0) := (blk_cell HND.out.box 0).trans rfl
              have bm1 : wr.cell? ⟨w1.heap.size, 1, none⟩ = some (.int .i64 n.f1) := (blk_cell HND.out.box 1).trans rfl
              clear hr hpl hne hKL ej hst2
              go_wp2_with (go_at_call 72; refine hA.mono ?_; clear hA; rintro e w2 ⟨v2, rfl, hR2, hg2, ⟨vc, hvc⟩, hfc⟩; have HR2 := Lib.hid hR2; have HGG := Lib.hid hg2; clear hR2 hg2)
              go_roundw
              case rel =>
                refine ⟨k + 1, v2, rfl, by go_num, hlt, ?_⟩
                rw [HSUCC.out, ← HR.out]
                exact HST.out.put (by omega) (by omega) (by omega) HR2.out HGG.out HAT.out hlt
              case measure => simp [intOf]; omega
    · have hke : k = N := by omega
      have htk : nodes.take k = nodes := List.take_of_length_le (by have := HN.out; omega)
      have hU1 := HUE.out
      have ha1 := HAE.out
      rw [htk] at hU1 ha1
      obtain ⟨R, hR⟩ : ∃ R : Nat, lk (fx site oc [] [] nodes).2 ((nodes.length - 1 : Nat) : Int) = (R : Int) ∧ R < U.length := by
        have h1 := HT.out.at_lt _ (lk_mem (at_ := at_) (c := ((nodes.length - 1 : Nat) : Int)) (by omega) (by rw [HAT.out]; have := HN.out; omega))
        rw [ha1] at h1
        exact ⟨(lk (fx site oc [] [] nodes).2 ((nodes.length - 1 : Nat) : Int)).toNat, by omega, by omega⟩
      have p0 := (HST.out.arr.at (N - 1) (by rw [padd_len (by rw [HAT.out]; omega)]; omega)).1
      rw [padd_get (by rw [HAT.out]; omega)] at p0
      have hlR : at_.getD (N - 1) 0 = (R : Int) := by
        have := hR.1
        unfold lk at this
        rw [Int.toNat_natCast, ← ha1, ← HN.out] at this
        exact this
      rw [hlR] at p0
      have hNb : N < 4000000000000 := by omega
      have e1 : (N : Int) - 1 = ((N - 1 : Nat) : Int) := by omega
      have hN1 : N - 1 < N := by omega
      clear b0 b00
      have hcu := (Kd.R_reads' HST.out.row).2.1
      have HCU := Lib.hid (Kd.R_reads' HST.out.row).2.2
      have HF1 := Lib.hid hU1
      have HF2 := Lib.hid hR
      clear hR hU1 ha1 htk hlR hke
      go_wp2_with (go_at_call 73; refine (order_calls U R Av0 cv0 wr HCU.out hcu HT.out.down HF2.out.2 HUK.out (by have := HTL.out; simp at this; omega)).mono ?_; rintro e w3 ⟨hb3, vo, rfl, hR3⟩; obtain ⟨A3, c3, rfl⟩ := Kd.R_slice hR3; have hbx3 := (hb3.block _ (blk_lt HST.out.res)).trans HST.out.res; have b0 := blk_cell hbx3 0; have f0 := blk_frozen hbx3 0; have HBX3 := Lib.hid hbx3; have HB3 := Lib.hid hb3; have HR3 := Lib.hid hR3; clear hbx3 hb3 hR3)
      have hb4 := blk_set HBX3.out 0 (.slice A3 (expo U (R : Nat)).length c3)
      have q0 := (blk_cell hb4 0).trans rfl
      have hl2 := blk_lt HST.out.res
      refine bodyPost_ret (v := .agg #[.slice A3 (expo U (R : Nat)).length c3]) (by simp [results, Tryd.f59, go_sem, q0]) rfl ⟨(HST.out.below.trans (HB3.out.mono hsz)).setCell (p := ⟨w.heap.size + 1, 0, none⟩) (by show w.heap.size ≤ w.heap.size + 1; omega) _, _, rfl, ?_⟩
      have hRe := HF2.out.1
      rw [← HN.out] at hRe
      rw [hRe, ← HF1.out]
      exact Kd.R_lower (Kd.R_mono (Kd.R_far (p := ⟨w.heap.size + 1, 0, none⟩) (Kd.R_bound HR3.out) (fun q hq => by show q ≠ w.heap.size + 1; have := hq.2.1; omega) _) (fun _ _ => trivial)) hsz
end Go.Proofs.YtopbjginpmdebaaDoor.K
-- diagram.Restrict
namespace Go.Proofs.YtopbjginpmdebaaDoor.K
open Go.RowKit Go.Maps Go.Proofs.YtopbjginpmdebaaDoorW.PrintWords Go.Proofs.YtopbjginpmdebaaDoorW.PrintLast Go.Proofs.YtopbjginpmdebaaDoorW.PrintMore
set_option linter.unusedVariables false
set_option linter.unusedSimpArgs false
/-- a node's outcome is one of the site's -/
def oc1 (site oc : Int) (n : Nd) : Bool := !(decide (0 ≤ n.f0 ∧ n.f0 = site)) || decide (0 ≤ oc ∧ oc < (n.f2.length : Int))
def ocB (site oc : Int) (nodes : List Nd) : Bool := nodes.all (oc1 site oc)
theorem ocB_iff {site oc : Int} {nodes : List Nd} : ocB site oc nodes = true ↔ OcOk site oc nodes := by
  unfold ocB OcOk oc1
  rw [List.all_eq_true]
  constructor
  · intro h n hn h0 h1
    have := h n hn
    simp only [Bool.or_eq_true, Bool.not_eq_true', decide_eq_false_iff_not, decide_eq_true_eq] at this
    rcases this with h2 | h2
    · exact absurd ⟨h0, h1⟩ h2
    · exact h2
  · intro h n hn
    simp only [Bool.or_eq_true, Bool.not_eq_true', decide_eq_false_iff_not, decide_eq_true_eq]
    by_cases h2 : 0 ≤ n.f0 ∧ n.f0 = site
    · exact .inr (h n hn h2.1 h2.2)
    · exact .inl h2
/-- what Restrict returns -/
def fxR (site oc : Int) (nodes : List Nd) : List Nd := expo (fx site oc [] [] nodes).1 (lk (fx site oc [] [] nodes).2 ((nodes.length - 1 : Nat) : Int))
def rsE (site oc : Int) (nodes : List Nd) : Int := if valE nodes = 0 then (if ocB site oc nodes = true then 0 else 1) else valE nodes
def rsL (site oc : Int) (nodes : List Nd) : List Nd := if valE nodes = 0 then (if ocB site oc nodes = true then fxR site oc nodes else []) else []
/-- between two nodes: a table, the places at block b = w's size -/
structure TbSt (w W : World) (base t mb : Nat) (ok : Nat → Prop) (U : List Nd) (at_ : List Int) (N : Nat) : Prop where
  tab : TabS W base t mb (fun j => ok j ∧ j ≠ w.heap.size) U
  touch : Touch w W ok t mb
  arr : Arr W w.heap.size (padd at_ N)
theorem TbSt.arr2 {w W W2 : World} {base t mb N : Nat} {ok : Nat → Prop} {U : List Nd} {at_ : List Int} (h : TbSt w W base t mb ok U at_ N) (ht : t < w.heap.size) (hmb : mb < w.heap.size) (hTc : Touch W W2 (fun j => ok j ∧ j ≠ w.heap.size) t mb) : Arr W2 w.heap.size (padd at_ N) :=
  h.arr.move (hTc.same _ h.arr.lt (fun e => e.2 rfl) (by omega) (by omega))
theorem TbSt.next {w W W2 : World} {base t mb N k : Nat} {ok : Nat → Prop} {U U2 : List Nd} {at_ : List Int} {z : Int} (h : TbSt w W base t mb ok U at_ N) (ht : t < w.heap.size) (hmb : mb < w.heap.size) (hTc : Touch W W2 (fun j => ok j ∧ j ≠ w.heap.size) t mb)
    (hT : TabS W2 base t mb (fun j => ok j ∧ j ≠ w.heap.size) U2) (hat : at_.length = k) (hk : k < N) : TbSt w (W2.setCell ⟨w.heap.size, k, none⟩ (.int .i64 z)) base t mb ok U2 (at_ ++ [z]) N := by
  have ha := h.arr2 ht hmb hTc
  have hto := h.touch.trans (hTc.mono (fun _ e => e.1))
  refine ⟨?_, ⟨hto.os, hto.tape, hto.output, Nat.le_trans hto.size (by simp [World.setCell]), fun j hj ho hjt hm => ?_⟩, ?_⟩
  · refine hT.move fun j hj hjk => Below.heap_setCell W2 _ _ j ?_
    rcases hjk with hjk | hjk | hjk
    · exact hjk.2
    · show j ≠ w.heap.size; omega
    · show j ≠ w.heap.size; omega
  · exact (Below.heap_setCell W2 ⟨w.heap.size, k, none⟩ _ j (by show j ≠ w.heap.size; omega)).trans (hto.same j hj ho hjt hm)
  · have := ha.put k z
    have e := padd_set (l := at_) (n := N) z (by rw [hat]; exact hk)
    rw [hat] at e
    rw [e] at this
    exact this
theorem TbSt.first {w : World} {base t mb : Nat} {ok : Nat → Prop} {U : List Nd} (hT : TabS w base t mb ok U) (N : Nat) (hN : N ≤ 9223372036854775807) : TbSt w (w.alloc (.cells (madeCells #[.int .i64 0] N) 3)) base t mb ok U [] N := by
  have hb := (Below.refl w.heap.size w).alloc (Nat.le_refl _) (.cells (madeCells #[.int .i64 0] N) 3)
  refine ⟨?_, Touch.of_below hb _ _ _, ?_⟩
  · obtain ⟨v, h1, h2, h3⟩ := hT
    refine ⟨v, (hb.block _ (blk_lt h1)).trans h1, ?_, h3.move (hb.block _ h3.lt)⟩
    exact Kd.R_step (Kd.R_mono (Kd.R_bound h2) (fun k hk => ⟨hk.1, by have := hk.2.2.1; omega⟩)) (fun k _ hk => hb.block k hk)
  · have := Arr.made w N hN
    simpa [padd] using this
theorem take_mem_oc {site oc : Int} {nodes : List Nd} {k : Nat} (hk : k < nodes.length) (h : OcOk site oc (nodes.take k)) (h1 : 0 ≤ (nth nodes (k : Int)).f0 → (nth nodes (k : Int)).f0 = site → 0 ≤ oc ∧ oc < ((nth nodes (k : Int)).f2.length : Int)) : OcOk site oc (nodes.take (k + 1)) := by
  intro n hn
  rw [take_snoc' hk] at hn
  rcases List.mem_append.1 hn with hn | hn
  · exact h n hn
  · rw [List.mem_singleton.1 hn]; exact h1
theorem fit_take {nodes : List Nd} (h : Fit nodes) (k : Nat) : Fit (nodes.take k) := ⟨down_take h.1 k, fun n hn => h.2 n (List.mem_of_mem_take hn)⟩
theorem fx_tbl' {nodes : List Nd} {site oc : Int} (hf : Fit nodes) {k : Nat} (hk : k ≤ nodes.length) (ho : OcOk site oc (nodes.take k)) : Tbl (fx site oc [] [] (nodes.take k)).1 (fx site oc [] [] (nodes.take k)).2 ∧ (fx site oc [] [] (nodes.take k)).1.length ≤ k := by
  have hl : (nodes.take k).length = k := by simp; omega
  have := fx_tbl (site := site) (oc := oc) (fit_take hf k) ho tbl_nil k (by omega)
  rw [List.take_take, Nat.min_self] at this
  exact ⟨this.1, by simpa using this.2.1⟩
end Go.Proofs.YtopbjginpmdebaaDoor.K
-- diagram.Branch: what its loops keep
namespace Go.Proofs.YtopbjginpmdebaaDoor.K
open Go.RowKit Go.Maps Go.Proofs.YtopbjginpmdebaaDoorW.PrintWords Go.Proofs.YtopbjginpmdebaaDoorW.PrintLast Go.Proofs.YtopbjginpmdebaaDoorW.PrintMore
set_option linter.unusedVariables false
set_option linter.unusedSimpArgs false
/-- a table at block t, its index at block mb, a map at block mp beside it, a row of numbers at v -/
structure BrTb (w W : World) (t mb mp : Nat) (s : List Nd × List Int) (v : Value) : Prop where
  tab : TabS W mb t mb (fun j => okNew mb t mb j ∧ j ≠ mp ∧ some j ≠ v.ownBlock) s.1
  row : (Kd.int .i64).R 3 W (mp + 1) (fun j => mp < j) v s.2
  below : Below w.heap.size w W
  res : W.heap[w.heap.size]? = some (.cells #[.slice none 0 0] 31 (0, 0))
theorem BrTb.on {w W W2 : World} {t mb mp : Nat} {s : List Nd × List Int} {v : Value} (h : BrTb w W t mb mp s v) (hb : Below W.heap.size W W2) : BrTb w W2 t mb mp s v :=
  ⟨h.tab.below hb, ints_move h.row (fun k hk => hb.block k (Kd.R_lt h.row k hk)), h.below.trans (hb.mono h.below.size), (hb.block _ (blk_lt h.res)).trans h.res⟩
/-- the map alone has grown -/
theorem BrTb.grown {w W W2 : World} {t mb mp : Nat} {s : List Nd × List Int} {v : Value} (h : BrTb w W t mb mp s v) (hw : w.heap.size < mb) (ht : mb < t) (hm : t < mp) (hg : W.grownBy W2 (some mp)) : BrTb w W2 t mb mp s v := by
  have hmv : ∀ k, k < W.heap.size → k ≠ mp → W2.heap[k]? = W.heap[k]? := fun k hk hne => hg.block k hk (fun e => hne (by injection e))
  refine ⟨h.tab.move fun k hk hq => hmv k hk ?_, ints_move h.row (fun k hk => hmv k (Kd.R_lt h.row k hk) (fun e => ?_)), ?_, (hmv _ (blk_lt h.res) (by omega)).trans h.res⟩
  · rcases hq with hq | hq | hq
    · exact hq.2.1
    · omega
    · omega
  · have := h.row.1 k hk
    omega
  · exact h.below.trans ⟨hg.os, hg.tape, hg.output, hg.size, fun j hj => hmv j (Nat.lt_of_lt_of_le hj h.below.size) (by omega)⟩
theorem BrTb.okT {w W : World} {t mb mp : Nat} {s : List Nd × List Int} {v : Value} (h : BrTb w W t mb mp s v) (ht : mb < t) (hm : t < mp) (hmp : mp < W.heap.size) : OkT mb t mb (fun j => okNew mb t mb j ∧ j ≠ mp ∧ some j ≠ v.ownBlock) W :=
  ⟨fun j hj => hj.1, fun j hj => ⟨⟨by omega, by omega, by omega⟩, by omega, fun e => by have := Kd.R_lt h.row j e.symm; omega⟩, by omega, Nat.le_refl _⟩
/-- a step on the table -/
theorem BrTb.step {w W W2 : World} {t mb mp : Nat} {s : List Nd × List Int} {U : List Nd} {v : Value} (h : BrTb w W t mb mp s v) (hw : w.heap.size < mb) (ht : mb < t) (hm : t < mp) (hT : TabS W2 mb t mb (fun j => okNew mb t mb j ∧ j ≠ mp ∧ some j ≠ v.ownBlock) U) (hTc : Touch W W2 (fun j => okNew mb t mb j ∧ j ≠ mp ∧ some j ≠ v.ownBlock) t mb) : BrTb w W2 t mb mp (U, s.2) v := by
  refine ⟨hT, ints_move h.row (fun k hk => hTc.same k (Kd.R_lt h.row k hk) (fun e => e.2.2 hk.symm) ?_ ?_), ?_, (hTc.same _ (blk_lt h.res) (fun e => by have := e.1.1; omega) (by omega) (by omega)).trans h.res⟩
  · have := h.row.1 k hk; omega
  · have := h.row.1 k hk; omega
  · exact h.below.trans ⟨hTc.os, hTc.tape, hTc.output, hTc.size, fun j hj => hTc.same j (Nat.lt_of_lt_of_le hj h.below.size) (fun e => by have := e.1.1; omega) (by omega) (by omega)⟩
/-- the map is left alone by it -/
theorem BrTb.map_step {W W2 : World} {t mb mp m : Nat} {g : PM} {v : Value} (hg : IMap W mp m g) (ht : mb < t) (hm : t < mp) (hTc : Touch W W2 (fun j => okNew mb t mb j ∧ j ≠ mp ∧ some j ≠ v.ownBlock) t mb) : IMap W2 mp m g :=
  hg.move (hTc.same mp hg.lt (fun e => e.2.1 rfl) (by omega) (by omega))
/-- a number more in the row -/
theorem BrTb.kid {w W W5 : World} {t mb mp : Nat} {s : List Nd × List Int} {z : Int} {v v5 : Value} (h : BrTb w W t mb mp s v) (hw : w.heap.size < mb) (ht : mb < t) (hm : t < mp)
    (hR : (Kd.int .i64).R 3 W5 (mp + 1) (fun k => mp < k) v5 (s.2 ++ [z])) (hg : W.grownBy W5 v.ownBlock) (hat : v5.ownBlock = v.ownBlock ∨ ∃ c, v5.ownBlock = some c ∧ W.heap.size ≤ c) : BrTb w W5 t mb mp (s.1, s.2 ++ [z]) v5 := by
  have hv : ∀ q, v.ownBlock = some q → mp < q := h.row.1
  have hmv : ∀ k, k < W.heap.size → k ≤ mp → W5.heap[k]? = W.heap[k]? := fun k hk hne => hg.block k hk (fun e => by have := hv k e.symm; omega)
  refine ⟨?_, hR, ?_, (hmv _ (blk_lt h.res) (by omega)).trans h.res⟩
  · obtain ⟨x, h1, h2, h3⟩ := h.tab
    refine ⟨x, (hmv t (blk_lt h1) (by omega)).trans h1, ?_, h3.move (hmv mb h3.lt (by omega))⟩
    refine Kd.R_mono (Kd.R_grown (Kd.R_bound h2) hg (fun j hj => hj.1.2.2)) (fun j hj => ⟨hj.1.1, hj.1.2.1, fun e => ?_⟩)
    rcases hat with h4 | ⟨c, h4, h5⟩
    · exact hj.1.2.2 (e.trans h4)
    · rw [h4] at e; injection e with e; have := hj.2.2.1; omega
  · exact h.below.trans ⟨hg.os, hg.tape, hg.output, hg.size, fun j hj => hg.block j (Nat.lt_of_lt_of_le hj h.below.size) (fun e => by have := hv j e.symm; have := h.below.size; omega)⟩
theorem map_kid {W W5 : World} {mp m : Nat} {g : PM} {v : Value} (hg : IMap W mp m g) (hv : ∀ q, v.ownBlock = some q → mp < q) (h : W.grownBy W5 v.ownBlock) : IMap W5 mp m g :=
  hg.move (h.block mp hg.lt (fun e => by have := hv mp e.symm; omega))
/-- the start -/
theorem BrTb.first {w W : World} {mb : Nat} (hT : TabS W mb (mb + 1) mb (okNew mb (mb + 1) mb) []) (hs : W.heap.size = mb + 2) (hb : Below w.heap.size w W) (hr : W.heap[w.heap.size]? = some (.cells #[.slice none 0 0] 31 (0, 0))) : BrTb w (W.alloc (.map #[] 0)) (mb + 1) mb (mb + 2) ([], []) (.slice none 0 0) := by
  have h1 : Below W.heap.size W (W.alloc (.map #[] 0)) := (Below.refl _ W).alloc (Nat.le_refl _) _
  have h2 := hT.below h1
  obtain ⟨x, g1, g2, g3⟩ := h2
  obtain ⟨y, k1, k2, k3⟩ := hT
  refine ⟨⟨y, (h1.block _ (blk_lt k1)).trans k1, ?_, k3.move (h1.block _ k3.lt)⟩, Kd.R_nil _ _ _ _ _, hb.trans (h1.mono hb.size), (h1.block _ (blk_lt hr)).trans hr⟩
  exact Kd.R_step (Kd.R_mono (Kd.R_bound k2) (fun k hk => ⟨hk.1, by have := hk.2.2.1; omega, fun e => by cases e⟩)) (fun k _ hk => h1.block k hk)
end Go.Proofs.YtopbjginpmdebaaDoor.K
-- Branch's result is canonical and small
namespace Go.Proofs.YtopbjginpmdebaaDoor.K
open Go.RowKit Go.Maps Go.Proofs.YtopbjginpmdebaaDoorW.PrintWords Go.Proofs.YtopbjginpmdebaaDoorW.PrintLast Go.Proofs.YtopbjginpmdebaaDoorW.PrintMore
set_option linter.unusedVariables false
set_option linter.unusedSimpArgs false
/-- the shape of children that Branch accepts -/
theorem br_shape {site : Int} {ds : List S31} (hg : ∀ d ∈ ds, grB d.f0 = true) (h1 : (shK ds).isSome = true) (h2 : lowB site (flatD ds) = true) (hs : 0 ≤ site) : ∃ sh : Int → Nat, sh site = ds.length ∧ ∀ d ∈ ds, GrS sh d.f0 ∧ d.f0 ≠ [] ∧ AllF (fun x => site < x) d.f0 := by
  obtain ⟨sh, hsh⟩ := shK_sh h1 hg
  have hlow : ∀ d ∈ ds, ∀ n ∈ d.f0, 0 ≤ n.f0 → site < n.f0 := by
    intro d hd n hn h0
    have := of_decide_eq_true (List.all_eq_true.1 h2 n (mem_flatD hd hn))
    omega
  refine ⟨fun s => if s = site then ds.length else sh s, by simp, fun d hd => ⟨⟨fun i hi => ?_⟩, gr_ne (hg d hd), fun n hn h0 => hlow d hd n hn h0⟩⟩
  rcases (hsh d hd).nd i hi with h3 | h3
  · exact .inl h3
  · refine .inr ⟨h3.1, ?_⟩
    have hm : nth d.f0 (i : Int) ∈ d.f0 := by rw [nth_lt hi]; exact List.getElem_mem hi
    have := hlow d hd _ hm (br_iff.1 h3.1).1.1
    show (nth d.f0 (i : Int)).f2.length = if (nth d.f0 (i : Int)).f0 = site then ds.length else sh (nth d.f0 (i : Int)).f0
    rw [if_neg (by omega)]; exact h3.2
theorem brL_ok {site : Int} {ds : List S31} (h : brE site ds = 0) : ∃ sh : Int → Nat, sh site = ds.length ∧ (0 ≤ site ∧ site < 64) ∧ 1 ≤ ds.length ∧ ds.length ≤ 16 ∧ (∀ d ∈ ds, valE d.f0 = 0) ∧ (∀ d ∈ ds, GrS sh d.f0 ∧ d.f0 ≠ [] ∧ AllF (fun x => site < x) d.f0) ∧ brL site ds = jn site ds ∧ (jn site ds).length ≤ 20000 := by
  have hL : brL site ds = jn site ds := by unfold brL; rw [if_pos h]
  unfold brE at h
  by_cases hr : rngB site ds.length = true
  · obtain ⟨q0, q1, q2, q3⟩ : 0 ≤ site ∧ site < 64 ∧ 1 ≤ ds.length ∧ ds.length ≤ 16 := of_decide_eq_true hr
    rw [if_pos hr] at h
    by_cases h0 : vdE ds = 0
    · rw [if_pos h0] at h
      by_cases h1 : (shK ds).isSome = true
      · rw [if_pos h1] at h
        by_cases h2 : lowB site (flatD ds) = true
        · rw [if_pos h2] at h
          by_cases h3 : (jn site ds).length ≤ 20000
          · obtain ⟨sh, e1, e2⟩ := br_shape (fun d hd => (val_ok (vdE_all h0 d hd)).1) h1 h2 q0
            exact ⟨sh, e1, ⟨q0, q1⟩, q2, q3, vdE_all h0, e2, hL, h3⟩
          · rw [if_neg h3] at h; cases h
        · rw [if_neg h2] at h; cases h
      · rw [if_neg h1] at h; cases h
    · rw [if_neg h0] at h; exact absurd h h0
  · rw [if_neg hr] at h; cases h
theorem brL_small (site : Int) (ds : List S31) : (brL site ds).length ≤ 20000 ∧ ∀ x ∈ brL site ds, x.f2.length ≤ 16 := by
  by_cases h : brE site ds = 0
  · obtain ⟨sh, e1, e2, e3, e4, e5, e6, e7, e8⟩ := brL_ok h
    have hj := jn_ok e6 e2 (by intro e; rw [e] at e3; simp at e3) e1.symm e4
    rw [e7]
    exact ⟨e8, gr_kids hj.2.1⟩
  · have hL : brL site ds = [] := by unfold brL; rw [if_neg h]
    rw [hL]; simp
/-- Branch accepts children of one shape -/
theorem brE_of {sh : Int → Nat} {site : Int} {ds : List S31} (hs : 0 ≤ site ∧ site < 64) (hl : ds.length = sh site) (h1 : 1 ≤ ds.length) (h16 : ds.length ≤ 16) (hd : ∀ d ∈ ds, valE d.f0 = 0 ∧ GrS sh d.f0 ∧ AllF (fun x => site < x) d.f0) (hj : sumL ds + 1 ≤ 20000) : brE site ds = 0 ∧ brL site ds = jn site ds := by
  have hg : ∀ d ∈ ds, grB d.f0 = true := fun d hd' => (val_ok (hd d hd').1).1
  have hr : rngB site ds.length = true := decide_eq_true ⟨hs.1, hs.2, h1, h16⟩
  have h0 : vdE ds = 0 := vdE_of fun d hd' => (hd d hd').1
  have hfl : ∀ n ∈ flatD ds, 0 ≤ n.f0 → n.f2.length = sh n.f0 ∧ site < n.f0 := by
    intro n hn h0
    obtain ⟨l, hl, hn⟩ := List.mem_flatten.1 hn
    obtain ⟨d, hd', rfl⟩ := List.mem_map.1 hl
    obtain ⟨i, hi, rfl⟩ := mem_nth hn
    refine ⟨?_, (hd d hd').2.2 _ hn h0⟩
    rcases (hd d hd').2.1.nd i hi with h1 | h1
    · have := (lf_iff.1 h1).1; omega
    · exact h1.2
  have hsh : (shK ds).isSome = true := by
    unfold shK
    rw [shp_iff]
    refine ⟨(fun n _ _ v hv => by cases hv), List.pairwise_iff_getElem.2 fun i j hi hj hij h3 h4 => ?_⟩
    rw [(hfl _ (List.getElem_mem hi) h3).1, (hfl _ (List.getElem_mem hj) (by omega)).1, h4]
  have hlow : lowB site (flatD ds) = true := by
    refine List.all_eq_true.2 fun n hn => decide_eq_true ?_
    by_cases h0 : n.f0 < 0
    · exact .inl h0
    · exact .inr (hfl n hn (by omega)).2
  have hjn := jn_ok (fun d hd' => ⟨(hd d hd').2.1, gr_ne (hg d hd'), (hd d hd').2.2⟩) hs (by intro e; rw [e] at h1; simp at h1) hl h16
  have he : brE site ds = 0 := by
    unfold brE
    rw [if_pos hr, if_pos h0, if_pos hsh, if_pos hlow, if_pos (by omega)]
  exact ⟨he, by unfold brL; rw [if_pos he]⟩
theorem brE_cases (site : Int) (ds : List S31) (hr : rngB site ds.length = true) (h0 : vdE ds = 0) (h1 : (shK ds).isSome = true) (h2 : lowB site (flatD ds) = true) : ((jn site ds).length ≤ 20000 → brE site ds = 0 ∧ brL site ds = jn site ds) ∧ (¬ (jn site ds).length ≤ 20000 → brE site ds = 9 ∧ brL site ds = []) := by
  have he : brE site ds = if (jn site ds).length ≤ 20000 then 0 else 9 := by
    unfold brE
    rw [if_pos hr, if_pos h0, if_pos h1, if_pos h2]
  refine ⟨fun h => ?_, fun h => ?_⟩
  · rw [if_pos h] at he
    exact ⟨he, by unfold brL; rw [if_pos he]⟩
  · rw [if_neg h] at he
    exact ⟨he, by unfold brL; rw [he, if_neg (by decide)]⟩
end Go.Proofs.YtopbjginpmdebaaDoor.K
-- diagram.Branch, walked
namespace Go.Proofs.YtopbjginpmdebaaDoor.K
open Go.RowKit Go.Maps Go.Proofs.YtopbjginpmdebaaDoorW.PrintWords Go.Proofs.YtopbjginpmdebaaDoorW.PrintLast Go.Proofs.YtopbjginpmdebaaDoorW.PrintMore
set_option linter.unusedVariables false
set_option linter.unusedSimpArgs false
/-- the numbers are a machine's -/
def DsOk (ds : List S31) : Prop := ∀ d ∈ ds, ∀ n ∈ d.f0, I64 n.f0 ∧ I64 n.f1 ∧ n.f2.length ≤ 1073741824
/-- between two rounds of the first loop -/
structure Br1 (w W : World) (ds : List S31) (k : Nat) : Prop where
  below : Below w.heap.size w W
  res : W.heap[w.heap.size]? = some (.cells #[.slice none 0 0] 31 (0, 0))
  ok : vdE (ds.take k) = 0
/-- between two rounds of the second loop -/
structure Br2 (w W : World) (mb : Nat) (ds : List S31) (k : Nat) (v : Value) : Prop where
  tb : BrTb w W (mb + 1) mb (mb + 2) (impKs (ds.take k)) v
  map : ∃ g m, shK (ds.take k) = some g ∧ IMap W (mb + 2) m g ∧ m ≤ sumL (ds.take k)
/-- how it ends with an error -/
theorem br_fin {w W : World} (er : Int) (h1 : Below w.heap.size w W) (h2 : W.heap[w.heap.size]? = some (.cells #[.slice none 0 0] 31 (0, 0))) : DgPost w [] er (.returned (.tuple #[.agg #[.slice none 0 0], .int .i64 er])) (W.setCell ⟨w.heap.size, 0, none⟩ (.slice none 0 0)) :=
  ⟨h1.setCell (p := ⟨w.heap.size, 0, none⟩) (Nat.le_refl _) _, _, rfl, Kd.R_nil _ _ _ _ _⟩
theorem ds_len {ds : List S31} {k : Nat} (hk : k < ds.length) : sumL (ds.take k) + ds[k].f0.length ≤ sumL ds := by
  have h1 := sumL_take_le ds (k + 1)
  rwa [List.take_succ_eq_append_getElem hk, sumL_snoc] at h1
set_option maxHeartbeats 32000000 in
set_option maxRecDepth 100000 in
theorem brw_calls (site : Int) (ds : List S31) (A : Option Addr) (c : Nat) (w : World) (hC : Kd.C k31 w A ds.length ds) (hc : ds.length ≤ c) (hs : I64 site) (hI : DsOk ds) (hsum : (sumL ds + 2) * 40 ≤ 140737488355328) (htab : PowTab w.heap.size w) (hrng : rngB site ds.length = true) :
    Calls Tryd.prog 34 #[.int .i64 site, .slice A ds.length c] w (DgPost w (brL site ds) (brE site ds)) := by
  have hmm := @run_makeMap Tryd.prog
  have hb0 : Below w.heap.size w (w.alloc (.cells #[.slice none 0 0] 31)) := (Below.refl _ w).alloc (Nat.le_refl _) _
  have hr0 := heap_alloc_new w (.cells #[.slice none 0 0] 31)
  have HB0 := Lib.hid hb0
  have HR0 := Lib.hid hr0
  have HC := Lib.hid hC
  have HI := Lib.hid hI
  have HSUM := Lib.hid hsum
  have HTAB := Lib.hid htab
  obtain ⟨N, hN⟩ : ∃ N, N = ds.length := ⟨_, rfl⟩
  have HN := Lib.hid hN
  rw [← hN] at hc hrng ⊢
  have HRNG := Lib.hid (show rngB site ds.length = true by rw [← hN]; exact hrng)
  obtain ⟨q0, q1, q2, q3⟩ : 0 ≤ site ∧ site < 64 ∧ 1 ≤ N ∧ N ≤ 16 := of_decide_eq_true hrng
  clear hC hI hsum htab hN hb0 hr0 hrng
  go_enter Tryd.func34, Tryd.ntmps34
  go_wp2
  go_loopw [36] (fun i wr => ∃ k : Nat, i = .int .i64 k ∧ k ≤ N ∧ Aside0 (Br1 w wr ds k)) (fun i _ => N - (intOf i).toNat)
  case atStart => exact ⟨0, rfl, Nat.zero_le _, ⟨⟨HB0.out, HR0.out, by simp [vdE]⟩⟩⟩
  case round =>
    obtain ⟨k, rfl, hk, hst⟩ := hrel
    have HST := Lib.hid hst.out
    clear hst
    have hwr := HST.out.below.size
    have hrl := blk_lt HST.out.res
    by_cases hlt : k < N
    · have hkd : k < ds.length := by have := HN.out; omega
      obtain ⟨ad, A0, c0, rfl, d0, l0, g0⟩ := at_T31 (Kd.C_below HC.out HST.out.below) (k : Int) (by omega) (by omega)
      rw [Int.toNat_natCast] at d0
      have hrd : rd_T31 ds (k : Int) = ds[k] := by unfold rd_T31; rw [Int.toNat_natCast, List.getD_eq_getElem?_getD, List.getElem?_eq_getElem hkd]; rfl
      rw [hrd] at d0 l0 g0
      have hsl := ds_len hkd
      obtain ⟨d, hd⟩ : ∃ d, d = ds[k] := ⟨_, rfl⟩
      have hdm : d ∈ ds := by rw [hd]; exact List.getElem_mem hkd
      rw [← hd] at d0 l0 g0 hsl
      have hb1 : Below wr.heap.size wr (wr.alloc (.cells #[.slice A0 d.f0.length c0] 31)) := (Below.refl _ wr).alloc (Nat.le_refl _) _
      have hV := validate_calls d.f0 A0 c0 _ (Kd.C_below g0 hb1) l0 (HI.out d hdm) (by have := HSUM.out; omega) (PowTab.up (HTAB.out.on (HST.out.below.trans (hb1.mono hwr))) (Nat.le_trans hwr hb1.size)) (fun n hn => Nat.le_trans (redL_kids16 d.f0 n hn) (by decide))
      obtain ⟨D, hD⟩ : ∃ D, D = d.f0.length := ⟨_, rfl⟩
      rw [← hD] at hV d0 l0 hb1
      have HB1 := Lib.hid hb1
      have HD := Lib.hid hd
      have hkb : k < 4000000000000 := by omega
      have hki : (k : Int) < (N : Int) := by omega
      clear hrd g0 hb1 hd hdm hsl hD
      by_cases h0 : valE d.f0 = 0
      · rw [h0] at hV
        have HV0 := Lib.hid h0
        clear h0
        go_wp2_with (go_at_call 21; refine hV.mono ?_; clear hV; rintro e w2 ⟨rfl, hb2⟩; have HB2 := Lib.hid (HB1.out.trans (hb2.mono HB1.out.size)); clear hb2)
        go_roundw
        case rel => exact ⟨k + 1, by go_num, hlt, ⟨⟨HST.out.below.trans (HB2.out.mono hwr), (HB2.out.block _ hrl).trans HST.out.res, by
          rw [List.take_succ_eq_append_getElem hkd]
          exact vdE_snoc _ _ HST.out.ok (by rw [← HD.out]; exact HV0.out)⟩⟩⟩
        case measure => simp [intOf]; omega
      · have hE : brE site ds = valE d.f0 := by
          have h1 := vdE_take ds k hkd HST.out.ok (by rw [← HD.out]; exact h0)
          rw [← HD.out] at h1
          unfold brE
          rw [if_pos HRNG.out, h1, if_neg h0]
        have hL : brL site ds = [] := by unfold brL; rw [hE, if_neg h0]
        have HE := Lib.hid hE
        have HL := Lib.hid hL
        obtain ⟨er, her⟩ : ∃ er, er = valE d.f0 := ⟨_, rfl⟩
        rw [← her] at hV h0 HE
        clear hE hL her
        go_wp2_with (go_at_call 21; refine hV.mono ?_; clear hV; rintro e w2 ⟨rfl, hb2⟩; have HB2 := Lib.hid (HB1.out.trans (hb2.mono HB1.out.size)); have hr2 := (HB2.out.block _ hrl).trans HST.out.res; have b1 := blk_cell hr2 0; have f1 := blk_frozen hr2 0; have HR2 := Lib.hid hr2; clear hb2 hr2)
        have hb3 := blk_set HR2.out 0 (.slice none 0 0)
        have q0 := (blk_cell hb3 0).trans rfl
        have hf := br_fin er (HST.out.below.trans (HB2.out.mono hwr)) HR2.out
        rw [← HL.out, ← HE.out] at hf
        rw [HE.out] at hf
        exact bodyPost_ret (v := .tuple #[.agg #[.slice none 0 0], .int .i64 er]) (by simp [results, Tryd.f34, go_sem, q0]) rfl (by rw [HE.out]; exact hf)
    · obtain rfl : N = k := by omega
      have hv0 := HST.out.ok
      rw [show ds.take N = ds from List.take_of_length_le (by have := HN.out; omega)] at hv0
      have hg : ∀ d ∈ ds, grB d.f0 = true := fun d hd => (val_ok (vdE_all hv0 d hd)).1
      have HG := Lib.hid hg
      have HV0 := Lib.hid hv0
      clear hg hv0 hk
      obtain ⟨wo, rfl⟩ : ∃ wo : World, wo = wr := ⟨_, rfl⟩
      go_wp2_with (go_at_call 46; refine (new_calls wo).mono ?_; rintro e w2 ⟨rfl, hb2, hs2, hT2⟩; have HB2 := Lib.hid (HST.out.below.trans (hb2.mono hwr)); have HR2 := Lib.hid ((hb2.block _ hrl).trans HST.out.res); have HS2 := Lib.hid hs2; have HT2 := Lib.hid (hT2 wo.heap.size (Nat.le_refl _)); clear hb2 hs2 hT2)
      have hst2 : Br2 w (w2.alloc (.map #[] 0)) wo.heap.size ds 0 (.slice none 0 0) := by
        refine ⟨BrTb.first HT2.out HS2.out HB2.out HR2.out, fun _ => none, 0, by simp [shK, flatD, shp], ?_, by omega⟩
        have := IMap.made w2
        rwa [HS2.out] at this
      have HST2 := Lib.hid hst2
      have htab2 : PowTab wo.heap.size w := PowTab.up HTAB.out hwr
      have HT := Lib.hid htab2
      have hwmb : w.heap.size < wo.heap.size := hrl
      clear hst2 htab2
      rw [HS2.out]
      go_loopw [11, 51] (fun v i W => ∃ (k : Nat) (vv : Value), vv = v ∧ i = .int .i64 k ∧ k ≤ N ∧ Br2 w W wo.heap.size ds k vv) (fun _ i _ => N - (intOf i).toNat)
      case atStart => exact ⟨0, _, rfl, rfl, Nat.zero_le _, HST2.out⟩
      case round =>
        obtain ⟨k, vv, rfl, rfl, hk, hst⟩ := hrel
        have hbl := hst.tb.below.size
        obtain ⟨g, m, hsh, hmap, hm⟩ := hst.map
        obtain ⟨s, hse⟩ : ∃ s, s = impKs (ds.take k) := ⟨_, rfl⟩
        have htb := hst.tb
        rw [← hse] at htb
        obtain ⟨hT, hTl, hTn⟩ := impKs_tbl (ds := ds) (fun d hd => ⟨gr_fit (HG.out d hd), gr_ne (HG.out d hd)⟩) k (by have := HN.out; omega)
        have hTk := impKs_kids (m := 16) (ds := ds) (fun d hd => gr_kids (HG.out d hd)) k (by have := HN.out; omega)
        rw [← hse] at hT hTl hTn hTk
        have hsl0 := sumL_take_le ds k
        obtain ⟨Av, cv, rfl⟩ := Kd.R_slice htb.row
        have hml := hmap.lt
        have HSH := Lib.hid hsh
        have HMAP := Lib.hid hmap
        have HM := Lib.hid hm
        have HSE := Lib.hid hse
        have HTB := Lib.hid htb
        have HT1 := Lib.hid hT
        have HTL := Lib.hid hTl
        have HTN := Lib.hid hTn
        have HTK := Lib.hid hTk
        have HSL0 := Lib.hid hsl0
        have hrl2 := blk_lt htb.res
        clear hst hsh hmap hm hse htb hT hTl hTn hTk hsl0
        by_cases hlt : k < N
        · have hkd : k < ds.length := by have := HN.out; omega
          obtain ⟨ad, A0, c0, rfl, d0, l0, g0⟩ := at_T31 HC.out (k : Int) (by omega) (by omega)
          rw [Int.toNat_natCast] at d0
          have hrd : rd_T31 ds (k : Int) = ds[k] := by unfold rd_T31; rw [Int.toNat_natCast, List.getD_eq_getElem?_getD, List.getElem?_eq_getElem hkd]; rfl
          rw [hrd] at d0 l0 g0
          replace d0 := pw_cell_below HTB.out.below d0
          have hsl := ds_len hkd
          have hsnoc : ds.take (k + 1) = ds.take k ++ [ds[k]] := List.take_succ_eq_append_getElem hkd
          obtain ⟨d, hd⟩ : ∃ d, d = ds[k] := ⟨_, rfl⟩
          have hdm : d ∈ ds := by rw [hd]; exact List.getElem_mem hkd
          rw [← hd] at d0 l0 g0 hsl hsnoc
          have hgd := HG.out d hdm
          have hId := HI.out d hdm
          have hb1 : Below wr.heap.size wr (wr.alloc (.cells #[.slice A0 d.f0.length c0] 31)) := (Below.refl _ wr).alloc (Nat.le_refl _) _
          have hb1w := HTB.out.below.trans (hb1.mono hbl)
          have hS := shapes_calls w.heap.size (wo.heap.size + 2) m g d.f0 A0 c0 (wr.alloc (.cells #[.slice A0 d.f0.length c0] 31)) hb1w.size (by omega) (HMAP.out.move (hb1.block _ hml)) (fun W hW => Kd.C_below g0 (hb1w.trans hW)) l0 hId (by have := HM.out; have := HSL0.out; have := HSUM.out; omega)
          have hbx := heap_alloc_new wr (.cells #[.slice A0 d.f0.length c0] 31)
          obtain ⟨D, hD⟩ : ∃ D, D = d.f0.length := ⟨_, rfl⟩
          rw [← hD] at hS d0 l0 hb1 hbx hb1w hsl
          have HB1 := Lib.hid hb1
          have HBX := Lib.hid hbx
          have HDD := Lib.hid hd
          have HSN := Lib.hid hsnoc
          have HD := Lib.hid hD
          have HG0 := Lib.hid g0
          have HGD := Lib.hid hgd
          have HID := Lib.hid hId
          have HTB1 := Lib.hid (HTB.out.on hb1)
          have hkb : k < 4000000000000 := by omega
          have hki : (k : Int) < (N : Int) := by omega
          clear hrd g0 hb1 hd hdm hD hsnoc hbx hgd hId hb1w
          cases hq : shp g d.f0 with
          | none =>
            have hE : brE site ds = 2 := by
              have h1 : shK ds = none := shK_take (k := k + 1) (by rw [HSN.out, shK_snoc, HSH.out]; exact hq)
              unfold brE
              rw [if_pos HRNG.out, if_pos HV0.out, h1, if_neg (by simp)]
            have hL : brL site ds = [] := by unfold brL; rw [hE, if_neg (by decide)]
            rw [hq] at hS
            have HE := Lib.hid hE
            have HL := Lib.hid hL
            clear hE hL hq
            go_wp2_with (go_at_call 60; refine hS.mono ?_; clear hS; rintro e w3 ⟨hg3, rfl, -⟩; have HTB3 := Lib.hid (HTB1.out.grown hwmb (by omega) (by omega) hg3); clear hg3; have b1 := blk_cell HTB3.out.res 0; have f1 := blk_frozen HTB3.out.res 0; have hl3 := blk_lt HTB3.out.res)
            have hb3 := blk_set HTB3.out.res 0 (.slice none 0 0)
            have q0 := (blk_cell hb3 0).trans rfl
            have hf := br_fin 2 HTB3.out.below HTB3.out.res
            exact bodyPost_ret (v := .tuple #[.agg #[.slice none 0 0], .int .i64 2]) (by simp [results, Tryd.f34, go_sem, q0]) rfl (by rw [HE.out, HL.out]; exact hf)
          | some g' =>
            have HQ := Lib.hid hq
            rw [hq] at hS
            have hqs : shK (ds.take (k + 1)) = some g' := by rw [HSN.out, shK_snoc, HSH.out]; exact hq
            have HQS := Lib.hid hqs
            have hik : impKs (ds.take (k + 1)) = ((imp s.1 [] d.f0).1, s.2 ++ [lk (imp s.1 [] d.f0).2 ((d.f0.length - 1 : Nat) : Int)]) := by rw [HSN.out, impKs_snoc, ← HSE.out]; rfl
            have hsl3 : sumL (ds.take (k + 1)) = sumL (ds.take k) + D := by rw [HSN.out, sumL_snoc, ← HD.out]
            obtain ⟨z, hz⟩ : ∃ z, z = lk (imp s.1 [] d.f0).2 ((d.f0.length - 1 : Nat) : Int) := ⟨_, rfl⟩
            obtain ⟨U, hU⟩ : ∃ U, U = (imp s.1 [] d.f0).1 := ⟨_, rfl⟩
            rw [← hz, ← hU] at hik
            have HIK := Lib.hid hik
            have HZ := Lib.hid hz
            have HU := Lib.hid hU
            have HSL3 := Lib.hid hsl3
            clear hq hqs hik hz hU hsl3
            go_wp2_with (first
              | (go_at_call 60; refine hS.mono ?_; clear hS; rintro e w3 ⟨hg3, rfl, hn3⟩; have HTB3 := Lib.hid (HTB1.out.grown hwmb (by omega) (by omega) hg3); have HBX3 := Lib.hid ((hg3.block _ (blk_lt HBX.out) (fun e => by injection e with e; omega)).trans HBX.out); have b3 := blk_cell HBX3.out 0; have hs3 := hg3.size; have HN3 := Lib.hid (hn3 g' rfl); clear hg3 hn3)
              | (go_at_call 48; have hA := root_calls wo.heap.size (wo.heap.size + 1) wo.heap.size _ s.1 d.f0 A0 c0 w3 HTB3.out.tab (HTB3.out.okT (by omega) (by omega) (by have := HN3.out; have := HB1.out.size; omega)) (by have := HB1.out.size; omega) (by have := HB1.out.size; omega) (by have := HB1.out.size; omega) (fun W hW => Kd.C_below HG0.out (HTB3.out.below.trans (hW.mono hwr))) (by rw [← HD.out]; exact l0) (gr_fit HGD.out) (gr_ne HGD.out) ⟨HT1.out.down, HT1.out.nodup, by simp⟩ HID.out (by have := HTL.out; have := HSL0.out; have := HSUM.out; have := HD.out; omega) (PowTab.up (HTAB.out.on HTB3.out.below) hwr); rw [← HZ.out, ← HU.out, ← HD.out] at hA; refine hA.mono ?_; clear hA; rintro e w4 ⟨rfl, hT4, hTc4⟩; have HTB4 := Lib.hid (HTB3.out.step hwmb (by omega) (by omega) hT4 hTc4); have HM4 := Lib.hid hTc4; have hsz4 := hTc4.size; have hsz1 := HB1.out.size; have hs4 : wo.heap.size + 2 < w4.heap.size := (by omega); clear hsz4 hsz1; clear hT4 hTc4)
              | (at_builtin; refine Kd.R_append (Kd.int .i64) (w0 := w4) (W := w4) (wo.heap.size + 2 + 1) rfl (.tmp 61) (.tmp 65) 22 3 (.int .i64 0) 8 rfl Tryd.underlying22 info3 rfl (by decide) (by decide) (.slice Av s.2.length cv) s.2 z [.int .i64 z] (fun j => wo.heap.size + 2 < j) (fun _ => False) (by rfl) (by rfl) rfl (fun _ h => h.elim) (fun j hj => by omega) HTB4.out.row (Below.refl _ _) (by omega) (by have := HTN.out; omega) ?_; intro v5 w5 hR5 hB5 hg5 hat5; refine Hid.out ?_))
            refine Lib.hid ?_
            obtain ⟨A5, c5, hv5⟩ := Kd.R_slice hR5
            rw [List.length_append, List.length_singleton] at hv5
            subst hv5
            have HTB5 := Lib.hid (HTB4.out.kid hwmb (by omega) (by omega) hR5 hg5 hat5)
            obtain ⟨m3, hm3, hm3l⟩ := HN3.out
            have HMP5 := Lib.hid (map_kid (BrTb.map_step hm3 (by omega) (by omega) HM4.out) HTB4.out.row.1 hg5)
            clear hR5 hB5 hg5 hat5 hm3
            go_wp2
            go_roundw
            case rel =>
              refine ⟨k + 1, _, rfl, by go_num, hlt, ⟨?_, g', m3, HQS.out, HMP5.out, by rw [HSL3.out]; have := HM.out; have := HD.out; omega⟩⟩
              rw [HIK.out]
              exact HTB5.out
            case measure => simp [intOf]; omega
        · obtain rfl : N = k := by omega
          have htk : ds.take N = ds := List.take_of_length_le (by have := HN.out; omega)
          have hsh := HSH.out
          have hse := HSE.out
          have hm := HM.out
          rw [htk] at hsh hse hm
          obtain ⟨D, hown, hD⟩ := HMAP.out
          have HSHK := Lib.hid hsh
          have HSE2 := Lib.hid hse
          have HMM := Lib.hid hm
          have HD := Lib.hid hD
          have HOWN := Lib.hid hown
          clear hsh hse hm hD htk
          obtain ⟨wp, rfl⟩ : ∃ wp : World, wp = wr := ⟨_, rfl⟩
          go_wp2_with (first
            | (at_range; refine wpList_range_own _ rfl _ 73 rfl 3 3 (int_keyed Tryd.underlying3) Tryd.underlying73 _ (wo.heap.size + 2) m D rfl hown ?_; intro w0 hrg0 hg0 hs0)
            | go_in)
          go_frame
          go_loopw [14] (fun _ W => ∃ (left : Lit → Bool) (cnt : Nat), W.ranges Tryd.prog 3 (plainElem Tryd.prog 3) (wo.heap.size + 2) wp.heap.size m D left cnt ∧ Below wp.heap.size wp W ∧ Aside0 ((∀ kl, left kl = true → Maps.has D kl = true) ∧ ∀ x : Int, Maps.has D (.int .i64 x) = true → left (.int .i64 x) = false → site < x)) (fun _ W => W.rangeLeft (wo.heap.size + 2) wp.heap.size)
          case atStart => exact ⟨_, _, hrg0, ⟨hg0.os, hg0.tape, hg0.output, hg0.size, fun j hj => hg0.block j hj (by simp)⟩, ⟨fun kl h => h, fun x h1 h2 => by rw [h1] at h2; cases h2⟩⟩
          case round =>
            obtain ⟨left, cnt, hrg, hbW, hinv⟩ := hrel
            have HBW := Lib.hid hbW
            have HINV := Lib.hid hinv.out
            have HTBW := Lib.hid (HTB.out.on hbW)
            have hsw := hbW.size
            have hrlW := blk_lt HTBW.out.res
            clear hbW hinv
            go_wp2_with (first
              | (at_next; refine wpList_next_ranges_ii _ rfl _ rfl 3 3 .i64 .i64 (int_keyed Tryd.underlying3) Tryd.underlying3 Tryd.underlying3 (wo.heap.size + 2) wp.heap.size m _ _ _ rfl hrg ?_ ?_)
              | go_in)
            · intro hc0 hl0
              have hlow : lowB site (flatD ds) = true := lowB_of HSHK.out (fun x hx => HINV.out.2 x (by rw [(HD.out x).1]; exact hx) (hl0 _))
              obtain ⟨sh, hshs, hsh⟩ := br_shape HG.out (by rw [HSHK.out]; rfl) hlow q0
              have hne : ds ≠ [] := by intro e; have := HN.out; rw [e] at this; simp at this; omega
              obtain ⟨jt1, jt2, jt3⟩ := jn_tb hsh ⟨q0, q1⟩ hne hshs.symm (by have := HN.out; omega)
              have hjt : jnT site ds = placeB s.1 site s.2 := by unfold jnT; rw [← HSE2.out]
              rw [hjt] at jt1 jt2 jt3
              have hjn : jn site ds = expo (placeB s.1 site s.2).1 (placeB s.1 site s.2).2 := by unfold jn; rw [hjt]
              have hkids : ∀ n ∈ (placeB s.1 site s.2).1, n.f2.length ≤ 16 := by
                intro n hn
                rcases jt1.ok n hn with h1 | h1
                · rw [(jt1.red.leafy n hn (by omega)).2]; simp
                · exact h1.2.2.2
              obtain ⟨R, hR⟩ : ∃ R : Nat, (placeB s.1 site s.2).2 = (R : Int) := ⟨_, (Int.toNat_of_nonneg jt2.1).symm⟩
              have hsN := HTN.out
              have hsne : s.2 ≠ [] := by intro e; rw [e] at hsN; simp at hsN; omega
              obtain ⟨Aq, cq, hveq, hcq, hCq⟩ := Kd.R_reads HTBW.out.row
              injection hveq with hv1 hv2 hv3
              subst hv1
              subst hv3
              have hI : ∀ x ∈ site :: 0 :: s.2, I64 x := by
                intro x hx
                rcases List.mem_cons.1 hx with rfl | hx
                · exact hs
                · rcases List.mem_cons.1 hx with rfl | hx
                  · exact ⟨by omega, by omega⟩
                  · have h1 := HT1.out.at_lt x hx
                    have := HTL.out; have := HSL0.out; have := HSUM.out
                    exact ⟨by omega, by omega⟩
              have hA := branch_calls wo.heap.size (wo.heap.size + 1) wo.heap.size _ s.1 site s.2 Av cv wr HTBW.out.tab (HTBW.out.okT (by omega) (by omega) (by omega)) (by omega) hCq hcq hsne hI (by omega) (by have := HTL.out; have := HSL0.out; have := HSUM.out; omega) (PowTab.up (HTAB.out.on HTBW.out.below) hwr)
              rw [hR] at hA hjn jt2
              obtain ⟨U, hU⟩ : ∃ U, U = (placeB s.1 site s.2).1 := ⟨_, rfl⟩
              rw [← hU] at hA hjn jt1 jt2 jt3 hkids
              have hR' : R < U.length := by omega
              obtain ⟨fuel, hfu⟩ := exL_root jt1.red.down 20000 R hR'
              have hfu0 := hfu 0
              rw [Nat.zero_add, ← hjn] at hfu0
              have hbr := brE_cases site ds HRNG.out HV0.out (by rw [HSHK.out]; rfl) hlow
              have HFU := Lib.hid hfu0
              have HBR := Lib.hid hbr
              have HPUB := Lib.hid (And.intro jt1.red.down (And.intro hR' (And.intro jt3 hkids)))
              clear hfu hfu0 hbr jt1 jt2 jt3 hkids hR' hU hR hjn hjt hI hsne hCq hcq hshs hsh hlow hsN hne
              by_cases hle : (jn site ds).length ≤ 20000
              · obtain ⟨hE, hL⟩ := HBR.out.1 hle
                have HF2 := Lib.hid (show exL U 20000 fuel (fun _ => none) [] [((R : Nat), 0)] = some (some (jn site ds)) from by have := HFU.out; rw [if_pos hle] at this; exact this)
                have HE := Lib.hid hE
                have HL := Lib.hid hL
                obtain ⟨J, hJ⟩ : ∃ J, J = jn site ds := ⟨_, rfl⟩
                have HJ := Lib.hid hJ
                rw [← hJ] at HF2
                clear hE hL hJ hle
                go_wp2_with (first
                  | (go_at_call 58; refine hA.mono ?_; clear hA; rintro e w5 ⟨rfl, hT5, hTc5⟩; have HTB5 := Lib.hid (HTBW.out.step hwmb (by omega) (by omega) hT5 hTc5); have hs5 := hTc5.size; have HT5 := Lib.hid hT5; clear hT5 hTc5)
                  | (go_at_call 47; refine (export_calls fuel wo.heap.size (wo.heap.size + 1) wo.heap.size _ U R w5 _ HT5.out HPUB.out.1 HPUB.out.2.1 HF2.out (by have := HPUB.out.2.2.1; have := HSUM.out; omega) (fun n hn => Nat.le_trans (HPUB.out.2.2.2 n hn) (by decide))).mono ?_; rintro e w6 ⟨hb6, hm⟩; obtain ⟨vo, rfl, hR6⟩ := hm; obtain ⟨A6, c6, rfl⟩ := Kd.R_slice hR6; have hbx6 := (hb6.block _ (blk_lt HTB5.out.res)).trans HTB5.out.res; have b0 := blk_cell hbx6 0; have f0 := blk_frozen hbx6 0; have hlt6 := blk_lt hbx6; have HBX6 := Lib.hid hbx6; have HB6 := Lib.hid hb6; have HR6 := Lib.hid hR6; clear hbx6 hb6 hR6))
                have hbz := (HTB5.out.below.trans (HB6.out.mono HTB5.out.below.size)).setCell (p := ⟨w.heap.size, 0, none⟩) (Nat.le_refl _) (.slice A6 J.length c6)
                have hbq := hbz.alloc (by have := hbz.size; exact this) (.cells #[.slice A6 J.length c6] 31)
                have hb2 := blk_set HBX6.out 0 (.slice A6 J.length c6)
                have hbx5 := (Below.heap_alloc (w6.setCell ⟨w.heap.size, 0, none⟩ (.slice A6 J.length c6)) (.cells #[.slice A6 J.length c6] 31) _ (blk_lt hb2)).trans hb2
                have q0 := (blk_cell hbx5 0).trans rfl
                refine bodyPost_ret (v := .tuple #[.agg #[.slice A6 J.length c6], .int .i64 0]) (by simp [results, Tryd.f34, go_sem, q0]) rfl ⟨hbq, _, by rw [HE.out], ?_⟩
                rw [HL.out, ← HJ.out]
                exact Kd.R_below (Kd.R_set (Kd.R_lower (base' := w.heap.size) HR6.out (by have := HTB5.out.below.size; omega)) HBX6.out (by decide) 0 _) ((Below.refl _ _).alloc (Nat.le_refl _) _)
              · obtain ⟨hE, hL⟩ := HBR.out.2 hle
                have HF2 := Lib.hid (show exL U 20000 fuel (fun _ => none) [] [((R : Nat), 0)] = some none from by have := HFU.out; rw [if_neg hle] at this; exact this)
                have HE := Lib.hid hE
                have HL := Lib.hid hL
                clear hE hL hle
                go_wp2_with (first
                  | (go_at_call 58; refine hA.mono ?_; clear hA; rintro e w5 ⟨rfl, hT5, hTc5⟩; have HTB5 := Lib.hid (HTBW.out.step hwmb (by omega) (by omega) hT5 hTc5); have hs5 := hTc5.size; have HT5 := Lib.hid hT5; clear hT5 hTc5)
                  | (go_at_call 47; refine (export_calls fuel wo.heap.size (wo.heap.size + 1) wo.heap.size _ U R w5 _ HT5.out HPUB.out.1 HPUB.out.2.1 HF2.out (by have := HPUB.out.2.2.1; have := HSUM.out; omega) (fun n hn => Nat.le_trans (HPUB.out.2.2.2 n hn) (by decide))).mono ?_; rintro e w6 ⟨hb6, hm⟩; obtain rfl := hm; have hbx6 := (hb6.block _ (blk_lt HTB5.out.res)).trans HTB5.out.res; have b0 := blk_cell hbx6 0; have f0 := blk_frozen hbx6 0; have hlt6 := blk_lt hbx6; have HBX6 := Lib.hid hbx6; have HB6 := Lib.hid hb6; clear hbx6 hb6))
                have hbz := (HTB5.out.below.trans (HB6.out.mono HTB5.out.below.size)).setCell (p := ⟨w.heap.size, 0, none⟩) (Nat.le_refl _) (.slice none 0 0)
                have hbq := hbz.alloc (by have := hbz.size; exact this) (.cells #[.slice none 0 0] 31)
                have hb2 := blk_set HBX6.out 0 (.slice none 0 0)
                have hbx5 := (Below.heap_alloc (w6.setCell ⟨w.heap.size, 0, none⟩ (.slice none 0 0)) (.cells #[.slice none 0 0] 31) _ (blk_lt hb2)).trans hb2
                have q0 := (blk_cell hbx5 0).trans rfl
                refine bodyPost_ret (v := .tuple #[.agg #[.slice none 0 0], .int .i64 9]) (by simp [results, Tryd.f34, go_sem, q0]) rfl ⟨hbq, _, by rw [HE.out], ?_⟩
                rw [HL.out]
                exact Kd.R_nil _ _ _ _ _
            · intro x c_ w1 cnt1 hwx hwc hlx hat hrg1 hlt1 hg1 hs1 hen
              have hb1 : Below wp.heap.size wp w1 := HBW.out.trans (grown_below hg1 hsw (Nat.le_refl _))
              have hhas := HINV.out.1 _ hlx
              have hgx : (g x).isSome = true := by rw [← (HD.out x).1]; exact hhas
              have HTB1 := Lib.hid (HTB.out.on hb1)
              have HB1 := Lib.hid hb1
              have HLX := Lib.hid hlx
              have HGX := Lib.hid hgx
              have HRG1 := Lib.hid hrg1
              have b1 := blk_cell HTB1.out.res 0
              have f1 := blk_frozen HTB1.out.res 0
              have hl1 := blk_lt HTB1.out.res
              clear hb1 hhas hgx hlx hat hg1 hs1
              by_cases hx : x ≤ site
              · have hE : brE site ds = 2 := by
                  unfold brE
                  rw [if_pos HRNG.out, if_pos HV0.out, if_pos (by rw [HSHK.out]; rfl), if_neg (by rw [lowB_bad HSHK.out HGX.out hx]; decide)]
                have hL : brL site ds = [] := by unfold brL; rw [hE, if_neg (by decide)]
                have HE := Lib.hid hE
                have HL := Lib.hid hL
                clear hE hL
                go_wp2
                have hb3 := blk_set HTB1.out.res 0 (.slice none 0 0)
                have q0 := (blk_cell hb3 0).trans rfl
                have hf := br_fin 2 HTB1.out.below HTB1.out.res
                exact bodyPost_ret (v := .tuple #[.agg #[.slice none 0 0], .int .i64 2]) (by simp [results, Tryd.f34, go_sem, q0]) rfl (by rw [HE.out, HL.out]; exact hf)
              · go_wp2
                go_roundw
                case rel =>
                  refine ⟨_, cnt1, HRG1.out, HB1.out, ⟨fun kl h => HINV.out.1 kl (by simp only [Bool.and_eq_true] at h; exact h.1), fun y h1 h2 => ?_⟩⟩
                  by_cases hl : left (.int .i64 y) = true
                  · have : (Lit.int .i64 y).sameKey (.int .i64 x) = true := by simpa [hl] using h2
                    have e : y = x := by simpa [Lit.sameKey] using this
                    omega
                  · exact HINV.out.2 y h1 (by simpa using hl)
                case measure => rw [HRG1.out.left_eq, hrg.left_eq]; exact hlt1
set_option maxHeartbeats 8000000 in
set_option maxRecDepth 100000 in
theorem brAll_calls (site : Int) (ds : List S31) (A : Option Addr) (c : Nat) (w : World) (hC : Kd.C k31 w A ds.length ds) (hc : ds.length ≤ c) (hs : I64 site) (hI : DsOk ds) (hsum : (sumL ds + 2) * 40 ≤ 140737488355328) (hlen : ds.length ≤ 1000000) (htab : PowTab w.heap.size w) :
    Calls Tryd.prog 34 #[.int .i64 site, .slice A ds.length c] w (DgPost w (brL site ds) (brE site ds)) := by
  by_cases hr : rngB site ds.length = true
  · exact brw_calls site ds A c w hC hc hs hI hsum htab hr
  · have hE : brE site ds = 1 := by unfold brE; rw [if_neg hr]
    have hL : brL site ds = [] := by unfold brL; rw [hE, if_neg (by decide)]
    rw [hE, hL]
    have hr' : ¬ (0 ≤ site ∧ site < 64 ∧ 1 ≤ ds.length ∧ ds.length ≤ 16) := fun h => hr (decide_eq_true h)
    have hb0 : Below w.heap.size w (w.alloc (.cells #[.slice none 0 0] 31)) := (Below.refl _ w).alloc (Nat.le_refl _) _
    have hr0 := heap_alloc_new w (.cells #[.slice none 0 0] 31)
    have e0 := blk_cell hr0 0
    have f0 := blk_frozen hr0 0
    have q0 := (blk_cell hr0 0).trans rfl
    have hf : DgPost w [] 1 (.returned (.tuple #[.agg #[.slice none 0 0], .int .i64 1])) (w.alloc (.cells #[.slice none 0 0] 31)) := ⟨hb0, _, rfl, Kd.R_nil _ _ _ _ _⟩
    obtain ⟨N, hN⟩ : ∃ N, N = ds.length := ⟨_, rfl⟩
    rw [← hN] at hr' hlen ⊢
    have hq : (decide (site < 0) || decide (64 ≤ site) || decide ((N : Int) < 1) || decide (16 < (N : Int))) = true := by
      simp only [Bool.or_eq_true, decide_eq_true_eq]
      omega
    have HF := Lib.hid hf
    have HQ0 := Lib.hid q0
    clear hC hc hI hsum htab hr hE hL hr' hb0 q0 hf hN
    go_enter Tryd.func34, Tryd.ntmps34
    go_wp2
    all_goals
      have q0 := HQ0.out
      exact bodyPost_ret (v := .tuple #[.agg #[.slice none 0 0], .int .i64 1]) (by simp [results, Tryd.f34, go_sem, q0]) rfl HF.out
end Go.Proofs.YtopbjginpmdebaaDoor.K
-- the contract of diagram.Branch, in the form that the printed texts call it
namespace Go.Proofs.YtopbjginpmdebaaDoor.K
open Go.RowKit Go.Maps Go.Proofs.YtopbjginpmdebaaDoorW.PrintWords Go.Proofs.YtopbjginpmdebaaDoorW.PrintLast Go.Proofs.YtopbjginpmdebaaDoorW.PrintMore
set_option linter.unusedVariables false
set_option linter.unusedSimpArgs false
/-- children that can be handed over -/
def dsOk (site : Int) (ds : List S31) : Bool := (ds.all fun d => ndOk d.f0) && decide (-9223372036854775808 ≤ site ∧ site ≤ 9223372036854775807 ∧ (sumL ds + 2) * 40 ≤ 140737488355328 ∧ ds.length ≤ 1000000)
theorem dsOk_iff {site : Int} {ds : List S31} : dsOk site ds = true ↔ (∀ d ∈ ds, ndOk d.f0 = true) ∧ -9223372036854775808 ≤ site ∧ site ≤ 9223372036854775807 ∧ (sumL ds + 2) * 40 ≤ 140737488355328 ∧ ds.length ≤ 1000000 := by
  unfold dsOk
  rw [Bool.and_eq_true, List.all_eq_true, decide_eq_true_eq]
def diagram_Branch.f (site : Int) (ds : List S31) : Option (List S60 × Int) := if dsOk site ds = true then some (brL site ds, brE site ds) else none
theorem diagram_Branch.calls (site : Int) (A : Option Addr) (c : Nat) (ds : List S31) (r1 : List S60) (r2 : Int) (w : World) (hr : Kd.C k31 w A ds.length ds) (hc : ds.length ≤ c) (h : diagram_Branch.f site ds = some (r1, r2)) (htab : PowTab w.heap.size w) :
    Calls Tryd.prog 34 #[.int .i64 site, .slice A ds.length c] w fun e w' => ∃ v0_ : Value, e = .returned (.tuple #[.agg #[v0_], .int .i64 r2]) ∧ Kd.V k60 60 w' w.heap.size (fun k_ => (w.heap.size ≤ k_)) v0_ r1 ∧ Below w.heap.size w w' := by
  unfold diagram_Branch.f at h
  by_cases hk : dsOk site ds = true
  · rw [if_pos hk] at h
    simp only [Option.some.injEq, Prod.mk.injEq] at h
    obtain ⟨rfl, rfl⟩ := h
    obtain ⟨h1, h2, h3, h4, h5⟩ := dsOk_iff.1 hk
    exact (brAll_calls site ds A c w hr hc ⟨h2, h3⟩ (fun d hd => ndOk_I (h1 d hd)) h4 h5 htab).mono fun e w' ⟨hb, vo, he, hR⟩ => ⟨vo, he, V_of_R hR, hb⟩
  · rw [if_neg hk] at h; cases h
end Go.Proofs.YtopbjginpmdebaaDoor.K
