/- Lemmas for: Proved: the tied card of exactppllaw19.DiagramLists (for every input the law returns true). Conditions: none beyond the given row. -/
import Derived.StillTailTactics
import Derived.BigRegion
import Derived.Test.YtopbjginpmdebaaDoorLi2
import Derived.Test.YtopbjginpmdebaaDoorLi3
-- diagram.Eval
namespace Go.Proofs.YtopbjginpmdebaaDoor.K
open Go.RowKit Go.Maps Go.Proofs.YtopbjginpmdebaaDoorW.PrintWords Go.Proofs.YtopbjginpmdebaaDoorW.PrintLast Go.Proofs.YtopbjginpmdebaaDoorW.PrintMore
set_option linter.unusedVariables false
set_option linter.unusedSimpArgs false
/-- Eval -/
def evR (nodes : List Nd) (o : List Int) : Int × Int := if valE nodes = 0 then evK nodes o (nodes.length + 1) ((nodes.length - 1 : Nat) : Int) else (0, valE nodes)
/-- Eval's loop: n holds node i -/
structure EvSt (w w2 W : World) (nodes : List Nd) (i : Nat) : Prop where
  below : Below w.heap.size w W
  below2 : Below w2.heap.size w2 W
  node : ∃ A2 c2, W.heap[w2.heap.size]? = some (.cells #[.int .i64 (nth nodes (i : Int)).f0, .int .i64 (nth nodes (i : Int)).f1, .slice A2 (nth nodes (i : Int)).f2.length c2] 60 (0, 0)) ∧ (nth nodes (i : Int)).f2.length ≤ c2 ∧ (Kd.int .i64).C W A2 (nth nodes (i : Int)).f2.length (nth nodes (i : Int)).f2
set_option maxHeartbeats 8000000 in
set_option maxRecDepth 100000 in
theorem eval_calls (nodes : List Nd) (o : List Int) (A Ao : Option Addr) (c co : Nat) (w : World)
    (hC : k60.C w A nodes.length nodes) (hc : nodes.length ≤ c) (hI : ∀ n ∈ nodes, I64 n.f0 ∧ I64 n.f1 ∧ n.f2.length ≤ 1073741824) (hroom : (nodes.length + 1) * 40 ≤ 140737488355328) (htab : PowTab w.heap.size w)
    (hO : (Kd.int .i64).C w Ao o.length o) (ho : o.length ≤ 17592186044000) :
    Calls Tryd.prog 26 #[.agg #[.slice A nodes.length c], .slice Ao o.length co] w fun e w' => e = .returned (.tuple #[.int .i64 (evR nodes o).1, .int .i64 (evR nodes o).2]) ∧ Below w.heap.size w w' := by
  have HO := Lib.hid hO
  have HI := Lib.hid hI
  have HC := Lib.hid hC
  have hb0 : Below w.heap.size w (w.alloc (.cells #[.slice A nodes.length c] 31)) := (Below.refl _ w).alloc (Nat.le_refl _) _
  have hV := validate_calls nodes A c (w.alloc (.cells #[.slice A nodes.length c] 31)) (Kd.C_below hC hb0) hc hI hroom (PowTab.up (htab.on hb0) hb0.size) (fun n hn => Nat.le_trans (redL_kids16 nodes n hn) (by decide))
  have hbx0 := heap_alloc_new w (.cells #[.slice A nodes.length c] 31)
  obtain ⟨N, hN⟩ : ∃ N, N = nodes.length := ⟨_, rfl⟩
  rw [← hN] at hV hc hb0 hbx0 ⊢
  have HB0 := Lib.hid hb0
  have HBX0 := Lib.hid hbx0
  have HN := Lib.hid hN
  have HRM := Lib.hid hroom
  clear hI hC hO hroom htab hb0 hbx0 hN
  by_cases h0 : valE nodes = 0
  · have hv : evR nodes o = evK nodes o (nodes.length + 1) ((nodes.length - 1 : Nat) : Int) := by unfold evR; rw [if_pos h0]
    rw [h0] at hV
    have hre : redE nodes = 0 := by
      by_cases h1 : redE nodes = 0
      · exact h1
      · unfold valE at h0; rw [if_neg h1] at h0; exact absurd h0 h1
    have hgr : grB nodes = true := by
      by_cases h1 : grB nodes = true
      · exact h1
      · unfold redE at hre; rw [if_neg h1] at hre; cases hre
    rw [hv]
    obtain ⟨M, hM⟩ : ∃ M, nodes.length = M + 1 := ⟨nodes.length - 1, by have := gr_pos hgr; omega⟩
    have hNM : N = M + 1 := HN.out.trans hM
    subst hNM
    have hMl : nodes.length - 1 = M := by omega
    rw [hMl, hM]
    have HGR := Lib.hid hgr
    have HM := Lib.hid hM
    have hMb : M < 4000000000000 := by have := HRM.out; omega
    clear hv h0 hre hgr hM hMl
    go_enter Tryd.func26, Tryd.ntmps26
    go_wp2_with (go_at_call 21; refine hV.mono ?_; clear hV; rintro e w2 ⟨rfl, hb2⟩; have HB2 := Lib.hid (HB0.out.trans (hb2.mono (show w.heap.size ≤ (w.alloc (.cells #[.slice A (M + 1) c] 31)).heap.size by simp))); have hbx2 := (hb2.block w.heap.size (by simp)).trans HBX0.out; have b0 := blk_cell hbx2 0; have hlt := blk_lt hbx2; have HBX2 := Lib.hid hbx2; clear hbx2 hb2; obtain ⟨ad, A2, c2, rfl, d0, d1, d2, l2, g2⟩ := at_T60 (Kd.C_below HC.out HB2.out) (M : Int) (by omega) (by have := HM.out; omega); rw [Int.toNat_natCast] at d0 d1 d2; rw [rd_nth] at d0 d1 d2 l2 g2; have hadl := World.block_lt_of_cell? _ _ d0; have HG2 := Lib.hid g2; clear g2)
    have hst0 : ∀ X : World, X = w2.alloc (.cells #[.int .i64 (nth nodes (M : Int)).f0, .int .i64 (nth nodes (M : Int)).f1, .slice A2 (nth nodes (M : Int)).f2.length c2] 60) → EvSt w w2 X nodes M := by
      rintro X rfl
      exact ⟨HB2.out.alloc (Nat.le_of_lt hlt) _, (Below.refl _ w2).alloc (Nat.le_refl _) _, ⟨A2, c2, heap_alloc_new w2 _, l2, Kd.C_below HG2.out ((Below.refl _ w2).alloc (Nat.le_refl _) _)⟩⟩
    have H0 := Lib.hid hst0
    clear hst0
    go_loopg [21] (M + 1 + 1) (fun q s21 wr => ∃ i : Nat, i < q ∧ i < M + 1 ∧ Aside0 (evK nodes o q (i : Int) = evK nodes o (M + 1 + 1) (M : Int)) ∧ EvSt w w2 wr nodes i)
    case atStart => exact ⟨M, by omega, by omega, ⟨rfl⟩, H0.out _ rfl⟩
    case round =>
      obtain ⟨i, hiq, hiN, hev, hst⟩ := hrel
      obtain ⟨q, rfl⟩ : ∃ q, gk = q + 1 := ⟨gk - 1, by omega⟩
      obtain ⟨A3, c3, hbn, l3, g3⟩ := hst.node
      obtain ⟨n, hn⟩ : ∃ n, n = nth nodes (i : Int) := ⟨_, rfl⟩
      rw [← hn] at hbn l3 g3
      have n0 : wr.cell? ⟨w2.heap.size, 0, none⟩ = some (.int .i64 n.f0) := (blk_cell hbn 0).trans rfl
      have n1 : wr.cell? ⟨w2.heap.size, 1, none⟩ = some (.int .i64 n.f1) := (blk_cell hbn 1).trans rfl
      have n2 : wr.cell? ⟨w2.heap.size, 2, none⟩ = some (.slice A3 n.f2.length c3) := (blk_cell hbn 2).trans rfl
      have HEV := Lib.hid hev.out
      have HST := Lib.hid hst
      have HNI := Lib.hid hn
      have HBN := Lib.hid hbn
      have HG3 := Lib.hid g3
      clear hev hst hn hbn g3 d0 d1 d2
      by_cases h0 : n.f0 < 0
      · go_wp2
        refine bodyPost_ret (v := .tuple #[.int .i64 n.f1, .int .i64 0]) (by simp [results, Tryd.f26, go_sem]) rfl ⟨?_, HST.out.below⟩
        rw [← HEV.out]
        simp only [evK]
        rw [← HNI.out, if_pos (by omega)]
      · by_cases h1 : (o.length : Int) ≤ n.f0
        · go_wp2
          go_quiet (fail)
          go_wp2
          refine bodyPost_ret (v := .tuple #[.int .i64 0, .int .i64 1]) (by simp [results, Tryd.f26, go_sem]) rfl ⟨?_, below_drew2 HST.out.below _⟩
          rw [← HEV.out]
          simp only [evK]
          rw [← HNI.out, if_neg (by omega), if_pos (by omega)]
        · obtain ⟨fN, hfN⟩ : ∃ fN : Nat, n.f0 = fN := ⟨n.f0.toNat, by omega⟩
          have hfo : fN < o.length := by omega
          have hfoi : (fN : Int) < (o.length : Int) := by omega
          obtain ⟨ao, rfl, ro⟩ := reads_at (Kd.C_below HO.out HST.out.below) (by intro e; rw [e] at hfo; simp at hfo)
          have e0 := ro fN hfo
          obtain ⟨x, hx⟩ : ∃ x, x = o.getD fN 0 := ⟨_, rfl⟩
          rw [← hx] at e0
          have hrd : rd o n.f0 = x := by rw [hfN, hx]; unfold rd; rw [Int.toNat_natCast]
          have HRD := Lib.hid hrd
          replace n0 : wr.cell? ⟨w2.heap.size, 0, none⟩ = some (.int .i64 (fN : Int)) := by rw [n0, hfN]
          have HFN := Lib.hid hfN
          have hfb : fN < 17592186044000 := by omega
          clear hrd hx hfN ro h0 h1
          by_cases h2 : x < 0
          · have q1 : decide (o.length ≤ fN) = false := by simp; omega
            have q2 : decide (x < 0) = true := decide_eq_true h2
            have q3 : (decide (o.length ≤ fN) || decide (x < 0)) = true := by rw [q2]; simp
            go_wp2
            go_quiet (fail)
            go_wp2
            refine bodyPost_ret (v := .tuple #[.int .i64 0, .int .i64 1]) (by simp [results, Tryd.f26, go_sem]) rfl ⟨?_, below_drew2 HST.out.below _⟩
            rw [← HEV.out]
            simp only [evK]
            rw [← HNI.out, if_neg (by rw [HFN.out]; omega), if_pos (by rw [HRD.out]; omega)]
          · by_cases h3 : (n.f2.length : Int) ≤ x
            · go_wp2
              go_quiet (fail)
              go_wp2
              refine bodyPost_ret (v := .tuple #[.int .i64 0, .int .i64 1]) (by simp [results, Tryd.f26, go_sem]) rfl ⟨?_, below_drew2 HST.out.below _⟩
              rw [← HEV.out]
              simp only [evK]
              rw [← HNI.out, if_neg (by rw [HFN.out]; omega), if_pos (by rw [HRD.out]; omega)]
            · obtain ⟨xN, rfl⟩ : ∃ xN : Nat, x = xN := ⟨x.toNat, by omega⟩
              have hxl : xN < n.f2.length := by omega
              obtain ⟨a3, rfl, r3⟩ := reads_at HG3.out (by intro e; rw [e] at hxl; simp at hxl)
              have e3 := r3 xN hxl
              have hmem : n.f2.getD xN 0 ∈ n.f2 := by rw [List.getD_eq_getElem?_getD, List.getElem?_eq_getElem hxl]; exact List.getElem_mem hxl
              have hdn := (gr_fit HGR.out).1 i (by have := HM.out; omega) (n.f2.getD xN 0) (by rw [← HNI.out]; exact hmem)
              obtain ⟨kN, hkN⟩ : ∃ kN : Nat, n.f2.getD xN 0 = kN := ⟨(n.f2.getD xN 0).toNat, by omega⟩
              rw [hkN] at e3 hdn
              have HKN := Lib.hid hkN
              obtain ⟨ad4, A4, c4, had4, d0, d1, d2, l4, g4⟩ := at_T60 HC.out (kN : Int) (by omega) (by have := HM.out; omega)
              injection had4 with had4
              subst had4
              rw [Int.toNat_natCast] at d0 d1 d2
              rw [rd_nth] at d0 d1 d2 l4 g4
              obtain ⟨m, hm⟩ : ∃ m, m = nth nodes (kN : Int) := ⟨_, rfl⟩
              rw [← hm] at d0 d1 d2 l4 g4
              replace d0 := pw_cell_below HST.out.below d0
              replace d1 := pw_cell_below HST.out.below d1
              replace d2 := pw_cell_below HST.out.below d2
              have HMM := Lib.hid hm
              have HG4 := Lib.hid g4
              have hkM : (kN : Int) < (M : Int) + 1 := by omega
              have hkb : kN < 4000000000000 := by omega
              have hxli : (xN : Int) < (n.f2.length : Int) := by omega
              have hkq : kN < q := by omega
              clear hm g4 hdn hmem r3
              go_wp2
              go_quiet (fail)
              have q1 : decide (o.length ≤ fN) = false := by simp; omega
              have q2 : decide ((xN : Int) < 0) = false := by simp
              have q3 : decide (n.f2.length ≤ xN) = false := by simp; omega
              obtain ⟨w3, hw3⟩ : ∃ w3, w3 = wr.drewN nq := ⟨_, rfl⟩
              rw [← hw3]
              have hb3 : Below wr.heap.size wr w3 := by rw [hw3]; exact below_drew2 (Below.refl _ wr) nq
              have hbx3 := (hb3.block _ (by have := HST.out.below2.size; omega)).trans ((HST.out.below2.block _ hlt).trans HBX2.out)
              have b3 : w3.cell? ⟨w.heap.size, 0, none⟩ = some (.slice (some ad) (M + 1) c) := (blk_cell hbx3 0).trans rfl
              replace n0 := pw_cell_below hb3 n0
              replace n1 := pw_cell_below hb3 n1
              replace n2 := pw_cell_below hb3 n2
              replace e0 := pw_cell_below hb3 e0
              replace e3 := pw_cell_below hb3 e3
              replace d0 := pw_cell_below hb3 d0
              replace d1 := pw_cell_below hb3 d1
              replace d2 := pw_cell_below hb3 d2
              have hbn3 := (hb3.block _ (blk_lt HBN.out)).trans HBN.out
              have f7 := blk_frozen hbn3 0
              have f71 := blk_frozen hbn3 1
              have f72 := blk_frozen hbn3 2
              have HBX3 := Lib.hid hbx3
              have HBN3 := Lib.hid hbn3
              have HB3 := Lib.hid hb3
              clear hw3 hb3 hbx3 hbn3 b0
              go_upto_region 8 with (fail)
              go_still_tail 13, (by kernel_rfl)
              change wpList _ _ _ _ _ w3.drew
              go_wp2
              go_roundg q
              case measure => omega
              case rel =>
                have hwm : w.heap.size ≤ w2.heap.size := by omega
                have hbF := ((((HST.out.below.trans (HB3.out.mono (HST.out.below.size))).setCell (p := ⟨w2.heap.size, 0, none⟩) hwm (.int .i64 m.f0)).setCell (p := ⟨w2.heap.size, 1, none⟩) hwm (.int .i64 m.f1)).setCell (p := ⟨w2.heap.size, 2, none⟩) hwm (.slice A4 m.f2.length c4)).drew
                refine ⟨kN, hkq, by omega, ⟨?_⟩, ⟨?_, ?_, A4, c4, ?_, ?_, ?_⟩⟩
                · rw [← HEV.out]
                  conv => rhs; simp only [evK]
                  rw [← HNI.out, if_neg (by rw [HFN.out]; omega), if_neg (by rw [HFN.out] at *; rw [← HFN.out, HRD.out]; omega), HRD.out]
                  congr 1
                  unfold rd
                  rw [Int.toNat_natCast, HKN.out]
                · exact hbF
                · exact ((((HST.out.below2.trans (HB3.out.mono (HST.out.below2.size))).setCell (p := ⟨w2.heap.size, 0, none⟩) (Nat.le_refl _) _).setCell (p := ⟨w2.heap.size, 1, none⟩) (Nat.le_refl _) _).setCell (p := ⟨w2.heap.size, 2, none⟩) (Nat.le_refl _) _).drew
                · rw [← HMM.out]
                  exact blk_set (blk_set (blk_set HBN3.out 0 _) 1 _) 2 _
                · rw [← HMM.out]; exact l4
                · rw [← HMM.out]
                  exact Kd.C_below HG4.out hbF
  · have hv : evR nodes o = (0, valE nodes) := by unfold evR; rw [if_neg h0]
    rw [hv]
    obtain ⟨er, her⟩ : ∃ er, er = valE nodes := ⟨_, rfl⟩
    rw [← her] at hV h0 ⊢
    clear her hv
    go_enter Tryd.func26, Tryd.ntmps26
    go_wp2_with (go_at_call 21; refine hV.mono ?_; clear hV; rintro e w2 ⟨rfl, hb2⟩; have HB2 := Lib.hid hb2; clear hb2)
    refine bodyPost_ret (v := .tuple #[.int .i64 0, .int .i64 er]) (by simp [results, Tryd.f26, go_sem]) rfl ⟨rfl, HB0.out.trans (HB2.out.mono (show w.heap.size ≤ (w.alloc (.cells #[.slice A N c] 31)).heap.size by simp))⟩
end Go.Proofs.YtopbjginpmdebaaDoor.K
-- exactppllaw19.awake
namespace Go.Proofs.YtopbjginpmdebaaDoor.K
open Go.RowKit Go.Maps Go.Proofs.YtopbjginpmdebaaDoorW.PrintWords Go.Proofs.YtopbjginpmdebaaDoorW.PrintLast Go.Proofs.YtopbjginpmdebaaDoorW.PrintMore
set_option linter.unusedVariables false
set_option linter.unusedSimpArgs false
theorem ints_C {W : World} {b : Nat} {xs : List Int} {cs : Array Value} (h : W.heap[b]? = some (.cells cs 3 (0, 0))) (hl : xs.length ≤ 1073741824) (hcs : ∀ j, j < xs.length → cs[j]? = some (.int .i64 (xs.getD j 0))) : (Kd.int .i64).C W (some ⟨b, 0, none⟩) xs.length xs := by
  refine ⟨rfl, by omega, fun _ => ⟨_, rfl, fun j p hp => ⟨[.int .i64 p], rfl, rfl, fun i u hi => ?_⟩⟩⟩
  have hj : j < xs.length := by
    rcases Nat.lt_or_ge j xs.length with h1 | h1
    · exact h1
    · rw [List.getElem?_eq_none h1] at hp; cases hp
  have hi0 : i = 0 := by
    rcases i with _ | i
    · rfl
    · simp at hi
  subst hi0
  have hu : u = .int .i64 p := by simpa using hi.symm
  subst hu
  have h1 := blk_cell h j
  rw [hcs j hj] at h1
  rw [List.getD_eq_getElem?_getD, hp] at h1
  have e : (Addr.add ⟨b, 0, none⟩ (j * 1 + 0)) = ⟨b, j, none⟩ := by simp [Addr.add]; intro h; simp [h]
  show W.cell? (Addr.add ⟨b, 0, none⟩ (j * 1 + 0)) = _
  rw [e, h1]; rfl
theorem nodes_C {W : World} {b : Nat} {xs : List Nd} {cs : Array Value} (h : W.heap[b]? = some (.cells cs 60 (0, 0))) (hl : xs.length ≤ 1073741824)
    (hx : ∀ j p, xs[j]? = some p → ∃ A c, cs[j * 3]? = some (.int .i64 p.f0) ∧ cs[j * 3 + 1]? = some (.int .i64 p.f1) ∧ cs[j * 3 + 2]? = some (.slice A p.f2.length c) ∧ p.f2.length ≤ c ∧ (Kd.int .i64).C W A p.f2.length p.f2) : k60.C W (some ⟨b, 0, none⟩) xs.length xs := by
  refine ⟨rfl, by omega, fun _ => ⟨_, rfl, fun j p hp => ?_⟩⟩
  obtain ⟨A, c, c0, c1, c2, l2, g2⟩ := hx j p hp
  refine ⟨_, rfl, k60_mk W p l2 g2, fun i u hi => ?_⟩
  have h1 := blk_cell h (j * 3 + i)
  have e : ∀ n, (Addr.add ⟨b, 0, none⟩ n) = ⟨b, n, none⟩ := fun n => by simp [Addr.add]; intro h; simp [h]
  show W.cell? (Addr.add ⟨b, 0, none⟩ (j * 3 + i)) = some u
  rw [e, h1]
  rcases i with _ | _ | _ | i
  · rw [← hi]; exact c0
  · rw [← hi]; exact c1
  · rw [← hi]; exact c2
  · simp at hi
/-- awake's list -/
def awL : List Nd := [⟨-1, 0, []⟩, ⟨-1, 1, []⟩, ⟨2, 0, [1, 1]⟩, ⟨0, 0, [0, 2]⟩]
def awM : List Nd := [⟨-1, 0, []⟩, ⟨-1, 1, []⟩, ⟨0, 0, [0, 1]⟩]
theorem aw_red : redE awL = 0 := by kernel_rfl
theorem aw_redL : redL awL = awM := by kernel_rfl
theorem aw_ev : evR awM [1] = (1, 0) := by kernel_rfl
theorem aw_C {W : World} {b k1 k2 : Nat} (h : W.heap[b]? = some (.cells #[.int .i64 (-1), .int .i64 0, .slice none 0 0, .int .i64 (-1), .int .i64 1, .slice none 0 0, .int .i64 2, .int .i64 0, .slice (some ⟨k1, 0, none⟩) 2 2, .int .i64 0, .int .i64 0, .slice (some ⟨k2, 0, none⟩) 2 2] 60 (0, 0)))
    (h1 : W.heap[k1]? = some (.cells #[.int .i64 1, .int .i64 1] 3 (0, 0))) (h2 : W.heap[k2]? = some (.cells #[.int .i64 0, .int .i64 2] 3 (0, 0))) : k60.C W (some ⟨b, 0, none⟩) 4 awL := by
  refine nodes_C (xs := awL) h (by decide) fun j p hp => ?_
  rcases j with _ | _ | _ | _ | j
  · obtain rfl : (⟨-1, 0, []⟩ : Nd) = p := by simpa [awL] using hp
    exact ⟨none, 0, rfl, rfl, rfl, Nat.le_refl _, Kd.C_nil _ _⟩
  · obtain rfl : (⟨-1, 1, []⟩ : Nd) = p := by simpa [awL] using hp
    exact ⟨none, 0, rfl, rfl, rfl, Nat.le_refl _, Kd.C_nil _ _⟩
  · obtain rfl : (⟨2, 0, [1, 1]⟩ : Nd) = p := by simpa [awL] using hp
    exact ⟨_, 2, rfl, rfl, rfl, Nat.le_refl _, ints_C h1 (by decide) (fun j hj => by rcases j with _ | _ | j; rfl; rfl; simp at hj; omega)⟩
  · obtain rfl : (⟨0, 0, [0, 2]⟩ : Nd) = p := by simpa [awL] using hp
    exact ⟨_, 2, rfl, rfl, rfl, Nat.le_refl _, ints_C h2 (by decide) (fun j hj => by rcases j with _ | _ | j; rfl; rfl; simp at hj; omega)⟩
  · simp [awL] at hp
theorem awL_I : ∀ n ∈ awL, I64 n.f0 ∧ I64 n.f1 ∧ n.f2.length ≤ 1073741824 := by
  intro n hn
  simp only [awL, List.mem_cons, List.not_mem_nil, or_false] at hn
  rcases hn with rfl | rfl | rfl | rfl <;> exact ⟨⟨by decide, by decide⟩, ⟨by decide, by decide⟩, by decide⟩
theorem awM_I : ∀ n ∈ awM, I64 n.f0 ∧ I64 n.f1 ∧ n.f2.length ≤ 1073741824 := by
  intro n hn
  simp only [awM, List.mem_cons, List.not_mem_nil, or_false] at hn
  rcases hn with rfl | rfl | rfl <;> exact ⟨⟨by decide, by decide⟩, ⟨by decide, by decide⟩, by decide⟩
set_option maxHeartbeats 8000000 in
set_option maxRecDepth 100000 in
theorem awake_calls (w : World) (htab : PowTab w.heap.size w) : Calls Tryd.prog 17 #[] w fun e w' => e = .returned (.bool true) ∧ Below w.heap.size w w' := by
  obtain ⟨W1, hW1⟩ : ∃ W1, W1 = ((w.alloc (Obj.cells #[.int .i64 1, .int .i64 1] 3)).alloc (Obj.cells #[.int .i64 0, .int .i64 2] 3)).alloc (Obj.cells #[.int .i64 (-1), .int .i64 0, .slice none 0 0, .int .i64 (-1), .int .i64 1, .slice none 0 0, .int .i64 2, .int .i64 0, .slice (some ⟨w.heap.size, 0, none⟩) 2 2, .int .i64 0, .int .i64 0, .slice (some ⟨w.heap.size + 1, 0, none⟩) 2 2] 60) := ⟨_, rfl⟩
  have hb1 : Below w.heap.size w W1 := by rw [hW1]; exact (((Below.refl _ w).alloc (Nat.le_refl _) _).alloc (by simp) _).alloc (by simp; omega) _
  have hC1 : k60.C W1 (some ⟨w.heap.size + 1 + 1, 0, none⟩) 4 awL := by
    rw [hW1]
    refine aw_C (k1 := w.heap.size) (k2 := w.heap.size + 1) ?_ ?_ ?_
    · have := heap_alloc_new ((w.alloc (Obj.cells #[.int .i64 1, .int .i64 1] 3)).alloc (Obj.cells #[.int .i64 0, .int .i64 2] 3)) (Obj.cells #[.int .i64 (-1), .int .i64 0, .slice none 0 0, .int .i64 (-1), .int .i64 1, .slice none 0 0, .int .i64 2, .int .i64 0, .slice (some ⟨w.heap.size, 0, none⟩) 2 2, .int .i64 0, .int .i64 0, .slice (some ⟨w.heap.size + 1, 0, none⟩) 2 2] 60)
      simpa using this
    · exact (Below.heap_alloc _ _ _ (by simp; omega)).trans ((Below.heap_alloc _ _ _ (by simp)).trans (heap_alloc_new w _))
    · refine (Below.heap_alloc _ _ _ (by simp)).trans ?_
      have := heap_alloc_new (w.alloc (Obj.cells #[.int .i64 1, .int .i64 1] 3)) (Obj.cells #[.int .i64 0, .int .i64 2] 3)
      simpa using this
  have hA := reduce_calls awL _ 4 W1 hC1 (by decide) awL_I (by decide) (PowTab.up (htab.on hb1) hb1.size)
  rw [aw_red, aw_redL] at hA
  have hs1 := hb1.size
  have HB1 := Lib.hid hb1
  have HTAB := Lib.hid htab
  rw [hW1] at hA
  have HW1 := Lib.hid hW1
  clear hb1 hC1 hW1 htab
  go_enter Tryd.func17, Tryd.ntmps17
  go_wp2_with (first
    | (go_at_call 19; refine hA.mono ?_; clear hA; rintro e w2 ⟨hb2, vo, rfl, hRo⟩; obtain ⟨A5, c5, rfl, hc5, hC5⟩ := Kd.R_reads hRo; rw [← HW1.out] at hb2; have HB2 := Lib.hid (HB1.out.trans (hb2.mono hs1)); have HC5 := Lib.hid hC5; have HCC := Lib.hid hc5; have hl5 : awM.length = 3 := rfl; clear hb2 hC5 hRo)
    | (go_at_call 26; have hb3 := ((Below.refl w2.heap.size w2).alloc (Nat.le_refl _) (.cells #[.slice A5 3 c5] 31)).alloc (by simp) (.cells #[.int .i64 1] 3); have hO := ints_C (W := (w2.alloc (Obj.cells #[.slice A5 3 c5] 31)).alloc (Obj.cells #[.int .i64 1] 3)) (b := w2.heap.size + 1) (xs := [1]) (cs := #[.int .i64 1]) (by have := heap_alloc_new (w2.alloc (Obj.cells #[.slice A5 3 c5] 31)) (Obj.cells #[.int .i64 1] 3); simpa using this) (by decide) (fun j hj => by rcases j with _ | j; rfl; simp at hj); have hA2 := eval_calls awM [1] A5 (some ⟨w2.heap.size + 1, 0, none⟩) c5 1 _ (Kd.C_below HC5.out hb3) HCC.out awM_I (by decide) (PowTab.up (HTAB.out.on (HB2.out.trans (hb3.mono HB2.out.size))) (by have := HB2.out.size; have := hb3.size; omega)) hO (by decide); rw [aw_ev] at hA2; refine hA2.mono ?_; clear hA2 hO; rintro e w3 ⟨rfl, hb4⟩; have hbx := (hb4.block w2.heap.size (by simp; omega)).trans ((Below.heap_alloc _ _ _ (by simp)).trans (heap_alloc_new w2 (.cells #[.slice A5 3 c5] 31))); have b0 := blk_cell hbx 0; have HBX := Lib.hid hbx; have HB4 := Lib.hid (HB2.out.trans ((hb3.trans (hb4.mono (by simp; omega))).mono HB2.out.size)); clear hbx hb3 hb4))
  go_ret
  exact ⟨rfl, HB4.out⟩
end Go.Proofs.YtopbjginpmdebaaDoor.K
-- the contracts of diagram's functions, in the form that the printed texts call them
namespace Go.Proofs.YtopbjginpmdebaaDoor.K
open Go.RowKit Go.Maps Go.Proofs.YtopbjginpmdebaaDoorW.PrintWords Go.Proofs.YtopbjginpmdebaaDoorW.PrintLast Go.Proofs.YtopbjginpmdebaaDoorW.PrintMore
set_option linter.unusedVariables false
set_option linter.unusedSimpArgs false
theorem ptab {w W : World} (h : PowTab w.heap.size w) (hb : Below w.heap.size w W) : PowTab W.heap.size W := PowTab.up (h.on hb) hb.size
/-- nodes whose numbers and lengths are a machine's -/
def ndOk (l : List Nd) : Bool := l.all (fun n => decide (-9223372036854775808 ≤ n.f0 ∧ n.f0 ≤ 9223372036854775807 ∧ -9223372036854775808 ≤ n.f1 ∧ n.f1 ≤ 9223372036854775807 ∧ n.f2.length ≤ 1073741824)) && decide ((l.length + 1) * 40 ≤ 140737488355328)
theorem ndOk_I {l : List Nd} (h : ndOk l = true) : ∀ n ∈ l, I64 n.f0 ∧ I64 n.f1 ∧ n.f2.length ≤ 1073741824 := by
  unfold ndOk at h
  rw [Bool.and_eq_true, List.all_eq_true] at h
  intro n hn
  have := of_decide_eq_true (h.1 n hn)
  exact ⟨⟨by omega, by omega⟩, ⟨by omega, by omega⟩, this.2.2.2.2⟩
theorem ndOk_room {l : List Nd} (h : ndOk l = true) : (l.length + 1) * 40 ≤ 140737488355328 := by
  unfold ndOk at h
  rw [Bool.and_eq_true] at h
  exact of_decide_eq_true h.2
theorem V_of_R {w w' : World} {vo : Value} {l : List Nd} (h : k60.R 60 w' w.heap.size (fun _ => True) vo l) : Kd.V k60 60 w' w.heap.size (fun k_ => (w.heap.size ≤ k_)) vo l :=
  Kd.R_V (Kd.R_mono (Kd.R_bound h) (fun k hk => hk.2.1))
def diagram_Reduce.f (l : List S60) : Option (List S60 × Int) := if ndOk l = true then some (redL l, redE l) else none
theorem diagram_Reduce.calls (A : Option Addr) (c : Nat) (l : List S60) (r1 : List S60) (r2 : Int) (w : World) (hr : Kd.C k60 w A l.length l) (hc : l.length ≤ c) (h : diagram_Reduce.f l = some (r1, r2)) (htab : PowTab w.heap.size w) :
    Calls Tryd.prog 19 #[.slice A l.length c] w fun e w' => ∃ v0_ : Value, e = .returned (.tuple #[.agg #[v0_], .int .i64 r2]) ∧ Kd.V k60 60 w' w.heap.size (fun k_ => (w.heap.size ≤ k_)) v0_ r1 ∧ Below w.heap.size w w' := by
  unfold diagram_Reduce.f at h
  by_cases hk : ndOk l = true
  · rw [if_pos hk] at h
    simp only [Option.some.injEq, Prod.mk.injEq] at h
    obtain ⟨rfl, rfl⟩ := h
    exact (reduce_calls l A c w hr hc (ndOk_I hk) (ndOk_room hk) htab).mono fun e w' ⟨hb, vo, he, hR⟩ => ⟨vo, he, V_of_R hR, hb⟩
  · rw [if_neg hk] at h; cases h
def diagram_Validate.f (l : List S60) : Option Int := if ndOk l = true then some (valE l) else none
theorem diagram_Validate.calls (A : Option Addr) (c : Nat) (l : List S60) (r : Int) (w : World) (hr : Kd.C k60 w A l.length l) (hc : l.length ≤ c) (h : diagram_Validate.f l = some r) (htab : PowTab w.heap.size w) :
    Calls Tryd.prog 21 #[.agg #[.slice A l.length c]] w fun e w' => e = .returned (.int .i64 r) ∧ Below w.heap.size w w' := by
  unfold diagram_Validate.f at h
  by_cases hk : ndOk l = true
  · rw [if_pos hk] at h
    obtain rfl := Option.some.inj h
    exact validate_calls l A c w hr hc (ndOk_I hk) (ndOk_room hk) htab (fun n hn => Nat.le_trans (redL_kids16 l n hn) (by decide))
  · rw [if_neg hk] at h; cases h
def diagram_Eval.f (l : List S60) (o : List Int) : Option (Int × Int) := if ndOk l = true then (if o.length ≤ 17592186044000 then some (evR l o) else none) else none
theorem diagram_Eval.calls (A : Option Addr) (c : Nat) (l : List S60) (Ao : Option Addr) (co : Nat) (o : List Int) (r1 r2 : Int) (w : World) (hr : Kd.C k60 w A l.length l) (hc : l.length ≤ c) (hro : (Kd.int .i64).C w Ao o.length o) (hco : o.length ≤ co) (h : diagram_Eval.f l o = some (r1, r2)) (htab : PowTab w.heap.size w) :
    Calls Tryd.prog 26 #[.agg #[.slice A l.length c], .slice Ao o.length co] w fun e w' => e = .returned (.tuple #[.int .i64 r1, .int .i64 r2]) ∧ Below w.heap.size w w' := by
  unfold diagram_Eval.f at h
  by_cases hk : ndOk l = true
  · rw [if_pos hk] at h
    by_cases ho : o.length ≤ 17592186044000
    · rw [if_pos ho] at h
      have h := Option.some.inj h
      have h1 : (evR l o).1 = r1 := by rw [h]
      have h2 : (evR l o).2 = r2 := by rw [h]
      rw [← h1, ← h2]
      exact eval_calls l o A Ao c co w hr hc (ndOk_I hk) (ndOk_room hk) htab hro ho
    · rw [if_neg ho] at h; cases h
  · rw [if_neg hk] at h; cases h
def exactppllaw19_awake.f : Option Bool := some true
theorem exactppllaw19_awake.calls (r : Bool) (w : World) (h : exactppllaw19_awake.f = some r) (htab : PowTab w.heap.size w) : Calls Tryd.prog 17 #[] w fun e w' => e = .returned (.bool r) ∧ Below w.heap.size w w' := by
  obtain rfl := Option.some.inj h
  exact awake_calls w htab
end Go.Proofs.YtopbjginpmdebaaDoor.K
namespace Go.Proofs.YtopbjginpmdebaaDoor.K
open Go.RowKit Go.Proofs.YtopbjginpmdebaaDoorW.PrintWords Go.Proofs.YtopbjginpmdebaaDoorW.PrintLast Go.Proofs.YtopbjginpmdebaaDoorW.PrintMore
attribute [local go_sem] max2_int min2_int max_two min_two max_three min_three max_four min_four   -- for this text's walks alone
set_option linter.unusedVariables false
set_option linter.unusedSimpArgs false

/-! ### exactpplref19_SameNode: function 49 -/
def exactpplref19_SameNode.f (k : Nat) (a0_0 : Int) (a0_1 : Int) (l0_2 : List Int) (a1_0 : Int) (a1_1 : Int) (l1_2 : List Int) : Option (Bool) := if a0_0 = a1_0 then (if a0_1 = a1_1 then ((exactpplref07_SameInts.f k l0_2 l1_2).bind fun t136 => (some t136)) else (some false)) else (some false)
theorem exactpplref19_SameNode.mono : ∀ a0 a1 a2 a3 a4 a5 k, LeO (exactpplref19_SameNode.f k a0 a1 a2 a3 a4 a5) (exactpplref19_SameNode.f (k + 1) a0 a1 a2 a3 a4 a5) := by
 intro a0 a1 a2 a3 a4 a5 k
 unfold exactpplref19_SameNode.f
 repeat' first
   | (with_reducible exact exactpplref07_SameInts.mono _ _ _)
   | (with_reducible exact LeO.refl _)
   | (with_reducible exact LeO.none _)
   | (with_reducible refine LeO.ite ?_ ?_)
   | (with_reducible refine LeO.bind ?_ (fun _ => ?_))
   | exact exactpplref07_SameInts.mono _ _ _
   | exact LeO.none _
   | refine LeO.ite ?_ ?_
   | refine LeO.bind ?_ (fun _ => ?_)
set_option maxHeartbeats 8000000 in
set_option maxRecDepth 100000 in
theorem exactpplref19_SameNode.calls (k : Nat) (a0_0 : Int) (a0_1 : Int) (A0_2 : Option Addr) (c0_2 : Nat) (l0_2 : List Int) (a1_0 : Int) (a1_1 : Int) (A1_2 : Option Addr) (c1_2 : Nat) (l1_2 : List Int) (r : Bool) (w : World) (hr0_2 : Kd.C (Kd.int .i64) w A0_2 l0_2.length l0_2) (hc0_2 : l0_2.length ≤ c0_2) (hr1_2 : Kd.C (Kd.int .i64) w A1_2 l1_2.length l1_2) (hc1_2 : l1_2.length ≤ c1_2) (h : exactpplref19_SameNode.f k a0_0 a0_1 l0_2 a1_0 a1_1 l1_2 = some r) :
  Calls Tryd.prog 49 #[.agg #[.int .i64 a0_0, .int .i64 a0_1, .slice A0_2 l0_2.length c0_2], .agg #[.int .i64 a1_0, .int .i64 a1_1, .slice A1_2 l1_2.length c1_2]] w fun e w' => e = .returned (.bool r) ∧ Below w.heap.size w w' := by
 have hu60 := Tryd.underlying60
 have HR0_2 := Aside0.mk hr0_2
 have HC0_2 := Aside0.mk hc0_2
 clear hr0_2 hc0_2
 have HR1_2 := Aside0.mk hr1_2
 have HC1_2 := Aside0.mk hc1_2
 clear hr1_2 hc1_2
 have HB := Aside0.mk (Below.refl w.heap.size w)
 have H : (if a0_0 = a1_0 then (if a0_1 = a1_1 then ((exactpplref07_SameInts.f k l0_2 l1_2).bind fun t136 => (some t136)) else (some false)) else (some false)) = some r := h
 clear h
 by_cases c3 : a0_0 = a1_0
 ·rw [if_pos c3] at H
  have c3b0 : (a0_0 == a1_0) = true := beq_iff_eq.mpr c3
  have c3b1 : (a0_0 != a1_0) = false := bne_eq_false_iff_eq.mpr c3
  clear c3
  by_cases c4 : a0_1 = a1_1
  ·rw [if_pos c4] at H
   have c4b0 : (a0_1 == a1_1) = true := beq_iff_eq.mpr c4
   have c4b1 : (a0_1 != a1_1) = false := bne_eq_false_iff_eq.mpr c4
   clear c4
   replace H := Option.bind_eq_some_iff.mp H
   obtain ⟨t136, A50, H⟩ := H
   replace H : (some t136) = some r := H
   have A5 := Aside0.mk A50
   clear A50
   obtain rfl := Option.some.inj H
   go_enter Tryd.func49, Tryd.ntmps49
   go_wp2_with (first | ((with_reducible refine gate_dst (N := 2) rfl ?_); refine box_event ?hg (N := 2) ?hd (cs := #[.int .i64 a0_0, .int .i64 a0_1, .slice A0_2 l0_2.length c0_2]) (t := 60) ?hr ?_; (case hd => rfl); (case hg => rfl); (case hr => first | (go_simp; done) | (go_simp; rfl)); intro gb134 hg w6 hbox hb; have BK134 := Aside0.mk (hbox); have GW134 : Aside0 (w.heap.size ≤ gb134) := gw_ hg (below_size bl_); have GE134 := GW134; replace HB := Aside0.mk (below_step bl_ hb); clear hb hbox hg) | ((with_reducible refine gate_dst (N := 3) rfl ?_); refine box_event ?hg (N := 3) ?hd (cs := #[.int .i64 a1_0, .int .i64 a1_1, .slice A1_2 l1_2.length c1_2]) (t := 60) ?hr ?_; (case hd => rfl); (case hg => rfl); (case hr => first | (go_simp; done) | (go_simp; rfl)); intro gb135 hg w7 hbox hb; have BK135 := Aside0.mk (hbox); have GW135 : Aside0 (w.heap.size ≤ gb135) := gw_ hg (below_size bl_); have GE135 := GW135; have NB134_135 := Aside0.mk ((by rw [hg]; exact Nat.ne_of_lt (blk_lt (g := gb134) (o := .cells #[.int .i64 a0_0, .int .i64 a0_1, .slice A0_2 l0_2.length c0_2] 60 (0, 0)) bk_) : gb134 ≠ gb135)); have NB135_134 := Aside0.mk ((by rw [hg]; exact Nat.ne_of_gt (blk_lt (g := gb134) (o := .cells #[.int .i64 a0_0, .int .i64 a0_1, .slice A0_2 l0_2.length c0_2] 60 (0, 0)) bk_) : gb135 ≠ gb134)); replace BK134 := Aside0.mk (blk_below (g := gb134) (o := .cells #[.int .i64 a0_0, .int .i64 a0_1, .slice A0_2 l0_2.length c0_2] 60 (0, 0)) bk_ hb); replace HB := Aside0.mk (below_step bl_ hb); clear hb hbox hg; have hnb8 := NB134_135.out; have hnc8 := NB135_134.out; obtain ⟨hcz9_0, hcz9_1, hcz9_2, hfz9_0, hfz9_1, hfz9_2⟩ := cf3_ BK134.out; obtain ⟨hcz10_0, hcz10_1, hcz10_2, hfz10_0, hfz10_1, hfz10_2⟩ := cf3_ BK135.out) | (go_at_call 41; (with_reducible refine (exactpplref07_SameInts.calls k _ _ l0_2 _ _ l1_2 t136 _ ?side1 ?side2 ?side3 ?side4 A5.out).mono ?_); (case side1 => repeat (first | exact (Kd.C_below HR0_2.out HB.out) | (with_reducible refine Kd.C_alloc ?_ _) | (with_reducible refine Kd.C_drewN ?_ _) | (with_reducible refine Kd.C_drew ?_))); (case side2 => exact HC0_2.out); (case side3 => repeat (first | exact (Kd.C_below HR1_2.out HB.out) | (with_reducible refine Kd.C_alloc ?_ _) | (with_reducible refine Kd.C_drewN ?_ _) | (with_reducible refine Kd.C_drew ?_))); (case side4 => exact HC1_2.out); rintro e w' ⟨rfl, ⟨nd, rfl⟩⟩))
   go_ret
   exact ⟨re_, bl_⟩
  ·rw [if_neg c4] at H
   have c4b0 : (a0_1 == a1_1) = false := beq_eq_false_iff_ne.mpr c4
   have c4b1 : (a0_1 != a1_1) = true := bne_iff_ne.mpr c4
   obtain rfl := Option.some.inj H
   go_enter Tryd.func49, Tryd.ntmps49
   go_wp2_with (first | ((with_reducible refine gate_dst (N := 2) rfl ?_); refine box_event ?hg (N := 2) ?hd (cs := #[.int .i64 a0_0, .int .i64 a0_1, .slice A0_2 l0_2.length c0_2]) (t := 60) ?hr ?_; (case hd => rfl); (case hg => rfl); (case hr => first | (go_simp; done) | (go_simp; rfl)); intro gb134 hg w11 hbox hb; have BK134 := Aside0.mk (hbox); have GW134 : Aside0 (w.heap.size ≤ gb134) := gw_ hg (below_size bl_); have GE134 := GW134; replace HB := Aside0.mk (below_step bl_ hb); clear hb hbox hg) | ((with_reducible refine gate_dst (N := 3) rfl ?_); refine box_event ?hg (N := 3) ?hd (cs := #[.int .i64 a1_0, .int .i64 a1_1, .slice A1_2 l1_2.length c1_2]) (t := 60) ?hr ?_; (case hd => rfl); (case hg => rfl); (case hr => first | (go_simp; done) | (go_simp; rfl)); intro gb135 hg w12 hbox hb; have BK135 := Aside0.mk (hbox); have GW135 : Aside0 (w.heap.size ≤ gb135) := gw_ hg (below_size bl_); have GE135 := GW135; have NB134_135 := Aside0.mk ((by rw [hg]; exact Nat.ne_of_lt (blk_lt (g := gb134) (o := .cells #[.int .i64 a0_0, .int .i64 a0_1, .slice A0_2 l0_2.length c0_2] 60 (0, 0)) bk_) : gb134 ≠ gb135)); have NB135_134 := Aside0.mk ((by rw [hg]; exact Nat.ne_of_gt (blk_lt (g := gb134) (o := .cells #[.int .i64 a0_0, .int .i64 a0_1, .slice A0_2 l0_2.length c0_2] 60 (0, 0)) bk_) : gb135 ≠ gb134)); replace BK134 := Aside0.mk (blk_below (g := gb134) (o := .cells #[.int .i64 a0_0, .int .i64 a0_1, .slice A0_2 l0_2.length c0_2] 60 (0, 0)) bk_ hb); replace HB := Aside0.mk (below_step bl_ hb); clear hb hbox hg; have hnb13 := NB134_135.out; have hnc13 := NB135_134.out; obtain ⟨hcz14_0, hcz14_1, hcz14_2, hfz14_0, hfz14_1, hfz14_2⟩ := cf3_ BK134.out; obtain ⟨hcz15_0, hcz15_1, hcz15_2, hfz15_0, hfz15_1, hfz15_2⟩ := cf3_ BK135.out))
   go_ret
   exact ⟨re_, bl_⟩
 ·rw [if_neg c3] at H
  have c3b0 : (a0_0 == a1_0) = false := beq_eq_false_iff_ne.mpr c3
  have c3b1 : (a0_0 != a1_0) = true := bne_iff_ne.mpr c3
  obtain rfl := Option.some.inj H
  go_enter Tryd.func49, Tryd.ntmps49
  go_wp2_with (first | ((with_reducible refine gate_dst (N := 2) rfl ?_); refine box_event ?hg (N := 2) ?hd (cs := #[.int .i64 a0_0, .int .i64 a0_1, .slice A0_2 l0_2.length c0_2]) (t := 60) ?hr ?_; (case hd => rfl); (case hg => rfl); (case hr => first | (go_simp; done) | (go_simp; rfl)); intro gb134 hg w16 hbox hb; have BK134 := Aside0.mk (hbox); have GW134 : Aside0 (w.heap.size ≤ gb134) := gw_ hg (below_size bl_); have GE134 := GW134; replace HB := Aside0.mk (below_step bl_ hb); clear hb hbox hg) | ((with_reducible refine gate_dst (N := 3) rfl ?_); refine box_event ?hg (N := 3) ?hd (cs := #[.int .i64 a1_0, .int .i64 a1_1, .slice A1_2 l1_2.length c1_2]) (t := 60) ?hr ?_; (case hd => rfl); (case hg => rfl); (case hr => first | (go_simp; done) | (go_simp; rfl)); intro gb135 hg w17 hbox hb; have BK135 := Aside0.mk (hbox); have GW135 : Aside0 (w.heap.size ≤ gb135) := gw_ hg (below_size bl_); have GE135 := GW135; have NB134_135 := Aside0.mk ((by rw [hg]; exact Nat.ne_of_lt (blk_lt (g := gb134) (o := .cells #[.int .i64 a0_0, .int .i64 a0_1, .slice A0_2 l0_2.length c0_2] 60 (0, 0)) bk_) : gb134 ≠ gb135)); have NB135_134 := Aside0.mk ((by rw [hg]; exact Nat.ne_of_gt (blk_lt (g := gb134) (o := .cells #[.int .i64 a0_0, .int .i64 a0_1, .slice A0_2 l0_2.length c0_2] 60 (0, 0)) bk_) : gb135 ≠ gb134)); replace BK134 := Aside0.mk (blk_below (g := gb134) (o := .cells #[.int .i64 a0_0, .int .i64 a0_1, .slice A0_2 l0_2.length c0_2] 60 (0, 0)) bk_ hb); replace HB := Aside0.mk (below_step bl_ hb); clear hb hbox hg; have hnb18 := NB134_135.out; have hnc18 := NB135_134.out; obtain ⟨hcz19_0, hcz19_1, hcz19_2, hfz19_0, hfz19_1, hfz19_2⟩ := cf3_ BK134.out; obtain ⟨hcz20_0, hcz20_1, hcz20_2, hfz20_0, hfz20_1, hfz20_2⟩ := cf3_ BK135.out))
  go_ret
  exact ⟨re_, bl_⟩

end Go.Proofs.YtopbjginpmdebaaDoor.K
namespace Go.Proofs.YtopbjginpmdebaaDoor.K
open Go.RowKit Go.Proofs.YtopbjginpmdebaaDoorW.PrintWords Go.Proofs.YtopbjginpmdebaaDoorW.PrintLast Go.Proofs.YtopbjginpmdebaaDoorW.PrintMore
attribute [local go_sem] max2_int min2_int max_two min_two max_three min_three max_four min_four   -- for this text's walks alone
set_option linter.unusedVariables false
set_option linter.unusedSimpArgs false

/-! ### exactpplref19_Same: function 20 -/
def exactpplref19_Same.l0 : Nat → Int → List (S60) → List (S60) → Option (Bool)
 | 0, _, _, _ => none
 | k + 1, x5, x138000, x139000 => if x5 < (x138000.length : Int) then (if 0 ≤ x5 then (if x5 < (x139000.length : Int) then ((exactpplref19_SameNode.f k ((rd_T60 x138000 x5).f0) ((rd_T60 x138000 x5).f1) ((rd_T60 x138000 x5).f2) ((rd_T60 x139000 x5).f0) ((rd_T60 x139000 x5).f1) ((rd_T60 x139000 x5).f2)).bind fun t141 => (if t141 = true then (exactpplref19_Same.l0 k (wrap64 (x5 + 1)) x138000 x139000) else (some false))) else (none)) else (none)) else (some true)
def exactpplref19_Same.f (k : Nat) (l0_0 : List (S60)) (l1_0 : List (S60)) : Option (Bool) := if (l0_0.length : Int) = (l1_0.length : Int) then (exactpplref19_Same.l0 k 0 l0_0 l1_0) else (some false)
theorem exactpplref19_Same.mono_l : ∀ k, (∀ y0 y1 y2, LeO (exactpplref19_Same.l0 k y0 y1 y2) (exactpplref19_Same.l0 (k + 1) y0 y1 y2))
 | 0 => fun _ _ _ r h => by simp [exactpplref19_Same.l0] at h
 | k + 1 => by
  have ih0 := exactpplref19_Same.mono_l k
  ·intro y0 y1 y2
   unfold exactpplref19_Same.l0
   repeat' first
   | (with_reducible exact ih0 _ _ _)
   | (with_reducible exact exactpplref19_SameNode.mono _ _ _ _ _ _ _)
   | (with_reducible exact LeO.refl _)
   | (with_reducible exact LeO.none _)
   | (with_reducible refine LeO.ite ?_ ?_)
   | (with_reducible refine LeO.bind ?_ (fun _ => ?_))
   | exact ih0 _ _ _
   | exact exactpplref19_SameNode.mono _ _ _ _ _ _ _
   | exact LeO.none _
   | refine LeO.ite ?_ ?_
   | refine LeO.bind ?_ (fun _ => ?_)
theorem exactpplref19_Same.mono : ∀ a0 a1 k, LeO (exactpplref19_Same.f k a0 a1) (exactpplref19_Same.f (k + 1) a0 a1) := by
 intro a0 a1 k
 have ih0 := exactpplref19_Same.mono_l k
 unfold exactpplref19_Same.f
 repeat' first
   | (with_reducible exact ih0 _ _ _)
   | (with_reducible exact exactpplref19_SameNode.mono _ _ _ _ _ _ _)
   | (with_reducible exact LeO.refl _)
   | (with_reducible exact LeO.none _)
   | (with_reducible refine LeO.ite ?_ ?_)
   | (with_reducible refine LeO.bind ?_ (fun _ => ?_))
   | exact ih0 _ _ _
   | exact exactpplref19_SameNode.mono _ _ _ _ _ _ _
   | exact LeO.none _
   | refine LeO.ite ?_ ?_
   | refine LeO.bind ?_ (fun _ => ?_)
def exactpplref19_Same.T6 : Bool × List (List Nat × List Nat) := (true, [([], []), ([0], [0]), ([], []), ([1, 2], [1, 2]), ([3], [3]), ([], []), ([5], [5]), ([], []), ([6, 7], [6, 7]), ([8], [8]), ([4, 9], [4, 9]), ([10], [10])])
def exactpplref19_Same.B6 : List Nat := [0, 1, 0, 7, 15, 0, 32, 0, 224, 480, 1023, 2047]
theorem exactpplref19_Same.tab6 : rtab .any (opsOf Tryd.f20 6) = exactpplref19_Same.T6 := by kernel_rfl
theorem exactpplref19_Same.bits6 : waitsOk exactpplref19_Same.T6.2 exactpplref19_Same.B6 = true := by kernel_rfl
set_option maxHeartbeats 8000000 in
set_option maxRecDepth 100000 in
theorem exactpplref19_Same.calls (k : Nat) (A0_0 : Option Addr) (c0_0 : Nat) (l0_0 : List (S60)) (A1_0 : Option Addr) (c1_0 : Nat) (l1_0 : List (S60)) (r : Bool) (w : World) (hr0_0 : Kd.C k60 w A0_0 l0_0.length l0_0) (hc0_0 : l0_0.length ≤ c0_0) (hr1_0 : Kd.C k60 w A1_0 l1_0.length l1_0) (hc1_0 : l1_0.length ≤ c1_0) (h : exactpplref19_Same.f k l0_0 l1_0 = some r) :
  Calls Tryd.prog 20 #[.agg #[.slice A0_0 l0_0.length c0_0], .agg #[.slice A1_0 l1_0.length c1_0]] w fun e w' => e = .returned (.bool r) ∧ Below w.heap.size w w' := by
 have hu31 := Tryd.underlying31
 have hu60 := Tryd.underlying60
 have HR0_0 := Aside0.mk hr0_0
 have HC0_0 := Aside0.mk hc0_0
 clear hr0_0 hc0_0
 have HR1_0 := Aside0.mk hr1_0
 have HC1_0 := Aside0.mk hc1_0
 clear hr1_0 hc1_0
 have HB := Aside0.mk (Below.refl w.heap.size w)
 have H : (if (l0_0.length : Int) = (l1_0.length : Int) then (exactpplref19_Same.l0 k 0 l0_0 l1_0) else (some false)) = some r := h
 clear h
 by_cases c3 : (l0_0.length : Int) = (l1_0.length : Int)
 ·rw [if_pos c3] at H
  have c3b0 : ((l0_0.length : Int) == (l1_0.length : Int)) = true := beq_iff_eq.mpr c3
  have c3b1 : ((l0_0.length : Int) != (l1_0.length : Int)) = false := bne_eq_false_iff_eq.mpr c3
  have c3b2 : (l0_0.length == l1_0.length) = true := by first | simpa using c3 | (simp at c3 ⊢; omega)
  clear c3
  have H' := Aside0.mk H
  clear H
  go_enter Tryd.func20, Tryd.ntmps20
  go_wp2_with (first | ((with_reducible refine gate_dst (N := 2) rfl ?_); refine box_event ?hg (N := 2) ?hd (cs := #[.slice A0_0 l0_0.length c0_0]) (t := 31) ?hr ?_; (case hd => rfl); (case hg => rfl); (case hr => first | (go_simp; done) | (go_simp; rfl)); intro gb137 hg w4 hbox hb; have BK137 := Aside0.mk (hbox); have GW137 : Aside0 (w.heap.size ≤ gb137) := gw_ hg (below_size bl_); have GE137 := GW137; replace HB := Aside0.mk (below_step bl_ hb); clear hb hbox hg) | ((with_reducible refine gate_dst (N := 3) rfl ?_); refine box_event ?hg (N := 3) ?hd (cs := #[.slice A1_0 l1_0.length c1_0]) (t := 31) ?hr ?_; (case hd => rfl); (case hg => rfl); (case hr => first | (go_simp; done) | (go_simp; rfl)); intro gb138 hg w5 hbox hb; have BK138 := Aside0.mk (hbox); have GW138 : Aside0 (w.heap.size ≤ gb138) := gw_ hg (below_size bl_); have GE138 := GW138; have NB137_138 := Aside0.mk ((by rw [hg]; exact Nat.ne_of_lt (blk_lt (g := gb137) (o := .cells #[.slice A0_0 l0_0.length c0_0] 31 (0, 0)) bk_) : gb137 ≠ gb138)); have NB138_137 := Aside0.mk ((by rw [hg]; exact Nat.ne_of_gt (blk_lt (g := gb137) (o := .cells #[.slice A0_0 l0_0.length c0_0] 31 (0, 0)) bk_) : gb138 ≠ gb137)); replace BK137 := Aside0.mk (blk_below (g := gb137) (o := .cells #[.slice A0_0 l0_0.length c0_0] 31 (0, 0)) bk_ hb); replace HB := Aside0.mk (below_step bl_ hb); clear hb hbox hg; have hnb6 := NB137_138.out; have hnc6 := NB138_137.out; obtain ⟨hcz7_0, hfz7_0⟩ := cf1_ BK137.out; obtain ⟨hcz8_0, hfz8_0⟩ := cf1_ BK138.out))
  go_loopg [5] k (fun kq v5 w' => ∃ (x5_1 : Int), v5 = .int .i64 x5_1 ∧ Aside0 (exactpplref19_Same.l0 kq x5_1 l0_0 l1_0 = some r) ∧ Aside0 (kq ≤ k) ∧ Aside0 (w'.heap[gb137]? = some (.cells #[(.slice A0_0 l0_0.length c0_0)] 31 (0, 0))) ∧ Aside0 (w'.heap[gb138]? = some (.cells #[(.slice A1_0 l1_0.length c1_0)] 31 (0, 0))) ∧ Aside0 (Below w.heap.size w w'))
  case atStart => exact ⟨(0), rs_, H', ⟨Nat.le_refl _⟩, ⟨bk_⟩, ⟨bk_⟩, ⟨bl_⟩⟩
  case round =>
   clear H'
   try clear c1
   try clear c2
   try clear p2
   try clear c3
   try clear c3b0
   try clear c3b1
   try clear c3b2
   try clear c6
   try clear hcz7_0 hfz7_0
   try clear hcz8_0 hfz8_0
   obtain ⟨x5_1, rfl, HA, HK1, BK137, BK138, HB⟩ := hrel
   cases gk with
   | zero => exact absurd HA.out (by simp [exactpplref19_Same.l0])
   | succ k1 =>
    have H := HA.out
    clear HA
    simp only [exactpplref19_Same.l0] at H
    by_cases c9 : x5_1 < (l0_0.length : Int)
    ·rw [if_pos c9] at H
     have c9b0 : decide (x5_1 < (l0_0.length : Int)) = true := decide_eq_true c9
     clear c9
     by_cases c10 : 0 ≤ x5_1
     ·rw [if_pos c10] at H
      have c10b0 : decide (0 ≤ x5_1) = true := decide_eq_true c10
      clear c10
      by_cases c11 : x5_1 < (l1_0.length : Int)
      ·rw [if_pos c11] at H
       have c11b0 : decide (x5_1 < (l1_0.length : Int)) = true := decide_eq_true c11
       clear c11
       replace H := Option.bind_eq_some_iff.mp H
       obtain ⟨t141, A120, H⟩ := H
       replace H : (if t141 = true then (exactpplref19_Same.l0 k1 (wrap64 (x5_1 + 1)) l0_0 l1_0) else (some false)) = some r := H
       have A12 := Aside0.mk A120
       clear A120
       by_cases c13 : t141 = true
       ·subst c13
        have H1 : (exactpplref19_Same.l0 k1 (wrap64 (x5_1 + 1)) l0_0 l1_0) = some r := by rw [if_pos rfl] at H; exact H
        clear H
        have H := H1
        clear H1
        have H' := Aside0.mk H
        clear H
        have hnb14 := NB137_138.out
        have hnc14 := NB138_137.out
        obtain ⟨hcz15_0, hfz15_0⟩ := cf1_ BK137.out
        try go_wp2
        replace BK137 := Aside0.mk (blk_drew BK137.out)
        replace BK138 := Aside0.mk (blk_drew BK138.out)
        replace HB := Aside0.mk (below_drew1 HB.out)
        have p139 : 0 ≤ (x5_1 : Int) := dt_
        have q139 : x5_1 < (l0_0.length : Int) := dt_
        obtain ⟨ad139, A139_2, c139_2, e139, hx139_0, hx139_1, hx139_2, hl139_2, hi139_2⟩ := at_T60 HR0_0.out x5_1 p139 q139
        have hw139_2 := hx139_2
        have hw139_1 := hx139_1
        have hw139_0 := hx139_0
        cases e139
        replace hx139_0 := (HB.out.cell (World.block_lt_of_cell? w _ hx139_0)).trans hx139_0
        replace hx139_1 := (HB.out.cell (World.block_lt_of_cell? w _ hx139_1)).trans hx139_1
        replace hx139_2 := (HB.out.cell (World.block_lt_of_cell? w _ hx139_2)).trans hx139_2
        have HR139_2 := Aside0.mk hi139_2
        have HC139_2 := Aside0.mk hl139_2
        clear hi139_2 hl139_2
        replace p139 := eq_true p139
        replace q139 := eq_true q139
        have p140 : 0 ≤ (x5_1 : Int) := dt_
        have q140 : x5_1 < (l1_0.length : Int) := dt_
        obtain ⟨ad140, A140_2, c140_2, e140, hx140_0, hx140_1, hx140_2, hl140_2, hi140_2⟩ := at_T60 HR1_0.out x5_1 p140 q140
        have hw140_2 := hx140_2
        have hw140_1 := hx140_1
        have hw140_0 := hx140_0
        cases e140
        replace hx140_0 := (HB.out.cell (World.block_lt_of_cell? w _ hx140_0)).trans hx140_0
        replace hx140_1 := (HB.out.cell (World.block_lt_of_cell? w _ hx140_1)).trans hx140_1
        replace hx140_2 := (HB.out.cell (World.block_lt_of_cell? w _ hx140_2)).trans hx140_2
        have HR140_2 := Aside0.mk hi140_2
        have HC140_2 := Aside0.mk hl140_2
        clear hi140_2 hl140_2
        replace p140 := eq_true p140
        replace q140 := eq_true q140
        refine start_ (n := 12) (S := fun w' => w'.cell? ⟨gb137, 0, none⟩ = some (.slice (some ad139) l0_0.length c0_0) ∧ w'.cell? ⟨gb138, 0, none⟩ = some (.slice (some ad140) l1_0.length c1_0) ∧ w'.cell? (ad139.add ((x5_1).toNat * 3)) = some (.int .i64 ((rd_T60 l0_0 x5_1).f0)) ∧ w'.cell? ⟨(ad139.add ((x5_1).toNat * 3)).block, (ad139.add ((x5_1).toNat * 3)).off + 1, none⟩ = some (.int .i64 ((rd_T60 l0_0 x5_1).f1)) ∧ w'.cell? ⟨(ad139.add ((x5_1).toNat * 3)).block, (ad139.add ((x5_1).toNat * 3)).off + 2, none⟩ = some (.slice A139_2 ((rd_T60 l0_0 x5_1).f2).length c139_2) ∧ w'.cell? (ad140.add ((x5_1).toNat * 3)) = some (.int .i64 ((rd_T60 l1_0 x5_1).f0)) ∧ w'.cell? ⟨(ad140.add ((x5_1).toNat * 3)).block, (ad140.add ((x5_1).toNat * 3)).off + 1, none⟩ = some (.int .i64 ((rd_T60 l1_0 x5_1).f1)) ∧ w'.cell? ⟨(ad140.add ((x5_1).toNat * 3)).block, (ad140.add ((x5_1).toNat * 3)).off + 2, none⟩ = some (.slice A140_2 ((rd_T60 l1_0 x5_1).f2).length c140_2)) (ds := []) #[false, false, false, false, false, false, false, false, false, false, false, false] (by kernel_rfl) rfl rfl ⟨(blk_cell BK137.out 0).trans rfl, (blk_cell BK138.out 0).trans rfl, ((HB.out.cell (World.block_lt_of_cell? w _ hw139_0)).trans hw139_0), ((HB.out.cell (World.block_lt_of_cell? w _ hw139_1)).trans hw139_1), ((HB.out.cell (World.block_lt_of_cell? w _ hw139_2)).trans hw139_2), ((HB.out.cell (World.block_lt_of_cell? w _ hw140_0)).trans hw140_0), ((HB.out.cell (World.block_lt_of_cell? w _ hw140_1)).trans hw140_1), ((HB.out.cell (World.block_lt_of_cell? w _ hw140_2)).trans hw140_2)⟩ (fun hHeld => ?_); refine with_tabW exactpplref19_Same.tab6 exactpplref19_Same.bits6 (fun HT_ HW_ => ?_)
        generalize wr.drew = w16 at BK137 BK138 HB HR139_2 HR140_2 hx139_0 hx139_1 hx139_2 hx140_0 hx140_1 hx140_2 hHeld ⊢
        refine pu_ HT_ 0 20 (bm 12 1) ?_
        refine pu_ HT_ 2 22 (bm 12 5) ?_
        refine pu_ HT_ 5 25 (bm 12 37) ?_
        refine pu_ HT_ 7 27 (bm 12 165) ?_
        refine ta_ HT_ HW_ 1 21 (bm 12 167) hHeld ?_
        refine pu_ HT_ 3 23 (bm 12 175) ?_
        refine ta_ HT_ HW_ 4 24 (bm 12 191) hHeld ?_
        refine ta_ HT_ HW_ 6 26 (bm 12 255) hHeld ?_
        refine pu_ HT_ 8 28 (bm 12 511) ?_
        refine ta_ HT_ HW_ 9 29 (bm 12 1023) hHeld ?_
        refine one_ (i := 10) (N := some 30) #[true, true, true, true, true, true, true, true, true, true, true, false] rfl rfl (one_of HT_.out (by kernel_rfl)) (by decide) (fun K hK => ?_)
        refine goes_ Tryd.func49 (by kernel_rfl) rfl #[.agg #[.int .i64 ((rd_T60 l0_0 x5_1).f0), .int .i64 ((rd_T60 l0_0 x5_1).f1), .slice A139_2 ((rd_T60 l0_0 x5_1).f2).length c139_2], .agg #[.int .i64 ((rd_T60 l1_0 x5_1).f0), .int .i64 ((rd_T60 l1_0 x5_1).f1), .slice A140_2 ((rd_T60 l1_0 x5_1).f2).length c140_2]] (by rfl) rfl rfl (by (try simp only [List.map_toArray, List.map_cons, List.map_nil]); first | done | rfl | (simp only [List.length_drop, List.length_take]; rfl)) ?_
        with_reducible refine (exactpplref19_SameNode.calls k1 ((rd_T60 l0_0 x5_1).f0) ((rd_T60 l0_0 x5_1).f1) _ _ ((rd_T60 l0_0 x5_1).f2) ((rd_T60 l1_0 x5_1).f0) ((rd_T60 l1_0 x5_1).f1) _ _ ((rd_T60 l1_0 x5_1).f2) true _ ?side1 ?side2 ?side3 ?side4 A12.out).mono ?_
        (case side1 => repeat (first | exact (Kd.C_below HR139_2.out HB.out) | (with_reducible refine Kd.C_alloc ?_ _) | (with_reducible refine Kd.C_drewN ?_ _) | (with_reducible refine Kd.C_drew ?_)))
        (case side2 => exact HC139_2.out)
        (case side3 => repeat (first | exact (Kd.C_below HR140_2.out HB.out) | (with_reducible refine Kd.C_alloc ?_ _) | (with_reducible refine Kd.C_drewN ?_ _) | (with_reducible refine Kd.C_drew ?_)))
        (case side4 => exact HC140_2.out)
        rintro e w17 ⟨rfl, hb⟩
        refine ⟨_, rfl, ?_⟩
        replace BK137 := Aside0.mk (blk_below (g := gb137) (o := .cells #[.slice (some ad139) l0_0.length c0_0] 31 (0, 0)) bk_ hb)
        replace BK138 := Aside0.mk (blk_below (g := gb138) (o := .cells #[.slice (some ad140) l1_0.length c1_0] 31 (0, 0)) bk_ hb)
        replace HB := Aside0.mk (below_step bl_ hb)
        (try clear hb)
        (try clear hb2)
        (try clear hk)
        (try clear hi)
        refine hK.out _ _ ⟨(blk_cell BK137.out 0).trans rfl, (blk_cell BK138.out 0).trans rfl, ((HB.out.cell (World.block_lt_of_cell? w _ hw139_0)).trans hw139_0), ((HB.out.cell (World.block_lt_of_cell? w _ hw139_1)).trans hw139_1), ((HB.out.cell (World.block_lt_of_cell? w _ hw139_2)).trans hw139_2), ((HB.out.cell (World.block_lt_of_cell? w _ hw140_0)).trans hw140_0), ((HB.out.cell (World.block_lt_of_cell? w _ hw140_1)).trans hw140_1), ((HB.out.cell (World.block_lt_of_cell? w _ hw140_2)).trans hw140_2)⟩ (fun hHeld => ?_)
        clear hK K
        refine norm_ (a' := ?_) ?_ ?_
        rotate_left
        ·show Act.put _ (some 30) _ = _
         simp only [Act.put, List.setIfInBounds_toArray, List.set_cons_zero, List.set_cons_succ, i64_w, i32_w]
         rfl
        refine pu_ HT_ 11 31 #[true, true, true, true, true, true, true, true, true, true, true, true] ?_
        refine done_ (done_of HT_.out (by kernel_rfl)) ?_
        try go_wp2
        go_roundg k1
        case measure => have := HK1.out; omega
        case rel => exact ⟨(wrap64 (x5_1 + 1)), rs_, H', ⟨by have := HK1.out; omega⟩, ⟨bk_⟩, ⟨bk_⟩, ⟨bl_⟩⟩
       ·replace c13 := Bool.eq_false_iff.mpr c13
        subst c13
        have H1 : (some false) = some r := by rw [if_neg (show ¬ (false = true) by decide)] at H; exact H
        clear H
        have H := H1
        clear H1
        obtain rfl := Option.some.inj H
        have hnb18 := NB137_138.out
        have hnc18 := NB138_137.out
        obtain ⟨hcz19_0, hfz19_0⟩ := cf1_ BK137.out
        try go_wp2
        replace BK137 := Aside0.mk (blk_drew BK137.out)
        replace BK138 := Aside0.mk (blk_drew BK138.out)
        replace HB := Aside0.mk (below_drew1 HB.out)
        have p139 : 0 ≤ (x5_1 : Int) := dt_
        have q139 : x5_1 < (l0_0.length : Int) := dt_
        obtain ⟨ad139, A139_2, c139_2, e139, hx139_0, hx139_1, hx139_2, hl139_2, hi139_2⟩ := at_T60 HR0_0.out x5_1 p139 q139
        have hw139_2 := hx139_2
        have hw139_1 := hx139_1
        have hw139_0 := hx139_0
        cases e139
        replace hx139_0 := (HB.out.cell (World.block_lt_of_cell? w _ hx139_0)).trans hx139_0
        replace hx139_1 := (HB.out.cell (World.block_lt_of_cell? w _ hx139_1)).trans hx139_1
        replace hx139_2 := (HB.out.cell (World.block_lt_of_cell? w _ hx139_2)).trans hx139_2
        have HR139_2 := Aside0.mk hi139_2
        have HC139_2 := Aside0.mk hl139_2
        clear hi139_2 hl139_2
        replace p139 := eq_true p139
        replace q139 := eq_true q139
        have p140 : 0 ≤ (x5_1 : Int) := dt_
        have q140 : x5_1 < (l1_0.length : Int) := dt_
        obtain ⟨ad140, A140_2, c140_2, e140, hx140_0, hx140_1, hx140_2, hl140_2, hi140_2⟩ := at_T60 HR1_0.out x5_1 p140 q140
        have hw140_2 := hx140_2
        have hw140_1 := hx140_1
        have hw140_0 := hx140_0
        cases e140
        replace hx140_0 := (HB.out.cell (World.block_lt_of_cell? w _ hx140_0)).trans hx140_0
        replace hx140_1 := (HB.out.cell (World.block_lt_of_cell? w _ hx140_1)).trans hx140_1
        replace hx140_2 := (HB.out.cell (World.block_lt_of_cell? w _ hx140_2)).trans hx140_2
        have HR140_2 := Aside0.mk hi140_2
        have HC140_2 := Aside0.mk hl140_2
        clear hi140_2 hl140_2
        replace p140 := eq_true p140
        replace q140 := eq_true q140
        refine start_ (n := 12) (S := fun w' => w'.cell? ⟨gb137, 0, none⟩ = some (.slice (some ad139) l0_0.length c0_0) ∧ w'.cell? ⟨gb138, 0, none⟩ = some (.slice (some ad140) l1_0.length c1_0) ∧ w'.cell? (ad139.add ((x5_1).toNat * 3)) = some (.int .i64 ((rd_T60 l0_0 x5_1).f0)) ∧ w'.cell? ⟨(ad139.add ((x5_1).toNat * 3)).block, (ad139.add ((x5_1).toNat * 3)).off + 1, none⟩ = some (.int .i64 ((rd_T60 l0_0 x5_1).f1)) ∧ w'.cell? ⟨(ad139.add ((x5_1).toNat * 3)).block, (ad139.add ((x5_1).toNat * 3)).off + 2, none⟩ = some (.slice A139_2 ((rd_T60 l0_0 x5_1).f2).length c139_2) ∧ w'.cell? (ad140.add ((x5_1).toNat * 3)) = some (.int .i64 ((rd_T60 l1_0 x5_1).f0)) ∧ w'.cell? ⟨(ad140.add ((x5_1).toNat * 3)).block, (ad140.add ((x5_1).toNat * 3)).off + 1, none⟩ = some (.int .i64 ((rd_T60 l1_0 x5_1).f1)) ∧ w'.cell? ⟨(ad140.add ((x5_1).toNat * 3)).block, (ad140.add ((x5_1).toNat * 3)).off + 2, none⟩ = some (.slice A140_2 ((rd_T60 l1_0 x5_1).f2).length c140_2)) (ds := []) #[false, false, false, false, false, false, false, false, false, false, false, false] (by kernel_rfl) rfl rfl ⟨(blk_cell BK137.out 0).trans rfl, (blk_cell BK138.out 0).trans rfl, ((HB.out.cell (World.block_lt_of_cell? w _ hw139_0)).trans hw139_0), ((HB.out.cell (World.block_lt_of_cell? w _ hw139_1)).trans hw139_1), ((HB.out.cell (World.block_lt_of_cell? w _ hw139_2)).trans hw139_2), ((HB.out.cell (World.block_lt_of_cell? w _ hw140_0)).trans hw140_0), ((HB.out.cell (World.block_lt_of_cell? w _ hw140_1)).trans hw140_1), ((HB.out.cell (World.block_lt_of_cell? w _ hw140_2)).trans hw140_2)⟩ (fun hHeld => ?_); refine with_tabW exactpplref19_Same.tab6 exactpplref19_Same.bits6 (fun HT_ HW_ => ?_)
        generalize wr.drew = w20 at BK137 BK138 HB HR139_2 HR140_2 hx139_0 hx139_1 hx139_2 hx140_0 hx140_1 hx140_2 hHeld ⊢
        refine pu_ HT_ 0 20 (bm 12 1) ?_
        refine pu_ HT_ 2 22 (bm 12 5) ?_
        refine pu_ HT_ 5 25 (bm 12 37) ?_
        refine pu_ HT_ 7 27 (bm 12 165) ?_
        refine ta_ HT_ HW_ 1 21 (bm 12 167) hHeld ?_
        refine pu_ HT_ 3 23 (bm 12 175) ?_
        refine ta_ HT_ HW_ 4 24 (bm 12 191) hHeld ?_
        refine ta_ HT_ HW_ 6 26 (bm 12 255) hHeld ?_
        refine pu_ HT_ 8 28 (bm 12 511) ?_
        refine ta_ HT_ HW_ 9 29 (bm 12 1023) hHeld ?_
        refine one_ (i := 10) (N := some 30) #[true, true, true, true, true, true, true, true, true, true, true, false] rfl rfl (one_of HT_.out (by kernel_rfl)) (by decide) (fun K hK => ?_)
        refine goes_ Tryd.func49 (by kernel_rfl) rfl #[.agg #[.int .i64 ((rd_T60 l0_0 x5_1).f0), .int .i64 ((rd_T60 l0_0 x5_1).f1), .slice A139_2 ((rd_T60 l0_0 x5_1).f2).length c139_2], .agg #[.int .i64 ((rd_T60 l1_0 x5_1).f0), .int .i64 ((rd_T60 l1_0 x5_1).f1), .slice A140_2 ((rd_T60 l1_0 x5_1).f2).length c140_2]] (by rfl) rfl rfl (by (try simp only [List.map_toArray, List.map_cons, List.map_nil]); first | done | rfl | (simp only [List.length_drop, List.length_take]; rfl)) ?_
        with_reducible refine (exactpplref19_SameNode.calls k1 ((rd_T60 l0_0 x5_1).f0) ((rd_T60 l0_0 x5_1).f1) _ _ ((rd_T60 l0_0 x5_1).f2) ((rd_T60 l1_0 x5_1).f0) ((rd_T60 l1_0 x5_1).f1) _ _ ((rd_T60 l1_0 x5_1).f2) false _ ?side1 ?side2 ?side3 ?side4 A12.out).mono ?_
        (case side1 => repeat (first | exact (Kd.C_below HR139_2.out HB.out) | (with_reducible refine Kd.C_alloc ?_ _) | (with_reducible refine Kd.C_drewN ?_ _) | (with_reducible refine Kd.C_drew ?_)))
        (case side2 => exact HC139_2.out)
        (case side3 => repeat (first | exact (Kd.C_below HR140_2.out HB.out) | (with_reducible refine Kd.C_alloc ?_ _) | (with_reducible refine Kd.C_drewN ?_ _) | (with_reducible refine Kd.C_drew ?_)))
        (case side4 => exact HC140_2.out)
        rintro e w21 ⟨rfl, hb⟩
        refine ⟨_, rfl, ?_⟩
        replace BK137 := Aside0.mk (blk_below (g := gb137) (o := .cells #[.slice (some ad139) l0_0.length c0_0] 31 (0, 0)) bk_ hb)
        replace BK138 := Aside0.mk (blk_below (g := gb138) (o := .cells #[.slice (some ad140) l1_0.length c1_0] 31 (0, 0)) bk_ hb)
        replace HB := Aside0.mk (below_step bl_ hb)
        (try clear hb)
        (try clear hb2)
        (try clear hk)
        (try clear hi)
        refine hK.out _ _ ⟨(blk_cell BK137.out 0).trans rfl, (blk_cell BK138.out 0).trans rfl, ((HB.out.cell (World.block_lt_of_cell? w _ hw139_0)).trans hw139_0), ((HB.out.cell (World.block_lt_of_cell? w _ hw139_1)).trans hw139_1), ((HB.out.cell (World.block_lt_of_cell? w _ hw139_2)).trans hw139_2), ((HB.out.cell (World.block_lt_of_cell? w _ hw140_0)).trans hw140_0), ((HB.out.cell (World.block_lt_of_cell? w _ hw140_1)).trans hw140_1), ((HB.out.cell (World.block_lt_of_cell? w _ hw140_2)).trans hw140_2)⟩ (fun hHeld => ?_)
        clear hK K
        refine norm_ (a' := ?_) ?_ ?_
        rotate_left
        ·show Act.put _ (some 30) _ = _
         simp only [Act.put, List.setIfInBounds_toArray, List.set_cons_zero, List.set_cons_succ, i64_w, i32_w]
         rfl
        refine pu_ HT_ 11 31 #[true, true, true, true, true, true, true, true, true, true, true, true] ?_
        refine done_ (done_of HT_.out (by kernel_rfl)) ?_
        try go_wp2
        go_ret
        exact ⟨re_, bl_⟩
      ·rw [if_neg c11] at H
       exact absurd H (by simp)
     ·rw [if_neg c10] at H
      exact absurd H (by simp)
    ·rw [if_neg c9] at H
     have c9b0 : decide (x5_1 < (l0_0.length : Int)) = false := decide_eq_false c9
     clear c9
     obtain rfl := Option.some.inj H
     have hnb22 := NB137_138.out
     have hnc22 := NB138_137.out
     obtain ⟨hcz23_0, hfz23_0⟩ := cf1_ BK137.out
     go_wp2
     go_ret
     exact ⟨re_, bl_⟩
 ·rw [if_neg c3] at H
  have c3b0 : ((l0_0.length : Int) == (l1_0.length : Int)) = false := beq_eq_false_iff_ne.mpr c3
  have c3b1 : ((l0_0.length : Int) != (l1_0.length : Int)) = true := bne_iff_ne.mpr c3
  have c3b2 : (l0_0.length == l1_0.length) = false := by first | simpa using c3 | (simp at c3 ⊢; omega)
  obtain rfl := Option.some.inj H
  go_enter Tryd.func20, Tryd.ntmps20
  go_wp2_with (first | ((with_reducible refine gate_dst (N := 2) rfl ?_); refine box_event ?hg (N := 2) ?hd (cs := #[.slice A0_0 l0_0.length c0_0]) (t := 31) ?hr ?_; (case hd => rfl); (case hg => rfl); (case hr => first | (go_simp; done) | (go_simp; rfl)); intro gb137 hg w24 hbox hb; have BK137 := Aside0.mk (hbox); have GW137 : Aside0 (w.heap.size ≤ gb137) := gw_ hg (below_size bl_); have GE137 := GW137; replace HB := Aside0.mk (below_step bl_ hb); clear hb hbox hg) | ((with_reducible refine gate_dst (N := 3) rfl ?_); refine box_event ?hg (N := 3) ?hd (cs := #[.slice A1_0 l1_0.length c1_0]) (t := 31) ?hr ?_; (case hd => rfl); (case hg => rfl); (case hr => first | (go_simp; done) | (go_simp; rfl)); intro gb138 hg w25 hbox hb; have BK138 := Aside0.mk (hbox); have GW138 : Aside0 (w.heap.size ≤ gb138) := gw_ hg (below_size bl_); have GE138 := GW138; have NB137_138 := Aside0.mk ((by rw [hg]; exact Nat.ne_of_lt (blk_lt (g := gb137) (o := .cells #[.slice A0_0 l0_0.length c0_0] 31 (0, 0)) bk_) : gb137 ≠ gb138)); have NB138_137 := Aside0.mk ((by rw [hg]; exact Nat.ne_of_gt (blk_lt (g := gb137) (o := .cells #[.slice A0_0 l0_0.length c0_0] 31 (0, 0)) bk_) : gb138 ≠ gb137)); replace BK137 := Aside0.mk (blk_below (g := gb137) (o := .cells #[.slice A0_0 l0_0.length c0_0] 31 (0, 0)) bk_ hb); replace HB := Aside0.mk (below_step bl_ hb); clear hb hbox hg; have hnb26 := NB137_138.out; have hnc26 := NB138_137.out; obtain ⟨hcz27_0, hfz27_0⟩ := cf1_ BK137.out; obtain ⟨hcz28_0, hfz28_0⟩ := cf1_ BK138.out))
  go_ret
  exact ⟨re_, bl_⟩

end Go.Proofs.YtopbjginpmdebaaDoor.K
-- what the references' SameInts, SameNode, Same say
namespace Go.Proofs.YtopbjginpmdebaaDoor.K
open Go.RowKit Go.Maps Go.Proofs.YtopbjginpmdebaaDoorW.PrintWords Go.Proofs.YtopbjginpmdebaaDoorW.PrintLast Go.Proofs.YtopbjginpmdebaaDoorW.PrintMore
set_option linter.unusedVariables false
set_option linter.unusedSimpArgs false
theorem w64_succ {j : Nat} (h : j < 4611686018427387904) : wrap64 ((j : Int) + 1) = ((j + 1 : Nat) : Int) := by unfold wrap64; omega
theorem rd_get {xs : List Int} {j : Nat} (h : j < xs.length) : rd xs (j : Int) = xs[j] := by unfold rd; rw [Int.toNat_natCast, List.getD_eq_getElem?_getD, List.getElem?_eq_getElem h]; rfl
theorem sameInts_l (xs ys : List Int) (hl : xs.length = ys.length) (hb : xs.length < 4611686018427387904) : ∀ (m j k : Nat), xs.length - j ≤ m → j ≤ xs.length → m < k → exactpplref07_SameInts.l0 k xs ys (j : Int) = some (decide (xs.drop j = ys.drop j)) := by
  intro m
  induction m with
  | zero =>
    intro j k h1 h2 h3
    obtain ⟨f, rfl⟩ : ∃ f, k = f + 1 := ⟨k - 1, by omega⟩
    have e : j = xs.length := by omega
    simp only [exactpplref07_SameInts.l0]
    rw [if_neg (by omega), List.drop_of_length_le (by omega), List.drop_of_length_le (by omega)]; simp
  | succ m ih =>
    intro j k h1 h2 h3
    obtain ⟨f, rfl⟩ : ∃ f, k = f + 1 := ⟨k - 1, by omega⟩
    by_cases hj : j < xs.length
    · have hj2 : j < ys.length := by omega
      simp only [exactpplref07_SameInts.l0]
      rw [if_pos (by omega), if_pos (by omega), if_pos (by omega), rd_get hj, rd_get hj2, w64_succ (by omega), ih (j + 1) f (by omega) (by omega) (by omega)]
      have hd : (xs.drop j = ys.drop j) ↔ (xs[j] = ys[j] ∧ xs.drop (j + 1) = ys.drop (j + 1)) := by rw [List.drop_eq_getElem_cons hj, List.drop_eq_getElem_cons hj2, List.cons.injEq]
      by_cases he : xs[j] = ys[j]
      · rw [if_pos he, decide_eq_decide.2 (hd.trans ⟨fun h => h.2, fun h => ⟨he, h⟩⟩)]
      · rw [if_neg he, decide_eq_false (fun h => he (hd.1 h).1)]
    · have e : j = xs.length := by omega
      simp only [exactpplref07_SameInts.l0]
      rw [if_neg (by omega), List.drop_of_length_le (by omega), List.drop_of_length_le (by omega)]; simp
theorem sameInts_f (xs ys : List Int) (hb : xs.length < 4611686018427387904) (k : Nat) (hk : xs.length < k) : exactpplref07_SameInts.f k xs ys = some (decide (xs = ys)) := by
  unfold exactpplref07_SameInts.f
  by_cases hl : xs.length = ys.length
  · rw [if_pos (by omega)]
    have := sameInts_l xs ys hl hb xs.length 0 k (by omega) (by omega) hk
    simpa using this
  · rw [if_neg (by omega), decide_eq_false (fun e => hl (by rw [e]))]
theorem sameNode_f (n m : Nd) (hb : n.f2.length < 4611686018427387904) (k : Nat) (hk : n.f2.length < k) : exactpplref19_SameNode.f k n.f0 n.f1 n.f2 m.f0 m.f1 m.f2 = some (decide (n = m)) := by
  unfold exactpplref19_SameNode.f
  rw [sameInts_f _ _ hb k hk]
  by_cases h0 : n.f0 = m.f0
  · rw [if_pos h0]
    by_cases h1 : n.f1 = m.f1
    · rw [if_pos h1]
      by_cases h2 : n.f2 = m.f2
      · have := nd_ext h0 h1 h2; subst this; simp
      · have : ¬ n = m := fun e => h2 (by rw [e])
        simp [h2, this]
    · have : ¬ n = m := fun e => h1 (by rw [e])
      rw [if_neg h1]; simp [this]
  · have : ¬ n = m := fun e => h0 (by rw [e])
    rw [if_neg h0]; simp [this]
theorem same_l (xs ys : List Nd) (hl : xs.length = ys.length) (hb : xs.length < 4611686018427387904) (q : Nat) (hq : q < 4611686018427387904) (hx : ∀ n ∈ xs, n.f2.length ≤ q) : ∀ (m j k : Nat), xs.length - j ≤ m → j ≤ xs.length → m + q + 1 < k → exactpplref19_Same.l0 k (j : Int) xs ys = some (decide (xs.drop j = ys.drop j)) := by
  intro m
  induction m with
  | zero =>
    intro j k h1 h2 h3
    obtain ⟨f, rfl⟩ : ∃ f, k = f + 1 := ⟨k - 1, by omega⟩
    have e : j = xs.length := by omega
    simp only [exactpplref19_Same.l0]
    rw [if_neg (by omega), List.drop_of_length_le (by omega), List.drop_of_length_le (by omega)]; simp
  | succ m ih =>
    intro j k h1 h2 h3
    obtain ⟨f, rfl⟩ : ∃ f, k = f + 1 := ⟨k - 1, by omega⟩
    by_cases hj : j < xs.length
    · have hj2 : j < ys.length := by omega
      have e1 : rd_T60 xs (j : Int) = xs[j] := (rd_nth xs j).trans (nth_lt hj)
      have e2 : rd_T60 ys (j : Int) = ys[j] := (rd_nth ys j).trans (nth_lt hj2)
      have hm := hx xs[j] (List.getElem_mem hj)
      simp only [exactpplref19_Same.l0]
      rw [if_pos (by omega), if_pos (by omega), if_pos (by omega), e1, e2, sameNode_f xs[j] ys[j] (by omega) f (by omega), Option.bind_some, w64_succ (by omega), ih (j + 1) f (by omega) (by omega) (by omega)]
      have hd : (xs.drop j = ys.drop j) ↔ (xs[j] = ys[j] ∧ xs.drop (j + 1) = ys.drop (j + 1)) := by rw [List.drop_eq_getElem_cons hj, List.drop_eq_getElem_cons hj2, List.cons.injEq]
      by_cases he : xs[j] = ys[j]
      · rw [decide_eq_true he, if_pos rfl, decide_eq_decide.2 (hd.trans ⟨fun h => h.2, fun h => ⟨he, h⟩⟩)]
      · rw [decide_eq_false he, if_neg (by decide), decide_eq_false (fun h => he (hd.1 h).1)]
    · have e : j = xs.length := by omega
      simp only [exactpplref19_Same.l0]
      rw [if_neg (by omega), List.drop_of_length_le (by omega), List.drop_of_length_le (by omega)]; simp
theorem same_f (xs ys : List Nd) (hb : xs.length < 4611686018427387904) (q : Nat) (hq : q < 4611686018427387904) (hx : ∀ n ∈ xs, n.f2.length ≤ q) (k : Nat) (hk : xs.length + q + 1 < k) : exactpplref19_Same.f k xs ys = some (decide (xs = ys)) := by
  unfold exactpplref19_Same.f
  by_cases hl : xs.length = ys.length
  · rw [if_pos (by omega)]
    have := same_l xs ys hl hb q hq hx xs.length 0 k (by omega) (by omega) hk
    simpa using this
  · rw [if_neg (by omega), decide_eq_false (fun e => hl (by rw [e]))]
/-- Same, as it is called -/
theorem sameD_calls (xs ys : List Nd) (A B : Option Addr) (c d : Nat) (w : World) (hA : k60.C w A xs.length xs) (hc : xs.length ≤ c) (hB : k60.C w B ys.length ys) (hd : ys.length ≤ d) (hb : xs.length < 4611686018427387904) (hx : ∀ n ∈ xs, n.f2.length ≤ 1073741824) :
    Calls Tryd.prog 20 #[.agg #[.slice A xs.length c], .agg #[.slice B ys.length d]] w fun e w' => e = .returned (.bool (decide (xs = ys))) ∧ Below w.heap.size w w' :=
  exactpplref19_Same.calls (xs.length + 1073741824 + 2) A c xs B d ys _ w hA hc hB hd (same_f xs ys hb 1073741824 (by decide) hx _ (by omega))
end Go.Proofs.YtopbjginpmdebaaDoor.K
-- the reference's Graph says what isGraph says
namespace Go.Proofs.YtopbjginpmdebaaDoor.K
open Go.RowKit Go.Maps Go.Proofs.YtopbjginpmdebaaDoorW.PrintWords Go.Proofs.YtopbjginpmdebaaDoorW.PrintLast Go.Proofs.YtopbjginpmdebaaDoorW.PrintMore
set_option linter.unusedVariables false
set_option linter.unusedSimpArgs false
/-- branches of one site ahead of node i have as many kids -/
def ShpAt (nodes : List Nd) (i : Nat) (s : Int) (n : Nat) (j : Nat) : Prop := ∀ k : Nat, j ≤ k → k < i → (nth nodes (k : Int)).f0 = s → (nth nodes (k : Int)).f2.length = n
/-- a kid, as the reference wants it -/
def KidR (nodes : List Nd) (i : Nat) (s c : Int) : Prop := (0 ≤ c ∧ c < (i : Int)) ∧ ¬ ((nth nodes c).f0 ≠ -1 ∧ (nth nodes c).f0 ≤ s)
theorem sd_l1 (nodes : List Nd) (i : Nat) (hi : i ≤ nodes.length) (hb : nodes.length < 4611686018427387904) (s v : Int) (ks : List Int) : ∀ (m j fuel : Nat), i - j ≤ m → j ≤ i → m < fuel →
    ∃ b, exactpplref19_sound.l1 fuel nodes (i : Int) (j : Int) s v ks = some b ∧ (b = true ↔ ShpAt nodes i s ks.length j) := by
  intro m
  induction m with
  | zero =>
    intro j fuel h1 h2 h3
    obtain ⟨f, rfl⟩ : ∃ f, fuel = f + 1 := ⟨fuel - 1, by omega⟩
    have e : j = i := by omega
    subst e
    simp only [exactpplref19_sound.l1]
    rw [if_neg (by omega)]
    exact ⟨true, rfl, fun _ k h4 h5 => by omega, fun _ => rfl⟩
  | succ m ih =>
    intro j fuel h1 h2 h3
    obtain ⟨f, rfl⟩ : ∃ f, fuel = f + 1 := ⟨fuel - 1, by omega⟩
    by_cases hj : j < i
    · simp only [exactpplref19_sound.l1]
      rw [if_pos (by omega), if_pos (by omega), if_pos (by omega), w64_succ (by omega), rd_nth]
      obtain ⟨b, hb1, hb2⟩ := ih (j + 1) f (by omega) (by omega) (by omega)
      by_cases hs : (nth nodes (j : Int)).f0 = s
      · rw [if_pos hs]
        by_cases hl : ((nth nodes (j : Int)).f2.length : Int) = (ks.length : Int)
        · rw [if_pos hl]
          refine ⟨b, hb1, hb2.trans ⟨fun h k h4 h5 h6 => ?_, fun h k h4 h5 h6 => h k (by omega) h5 h6⟩⟩
          rcases Nat.lt_or_ge j k with h7 | h7
          · exact h k h7 h5 h6
          · obtain rfl : k = j := by omega
            omega
        · rw [if_neg hl]
          exact ⟨false, rfl, (fun h => by cases h), fun h => absurd (h j (Nat.le_refl _) hj hs) (by omega)⟩
      · rw [if_neg hs]
        refine ⟨b, hb1, hb2.trans ⟨fun h k h4 h5 h6 => ?_, fun h k h4 h5 h6 => h k (by omega) h5 h6⟩⟩
        rcases Nat.lt_or_ge j k with h7 | h7
        · exact h k h7 h5 h6
        · obtain rfl : k = j := by omega
          exact absurd h6 hs
    · have e : j = i := by omega
      subst e
      simp only [exactpplref19_sound.l1]
      rw [if_neg (by omega)]
      exact ⟨true, rfl, fun _ k h4 h5 => by omega, fun _ => rfl⟩
theorem sd_l0 (nodes : List Nd) (i : Nat) (hi : i ≤ nodes.length) (hb : nodes.length < 4611686018427387904) (s v : Int) (ks : List Int) (hk : ks.length < 4611686018427387904) : ∀ (m j fuel : Nat), ks.length - j ≤ m → j ≤ ks.length → m + i + 1 < fuel →
    ∃ b, exactpplref19_sound.l0 fuel nodes (i : Int) (j : Int) s v ks = some b ∧ (b = true ↔ (∀ c ∈ ks.drop j, KidR nodes i s c) ∧ ShpAt nodes i s ks.length 0) := by
  intro m
  induction m with
  | zero =>
    intro j fuel h1 h2 h3
    obtain ⟨f, rfl⟩ : ∃ f, fuel = f + 1 := ⟨fuel - 1, by omega⟩
    have e : j = ks.length := by omega
    subst e
    simp only [exactpplref19_sound.l0]
    rw [if_neg (by omega)]
    obtain ⟨b, h4, h5⟩ := sd_l1 nodes i hi hb s v ks i 0 f (by omega) (by omega) (by omega)
    exact ⟨b, h4, h5.trans ⟨fun h => ⟨by simp, h⟩, fun h => h.2⟩⟩
  | succ m ih =>
    intro j fuel h1 h2 h3
    obtain ⟨f, rfl⟩ : ∃ f, fuel = f + 1 := ⟨fuel - 1, by omega⟩
    by_cases hj : j < ks.length
    · obtain ⟨b, hb1, hb2⟩ := ih (j + 1) f (by omega) (by omega) (by omega)
      have hd : ks.drop j = ks[j] :: ks.drop (j + 1) := List.drop_eq_getElem_cons hj
      simp only [exactpplref19_sound.l0]
      rw [if_pos (by omega), if_pos (by omega), rd_get hj, w64_succ (by omega), hd]
      have hno : ∀ h : ¬ KidR nodes i s ks[j], (false = true ↔ (∀ c ∈ ks[j] :: ks.drop (j + 1), KidR nodes i s c) ∧ ShpAt nodes i s ks.length 0) := fun h => ⟨(fun e => by cases e), fun e => absurd (e.1 _ List.mem_cons_self) h⟩
      by_cases h4 : ks[j] < 0
      · rw [if_pos h4]
        exact ⟨false, rfl, hno (fun e => by have := e.1.1; omega)⟩
      · rw [if_neg h4]
        by_cases h5 : ks[j] ≥ (i : Int)
        · rw [if_pos h5]
          exact ⟨false, rfl, hno (fun e => by have := e.1.2; omega)⟩
        · rw [if_neg h5, if_pos (by omega), if_pos (by omega), show rd_T60 nodes ks[j] = nth nodes ks[j] from rfl, exactpplref19_IsBranch.f, Option.bind_some]
          have hyes : ∀ h : KidR nodes i s ks[j], (b = true ↔ (∀ c ∈ ks[j] :: ks.drop (j + 1), KidR nodes i s c) ∧ ShpAt nodes i s ks.length 0) := fun h => hb2.trans ⟨fun e => ⟨fun c hc => (List.mem_cons.1 hc).elim (fun e2 => by rw [e2]; exact h) (e.1 c), e.2⟩, fun e => ⟨fun c hc => e.1 c (List.mem_cons_of_mem _ hc), e.2⟩⟩
          by_cases h6 : (nth nodes ks[j]).f0 = -1
          · rw [show ((nth nodes ks[j]).f0 != -1) = false by simp [h6], if_neg (by decide)]
            exact ⟨b, hb1, hyes ⟨⟨by omega, by omega⟩, fun e => e.1 h6⟩⟩
          · rw [show ((nth nodes ks[j]).f0 != -1) = true by simp [h6], if_pos rfl]
            by_cases h7 : (nth nodes ks[j]).f0 ≤ s
            · rw [if_pos h7]
              exact ⟨false, rfl, hno (fun e => e.2 ⟨h6, h7⟩)⟩
            · rw [if_neg h7]
              exact ⟨b, hb1, hyes ⟨⟨by omega, by omega⟩, fun e => h7 e.2⟩⟩
    · have e : j = ks.length := by omega
      subst e
      simp only [exactpplref19_sound.l0]
      rw [if_neg (by omega)]
      obtain ⟨b, h4, h5⟩ := sd_l1 nodes i hi hb s v ks i 0 f (by omega) (by omega) (by omega)
      exact ⟨b, h4, h5.trans ⟨fun h => ⟨by simp, h⟩, fun h => h.2⟩⟩
/-- node i is as a graph demands it, as the reference says it -/
def Snd (nodes : List Nd) (i : Nat) : Prop := ((nth nodes (i : Int)).f0 = -1 ∧ (nth nodes (i : Int)).f2 = [] ∧ -1073741824 ≤ (nth nodes (i : Int)).f1 ∧ (nth nodes (i : Int)).f1 ≤ 1073741824) ∨
  ((0 ≤ (nth nodes (i : Int)).f0 ∧ (nth nodes (i : Int)).f0 < 64 ∧ (nth nodes (i : Int)).f1 = 0 ∧ 1 ≤ (nth nodes (i : Int)).f2.length ∧ (nth nodes (i : Int)).f2.length ≤ 16) ∧ (∀ c ∈ (nth nodes (i : Int)).f2, KidR nodes i (nth nodes (i : Int)).f0 c) ∧ ShpAt nodes i (nth nodes (i : Int)).f0 (nth nodes (i : Int)).f2.length 0)
theorem sd_f (nodes : List Nd) (i : Nat) (hi : i < nodes.length) (hb : nodes.length < 4611686018427387904) (hk : (nth nodes (i : Int)).f2.length < 4611686018427387904) (fuel : Nat) (hf : (nth nodes (i : Int)).f2.length + i + 4 < fuel) :
    ∃ b, exactpplref19_sound.f fuel nodes (i : Int) = some b ∧ (b = true ↔ Snd nodes i) := by
  obtain ⟨f, rfl⟩ : ∃ f, fuel = f + 1 := ⟨fuel - 1, by omega⟩
  unfold exactpplref19_sound.f
  rw [if_pos (by omega), if_pos (by omega), rd_nth]
  have hnd : nth nodes (i : Int) = nth nodes (i : Int) := rfl
  unfold Snd
  generalize nth nodes (i : Int) = n at hk hf ⊢
  rw [exactpplref19_IsBranch.f, Option.bind_some]
  obtain ⟨b, h4, h5⟩ := sd_l0 nodes i (by omega) hb n.f0 n.f1 n.f2 hk n.f2.length 0 f (by omega) (by omega) (by omega)
  rw [List.drop_zero] at h5
  simp only [exactpplref19_sound.j0, if_true]
  by_cases h6 : n.f0 = -1
  · rw [show (n.f0 != -1) = false by simp [h6], if_neg (by decide)]
    have h0 : ((n.f2.length : Int) = 0) ↔ n.f2 = [] := by rw [← List.length_eq_zero_iff]; omega
    by_cases h7 : (n.f2.length : Int) = 0
    · rw [if_pos h7]
      by_cases h8 : n.f1 ≥ -1073741824
      · rw [if_pos h8]
        refine ⟨_, rfl, ?_⟩
        rw [decide_eq_true_eq]
        exact ⟨fun h => .inl ⟨h6, h0.1 h7, h8, h⟩, fun h => h.elim (fun e => e.2.2.2) (fun e => by omega)⟩
      · rw [if_neg h8]
        exact ⟨_, rfl, (fun h => by cases h), fun h => h.elim (fun e => by omega) (fun e => by omega)⟩
    · rw [if_neg h7]
      exact ⟨_, rfl, (fun h => by cases h), fun h => h.elim (fun e => absurd (h0.2 e.2.1) h7) (fun e => by omega)⟩
  · rw [show (n.f0 != -1) = true by simp [h6], if_pos rfl]
    have hno : ∀ h : ¬ (0 ≤ n.f0 ∧ n.f0 < 64 ∧ n.f1 = 0 ∧ 1 ≤ n.f2.length ∧ n.f2.length ≤ 16), (false = true ↔ (n.f0 = -1 ∧ n.f2 = [] ∧ -1073741824 ≤ n.f1 ∧ n.f1 ≤ 1073741824) ∨ ((0 ≤ n.f0 ∧ n.f0 < 64 ∧ n.f1 = 0 ∧ 1 ≤ n.f2.length ∧ n.f2.length ≤ 16) ∧ (∀ c ∈ n.f2, KidR nodes i n.f0 c) ∧ ShpAt nodes i n.f0 n.f2.length 0)) :=
      fun h => ⟨(fun e => by cases e), fun e => e.elim (fun e => absurd e.1 h6) (fun e => absurd e.1 h)⟩
    by_cases h7 : n.f0 < 0
    · rw [if_pos h7]; exact ⟨false, rfl, hno (by omega)⟩
    · rw [if_neg h7]
      by_cases h8 : n.f0 ≥ 64
      · rw [if_pos h8]; exact ⟨false, rfl, hno (by omega)⟩
      · rw [if_neg h8]
        by_cases h9 : n.f1 = 0
        · rw [if_pos h9]
          by_cases h10 : (n.f2.length : Int) < 1
          · rw [if_pos h10]; exact ⟨false, rfl, hno (by omega)⟩
          · rw [if_neg h10]
            by_cases h11 : (n.f2.length : Int) > 16
            · rw [decide_eq_true h11, if_pos rfl]; exact ⟨false, rfl, hno (by omega)⟩
            · rw [decide_eq_false h11, if_neg (by decide)]
              exact ⟨b, h4, h5.trans ⟨fun h => .inr ⟨by omega, h⟩, fun h => h.elim (fun e => absurd e.1 h6) (fun e => e.2)⟩⟩
        · rw [if_neg h9]; exact ⟨false, rfl, hno (fun e => h9 e.2.2.1)⟩
theorem gr_l0 (nodes : List Nd) (hb : nodes.length < 4611686018427387904) (q : Nat) (hq : q < 4611686018427387904) (hx : ∀ n ∈ nodes, n.f2.length ≤ q) : ∀ (m j fuel : Nat), nodes.length - j ≤ m → j ≤ nodes.length → m + q + nodes.length + 5 < fuel →
    ∃ b, exactpplref19_Graph.l0 fuel nodes (j : Int) = some b ∧ (b = true ↔ (∀ i : Nat, j ≤ i → i < nodes.length → Snd nodes i) ∧ 0 < nodes.length) := by
  intro m
  induction m with
  | zero =>
    intro j fuel h1 h2 h3
    obtain ⟨f, rfl⟩ : ∃ f, fuel = f + 1 := ⟨fuel - 1, by omega⟩
    have e : j = nodes.length := by omega
    subst e
    simp only [exactpplref19_Graph.l0]
    rw [if_neg (by omega)]
    exact ⟨_, rfl, by rw [decide_eq_true_eq]; exact ⟨fun h => ⟨fun i h4 h5 => by omega, by omega⟩, fun h => by omega⟩⟩
  | succ m ih =>
    intro j fuel h1 h2 h3
    obtain ⟨f, rfl⟩ : ∃ f, fuel = f + 1 := ⟨fuel - 1, by omega⟩
    by_cases hj : j < nodes.length
    · have hmem : nth nodes (j : Int) ∈ nodes := by rw [nth_lt hj]; exact List.getElem_mem hj
      have hl := hx _ hmem
      obtain ⟨b, h4, h5⟩ := sd_f nodes j hj hb (by omega) f (by omega)
      simp only [exactpplref19_Graph.l0]
      rw [if_pos (by omega), h4, Option.bind_some, w64_succ (by omega)]
      cases b with
      | true =>
        obtain ⟨c, h6, h7⟩ := ih (j + 1) f (by omega) (by omega) (by omega)
        rw [if_pos rfl]
        refine ⟨c, h6, h7.trans ⟨fun h => ⟨fun i h8 h9 => ?_, h.2⟩, fun h => ⟨fun i h8 h9 => h.1 i (by omega) h9, h.2⟩⟩⟩
        rcases Nat.lt_or_ge j i with h10 | h10
        · exact h.1 i h10 h9
        · obtain rfl : i = j := by omega
          exact h5.1 rfl
      | false =>
        rw [if_neg (by decide)]
        exact ⟨false, rfl, (fun h => by cases h), fun h => h5.2 (h.1 j (Nat.le_refl _) hj)⟩
    · have e : j = nodes.length := by omega
      subst e
      simp only [exactpplref19_Graph.l0]
      rw [if_neg (by omega)]
      exact ⟨_, rfl, by rw [decide_eq_true_eq]; exact ⟨fun h => ⟨fun i h4 h5 => by omega, by omega⟩, fun h => by omega⟩⟩
/-- what Shapes accepts -/
theorem shp_iff : ∀ (l : List Nd) (g : PM), (shp g l).isSome = true ↔ (∀ n ∈ l, 0 ≤ n.f0 → ∀ v, g n.f0 = some v → v = (n.f2.length : Int)) ∧ l.Pairwise (fun a b => 0 ≤ a.f0 → a.f0 = b.f0 → a.f2.length = b.f2.length)
  | [], g => by simp [shp]
  | n :: l, g => by
    simp only [shp]
    by_cases h0 : n.f0 < 0
    · rw [if_pos h0, shp_iff l g, List.pairwise_cons]
      constructor
      · rintro ⟨h1, h2⟩
        exact ⟨fun m hm h3 => (List.mem_cons.1 hm).elim (fun e => by subst e; omega) (fun h => h1 m h h3), fun b _ h3 => by omega, h2⟩
      · rintro ⟨h1, _, h2⟩
        exact ⟨fun m hm => h1 m (List.mem_cons_of_mem _ hm), h2⟩
    · rw [if_neg h0]
      by_cases h1 : (g n.f0).isSome = true ∧ (g n.f0).getD 0 ≠ (n.f2.length : Int)
      · rw [if_pos h1]
        constructor
        · intro h; cases h
        · rintro ⟨h2, _⟩
          obtain ⟨v, hv⟩ := Option.isSome_iff_exists.1 h1.1
          have := h2 n List.mem_cons_self (by omega) v hv
          rw [hv] at h1
          exact absurd this h1.2
      · rw [if_neg h1, shp_iff l _, List.pairwise_cons]
        have hg : ∀ v, g n.f0 = some v → v = (n.f2.length : Int) := by
          intro v hv
          refine Classical.byContradiction fun hne => h1 ⟨by rw [hv]; rfl, by rw [hv]; exact hne⟩
        constructor
        · rintro ⟨h2, h3⟩
          refine ⟨fun m hm h4 v hv => ?_, fun b hb h4 h5 => ?_, h3⟩
          · rcases List.mem_cons.1 hm with rfl | hm
            · exact hg v hv
            · by_cases e : m.f0 = n.f0
              · have := h2 m hm h4 (n.f2.length : Int) (by unfold upd; rw [if_pos e])
                rw [e] at hv
                rw [hg v hv]; exact this
              · exact h2 m hm h4 v (by unfold upd; rw [if_neg e]; exact hv)
          · have := h2 b hb (by omega) (n.f2.length : Int) (by unfold upd; rw [if_pos h5.symm])
            omega
        · rintro ⟨h2, h3, h4⟩
          refine ⟨fun m hm h5 v hv => ?_, h4⟩
          unfold upd at hv
          by_cases e : m.f0 = n.f0
          · rw [if_pos e] at hv
            have := h3 m hm (by omega) e.symm
            injection hv with hv
            omega
          · rw [if_neg e] at hv
            exact h2 m (List.mem_cons_of_mem _ hm) h5 v hv
theorem gr_snd (nodes : List Nd) : grB nodes = true ↔ (∀ i : Nat, 0 ≤ i → i < nodes.length → Snd nodes i) ∧ 0 < nodes.length := by
  unfold grB
  rw [Bool.and_eq_true, Bool.and_eq_true, decide_eq_true_eq, shp_iff, List.all_eq_true]
  constructor
  · rintro ⟨h1, h2, _, h3⟩
    have hlb : ∀ i : Nat, i < nodes.length → lfB (nth nodes (i : Int)) = true ∨ brB nodes (i : Int) (nth nodes (i : Int)) = true := fun i hi => by have := h1 i (List.mem_range.2 hi); simpa using this
    refine ⟨fun i _ hi => ?_, h2⟩
    rcases hlb i hi with h4 | h4
    · exact .inl (lf_iff.1 h4)
    · obtain ⟨h5, h6⟩ := br_iff.1 h4
      refine .inr ⟨h5, fun c hc => ⟨(h6 c hc).1, fun e => (h6 c hc).2 ⟨?_, e.2⟩⟩, fun k _ hk he => ?_⟩
      · have h7 := (h6 c hc).1
        rcases hlb c.toNat (by omega) with h8 | h8
        · have := (lf_iff.1 h8).1
          rw [show ((c.toNat : Nat) : Int) = c by omega] at this
          exact absurd this e.1
        · have := (br_iff.1 h8).1.1
          rw [show ((c.toNat : Nat) : Int) = c by omega] at this
          exact this
      · have h7 := (List.pairwise_iff_getElem.1 h3) k i (by omega) hi hk
        rw [← nth_lt (show k < nodes.length by omega), ← nth_lt hi] at h7
        exact h7 (by omega) he
  · rintro ⟨h1, h2⟩
    have hf0 : ∀ i : Nat, i < nodes.length → (nth nodes (i : Int)).f0 = -1 ∨ 0 ≤ (nth nodes (i : Int)).f0 := fun i hi => (h1 i (Nat.zero_le _) hi).elim (fun e => .inl e.1) (fun e => .inr e.1.1)
    refine ⟨fun i hi => ?_, h2, (fun n _ _ v hv => by cases hv), List.pairwise_iff_getElem.2 fun i j hi hj hij h3 h4 => ?_⟩
    · have hi := List.mem_range.1 hi
      rw [Bool.or_eq_true]
      rcases h1 i (Nat.zero_le _) hi with h3 | h3
      · exact .inl (lf_iff.2 h3)
      · refine .inr (br_iff.2 ⟨h3.1, fun c hc => ⟨(h3.2.1 c hc).1, fun e => (h3.2.1 c hc).2 ⟨by omega, e.2⟩⟩⟩)
    · rw [← nth_lt hi] at h3 h4 ⊢
      rw [← nth_lt hj] at h4 ⊢
      rcases h1 j (Nat.zero_le _) hj with h5 | h5
      · omega
      · exact h5.2.2 i (Nat.zero_le _) hij h4
theorem graph_f (nodes : List Nd) (hb : nodes.length < 4611686018427387904) (q : Nat) (hq : q < 4611686018427387904) (hx : ∀ n ∈ nodes, n.f2.length ≤ q) (fuel : Nat) (hf : q + nodes.length + nodes.length + 5 < fuel) : exactpplref19_Graph.f fuel nodes = some (grB nodes) := by
  unfold exactpplref19_Graph.f
  obtain ⟨b, h1, h2⟩ := gr_l0 nodes hb q hq hx nodes.length 0 fuel (by omega) (by omega) (by omega)
  have : b = grB nodes := by rw [Bool.eq_iff_iff, h2, gr_snd]
  rw [← this]
  exact h1
end Go.Proofs.YtopbjginpmdebaaDoor.K
-- tables of graphs: what is taken out of one is a graph, and canonical
namespace Go.Proofs.YtopbjginpmdebaaDoor.K
open Go.RowKit Go.Maps Go.Proofs.YtopbjginpmdebaaDoorW.PrintWords Go.Proofs.YtopbjginpmdebaaDoorW.PrintLast Go.Proofs.YtopbjginpmdebaaDoorW.PrintMore
set_option linter.unusedVariables false
set_option linter.unusedSimpArgs false
/-- a graph whose branches of site s have sh s kids -/
structure GrS (sh : Int → Nat) (l : List Nd) : Prop where
  nd : ∀ i : Nat, i < l.length → lfB (nth l (i : Int)) = true ∨ (brB l (i : Int) (nth l (i : Int)) = true ∧ (nth l (i : Int)).f2.length = sh (nth l (i : Int)).f0)
theorem gr_sh {l : List Nd} (h : grB l = true) : ∃ sh, GrS sh l := by
  have hp : l.Pairwise (fun a b => 0 ≤ a.f0 → a.f0 = b.f0 → a.f2.length = b.f2.length) := by
    unfold grB at h
    rw [Bool.and_eq_true, Bool.and_eq_true, shp_iff] at h
    exact h.2.2.2
  have hp' : ∀ i j : Nat, i < l.length → j < l.length → 0 ≤ (nth l (i : Int)).f0 → (nth l (i : Int)).f0 = (nth l (j : Int)).f0 → (nth l (i : Int)).f2.length = (nth l (j : Int)).f2.length := by
    intro i j hi hj h0 he
    rw [List.pairwise_iff_getElem] at hp
    rw [nth_lt hi] at h0 he ⊢
    rw [nth_lt hj] at he ⊢
    rcases Nat.lt_trichotomy i j with h1 | h1 | h1
    · exact hp i j hi hj h1 h0 he
    · subst h1; rfl
    · exact (hp j i hj hi h1 (by omega) he.symm).symm
  refine ⟨fun s => if hx : ∃ i : Nat, i < l.length ∧ (nth l (i : Int)).f0 = s then (nth l ((Classical.choose hx : Nat) : Int)).f2.length else 0, ⟨fun i hi => ?_⟩⟩
  rcases gr_nd h hi with h1 | h1
  · exact .inl h1
  · refine .inr ⟨h1, ?_⟩
    have hx : ∃ j : Nat, j < l.length ∧ (nth l (j : Int)).f0 = (nth l (i : Int)).f0 := ⟨i, hi, rfl⟩
    have hs := Classical.choose_spec hx
    rw [dif_pos hx]
    exact hp' i _ hi hs.1 (br_iff.1 h1).1.1 hs.2.symm
theorem GrS.gr {sh : Int → Nat} {l : List Nd} (h : GrS sh l) (h0 : 0 < l.length) : grB l = true := by
  unfold grB
  rw [Bool.and_eq_true, Bool.and_eq_true, decide_eq_true_eq, shp_iff, List.all_eq_true]
  have hl : ∀ i : Nat, i < l.length → 0 ≤ (nth l (i : Int)).f0 → (nth l (i : Int)).f2.length = sh (nth l (i : Int)).f0 := by
    intro i hi h1
    rcases h.nd i hi with h2 | h2
    · have := (lf_iff.1 h2).1; omega
    · exact h2.2
  refine ⟨fun i hi => ?_, h0, (fun n _ _ v hv => by cases hv), List.pairwise_iff_getElem.2 fun i j hi hj hij h3 h4 => ?_⟩
  · rw [Bool.or_eq_true]
    rcases h.nd i (List.mem_range.1 hi) with h2 | h2
    · exact .inl h2
    · exact .inr h2.1
  · rw [← nth_lt hi] at h3 h4 ⊢
    rw [← nth_lt hj] at h4 ⊢
    rw [hl i hi h3, hl j hj (by omega), h4]
/-- a table of nodes of graphs -/
structure Tb (sh : Int → Nat) (u : List Nd) : Prop where
  red : Red u
  ord : ∀ i : Nat, i < u.length → ∀ k ∈ (nth u (i : Int)).f2, (nth u k).f0 < 0 ∨ (nth u (i : Int)).f0 < (nth u k).f0
  ok : ∀ n ∈ u, (n.f0 = -1 ∧ -1073741824 ≤ n.f1 ∧ n.f1 ≤ 1073741824) ∨ (0 ≤ n.f0 ∧ n.f0 < 64 ∧ n.f2.length = sh n.f0 ∧ n.f2.length ≤ 16)
theorem tb_nil (sh : Int → Nat) : Tb sh [] := ⟨red_nil, fun i hi => by simp at hi, by simp⟩
theorem Tb.tbl {sh : Int → Nat} {u : List Nd} (h : Tb sh u) : Tbl u [] := ⟨h.red.down, h.red.nodup, by simp⟩
theorem Tb.place0 {sh : Int → Nat} {u : List Nd} (h : Tb sh u) {n : Nd} (hk : ∀ k ∈ n.f2, 0 ≤ k ∧ k < (u.length : Int)) (hr : Red (place0 u n).1) (ho : ∀ k ∈ n.f2, (nth u k).f0 < 0 ∨ n.f0 < (nth u k).f0)
    (hok : (n.f0 = -1 ∧ -1073741824 ≤ n.f1 ∧ n.f1 ≤ 1073741824) ∨ (0 ≤ n.f0 ∧ n.f0 < 64 ∧ n.f2.length = sh n.f0 ∧ n.f2.length ≤ 16)) : Tb sh (K.place0 u n).1 := by
  refine ⟨hr, ?_, ?_⟩
  · unfold K.place0
    split
    · exact h.ord
    · intro i hi k hk'
      simp only at hi hk' ⊢
      rcases Nat.lt_or_ge i u.length with h1 | h1
      · rw [nth_append_left (u := u) (v := [n]) (a := (i : Int)) (by omega) (by omega)] at hk' ⊢
        have h2 := h.red.down i h1 k hk'
        rw [nth_append_left (u := u) (v := [n]) (a := k) h2.1 (by omega)]
        exact h.ord i h1 k hk'
      · have e : i = u.length := by simp at hi; omega
        subst e
        have e2 : nth (u ++ [n]) ((u.length : Nat) : Int) = n := by simp [nth]
        rw [e2] at hk' ⊢
        rw [nth_append_left (u := u) (v := [n]) (a := k) (hk k hk').1 (hk k hk').2]
        exact ho k hk'
  · unfold K.place0
    split
    · exact h.ok
    · intro m hm
      rcases List.mem_append.1 hm with hm | hm
      · exact h.ok m hm
      · rw [List.mem_singleton.1 hm]; exact hok
/-- the node that stands for another is a leaf or no higher -/
def AtOk (l u : List Nd) (at_ : List Int) (k : Nat) : Prop := ∀ c : Nat, c < k → (nth u (lk at_ (c : Int))).f0 < 0 ∨ (0 ≤ (nth l (c : Int)).f0 ∧ (nth l (c : Int)).f0 ≤ (nth u (lk at_ (c : Int))).f0)
theorem GrS.fit {sh : Int → Nat} {l : List Nd} (h : GrS sh l) : Fit l := by
  refine ⟨fun i hi k hk => ?_, fun n hn h0 => ?_⟩
  · rcases h.nd i hi with h1 | h1
    · rw [(lf_iff.1 h1).2.1] at hk; cases hk
    · exact ((br_iff.1 h1.1).2 k hk).1
  · obtain ⟨i, hi, rfl⟩ := mem_nth hn
    rcases h.nd i hi with h1 | h1
    · have := (lf_iff.1 h1).1; omega
    · intro e
      have := (br_iff.1 h1.1).1
      rw [e] at this
      simp at this
theorem sameK_mem {l : List Int} (h : l ≠ []) : l.headD 0 ∈ l := by
  cases l with
  | nil => exact absurd rfl h
  | cons a l => exact List.mem_cons_self
theorem lk_snoc_old {at_ : List Int} {x : Int} {c : Nat} (h : c < at_.length) : lk (at_ ++ [x]) (c : Int) = lk at_ (c : Int) := by
  unfold lk
  rw [List.getD_eq_getElem?_getD, List.getD_eq_getElem?_getD, List.getElem?_append_left (by omega)]
theorem lk_snoc_new (at_ : List Int) (x : Int) : lk (at_ ++ [x]) ((at_.length : Nat) : Int) = x := by
  unfold lk
  rw [List.getD_eq_getElem?_getD, Int.toNat_natCast, List.getElem?_append_right (Nat.le_refl _)]
  simp
/-- one node more: what stands for it -/
theorem Tb.step {sh : Int → Nat} {l u : List Nd} {at_ : List Int} {k : Nat} (h : Tb sh u) (hl : GrS sh l) (hk : k < l.length) (hat : at_.length = k) (hA : AtOk l u at_ k) (hT : ∀ a ∈ at_, 0 ≤ a ∧ a < (u.length : Int)) :
    Tb sh (place1 u at_ (nth l (k : Int))).1 ∧ AtOk l (place1 u at_ (nth l (k : Int))).1 (at_ ++ [(place1 u at_ (nth l (k : Int))).2]) (k + 1) := by
  have hfit := hl.fit
  have hmem : nth l (k : Int) ∈ l := by rw [nth_lt hk]; exact List.getElem_mem hk
  have hkr : ∀ c ∈ (nth l (k : Int)).f2, 0 ≤ c ∧ c < (at_.length : Int) := fun c hc => by rw [hat]; exact hfit.1 k hk c hc
  have hred := h.red.place1 hT (n := nth l (k : Int)) hkr (hfit.2 _ hmem)
  have hkk := (Tbl.mk h.red.down h.red.nodup hT).kids hkr
  -- the old ones stay
  have hold : ∀ (x : Int) (v : List Nd), u <+: v → ∀ c : Nat, c < k → (nth v (lk (at_ ++ [x]) (c : Int))).f0 < 0 ∨ (0 ≤ (nth l (c : Int)).f0 ∧ (nth l (c : Int)).f0 ≤ (nth v (lk (at_ ++ [x]) (c : Int))).f0) := by
    intro x v hv c hc
    rw [lk_snoc_old (by omega)]
    have h1 := hT _ (lk_mem (at_ := at_) (c := (c : Int)) (by omega) (by omega))
    rw [nth_prefix hv h1.1 h1.2]
    exact hA c hc
  have hnewk : ∀ (x : Int) (v : List Nd), u <+: v → ((nth v x).f0 < 0 ∨ (0 ≤ (nth l (k : Int)).f0 ∧ (nth l (k : Int)).f0 ≤ (nth v x).f0)) → AtOk l v (at_ ++ [x]) (k + 1) := by
    intro x v hv hx c hc
    rcases Nat.lt_or_ge c k with h1 | h1
    · exact hold x v hv c h1
    · have e : c = at_.length := by omega
      subst e
      rw [lk_snoc_new, hat]
      exact hx
  rcases hl.nd k hk with h1 | ⟨h1, h2⟩
  · obtain ⟨l0, l1, l2, l3⟩ := lf_iff.1 h1
    have e : place1 u at_ (nth l (k : Int)) = K.place0 u ⟨-1, (nth l (k : Int)).f1, []⟩ := by unfold K.place1; rw [if_pos (by omega)]
    rw [e] at hred ⊢
    refine ⟨h.place0 (by simp) hred (by simp) (.inl ⟨rfl, l2, l3⟩), hnewk _ _ (place0_pre _ _) (.inl ?_)⟩
    rw [place0_nth]
    show (-1 : Int) < 0
    omega
  · obtain ⟨⟨b0, b1, b2, b3, b4⟩, b5⟩ := br_iff.1 h1
    have hlow : ∀ c ∈ (nth l (k : Int)).f2, (nth u (lk at_ c)).f0 < 0 ∨ (nth l (k : Int)).f0 < (nth u (lk at_ c)).f0 := by
      intro c hc
      obtain ⟨⟨c0, c1⟩, c2⟩ := b5 c hc
      rcases hA c.toNat (by omega) with h3 | h3
      · rw [show ((c.toNat : Nat) : Int) = c by omega] at h3
        exact .inl h3
      · rw [show ((c.toNat : Nat) : Int) = c by omega] at h3
        exact .inr (by omega)
    have hne : (nth l (k : Int)).f2 ≠ [] := by intro e; rw [e] at b3; simp at b3
    have e : place1 u at_ (nth l (k : Int)) = placeB u (nth l (k : Int)).f0 ((nth l (k : Int)).f2.map (lk at_)) := by unfold K.place1; rw [if_neg (by omega)]
    rw [e] at hred ⊢
    by_cases hs : sameK ((nth l (k : Int)).f2.map (lk at_)) = true
    · have e2 : placeB u (nth l (k : Int)).f0 ((nth l (k : Int)).f2.map (lk at_)) = (u, ((nth l (k : Int)).f2.map (lk at_)).headD 0) := by unfold K.placeB; rw [if_pos hs]
      rw [e2]
      refine ⟨h, hnewk _ _ (List.prefix_refl _) ?_⟩
      obtain ⟨c, hc, hce⟩ := List.mem_map.1 (sameK_mem (l := (nth l (k : Int)).f2.map (lk at_)) (by simpa using hne))
      show (nth u (((nth l (k : Int)).f2.map (lk at_)).headD 0)).f0 < 0 ∨ (0 ≤ (nth l (k : Int)).f0 ∧ (nth l (k : Int)).f0 ≤ (nth u (((nth l (k : Int)).f2.map (lk at_)).headD 0)).f0)
      rw [← hce]
      rcases hlow c hc with h3 | h3
      · exact .inl h3
      · exact .inr ⟨b0, by omega⟩
    · have e2 : placeB u (nth l (k : Int)).f0 ((nth l (k : Int)).f2.map (lk at_)) = K.place0 u ⟨(nth l (k : Int)).f0, 0, (nth l (k : Int)).f2.map (lk at_)⟩ := by unfold K.placeB; rw [if_neg hs]
      rw [e2] at hred ⊢
      refine ⟨h.place0 hkk hred (fun q hq => ?_) (.inr ⟨b0, b1, by simpa using h2, by simpa using b4⟩), hnewk _ _ (place0_pre _ _) (.inr ⟨b0, ?_⟩)⟩
      · obtain ⟨c, hc, rfl⟩ := List.mem_map.1 hq
        exact hlow c hc
      · rw [place0_nth]
        exact Int.le_refl _
theorem imp_tb {sh : Int → Nat} {l u : List Nd} (h : Tb sh u) (hl : GrS sh l) : ∀ k, k ≤ l.length → Tb sh (imp u [] (l.take k)).1 ∧ AtOk l (imp u [] (l.take k)).1 (imp u [] (l.take k)).2 k := by
  intro k
  induction k with
  | zero => intro _; exact ⟨by simpa [imp] using h, fun c hc => by omega⟩
  | succ k ih =>
    intro hk
    obtain ⟨h1, h2⟩ := ih (by omega)
    have h3 := (imp_tbl hl.fit h.tbl k (by omega)).1
    rw [take_snoc' (by omega), imp_snoc]
    exact h1.step hl (by omega) (by rw [imp_len]; simp; omega) h2 h3.at_lt
theorem Tb.expo {sh : Int → Nat} {u : List Nd} (h : Tb sh u) {r : Nat} (hr : r < u.length) : Tb sh (K.expo u (r : Nat)) := by
  obtain ⟨g, hP, _, _⟩ := expo_pl h.red.down hr
  have hnode : ∀ a : Nat, a < (K.expo u (r : Nat)).length → ∃ i : Int, g i = some (a : Int) := hP.all
  refine ⟨hP.red h.red, fun a ha k hk => ?_, fun n hn => ?_⟩
  · obtain ⟨i, hi⟩ := hnode a ha
    obtain ⟨i0, _, i2, _, i4, i5⟩ := hP.node i _ hi
    simp only at i4 i5
    rw [i4] at hk ⊢
    obtain ⟨c, hc, rfl⟩ := List.mem_map.1 hk
    obtain ⟨b, hb, _⟩ := i5 c hc
    obtain ⟨_, b1, _, b3, b4, _⟩ := hP.node c b hb
    simp only at b4
    simp only [hb, Option.getD_some]
    rw [b4]
    have := h.ord i.toNat (by omega) c (by rw [show ((i.toNat : Nat) : Int) = i by omega]; exact hc)
    rw [show ((i.toNat : Nat) : Int) = i by omega] at this
    exact this
  · obtain ⟨a, ha, rfl⟩ := mem_nth hn
    obtain ⟨i, hi⟩ := hnode a ha
    obtain ⟨i0, _, i2, _, i4, _⟩ := hP.node i _ hi
    simp only at i4
    rw [i4]
    have := h.ok _ (nth_mem i0 i2)
    simpa [mp] using this
theorem Tb.grs {sh : Int → Nat} {d : List Nd} (h : Tb sh d) : GrS sh d := by
  refine ⟨fun i hi => ?_⟩
  have hm : nth d (i : Int) ∈ d := by rw [nth_lt hi]; exact List.getElem_mem hi
  rcases h.ok _ hm with h1 | h1
  · exact .inl (lf_iff.2 ⟨h1.1, (h.red.leafy _ hm (by omega)).2, h1.2.1, h1.2.2⟩)
  · have hf := h.red.full _ hm h1.1
    refine .inr ⟨br_iff.2 ⟨⟨h1.1, h1.2.1, hf.2, List.length_pos_iff.2 hf.1, h1.2.2.2⟩, fun k hk => ⟨h.red.down i hi k hk, fun e => ?_⟩⟩, h1.2.2.1⟩
    rcases h.ord i hi k hk with h2 | h2 <;> omega
theorem Tb.can {sh : Int → Nat} {u : List Nd} (h : Tb sh u) {r : Nat} (hr : r < u.length) : grB (K.expo u (r : Nat)) = true ∧ Can (K.expo u (r : Nat)) := by
  have hc := expo_can h.red hr
  exact ⟨(h.expo hr).grs.gr hc.ne, hc⟩
theorem can_cn {d : List Nd} (hg : grB d = true) (hc : Can d) : cn d = d := by
  have := imp_expo hc red_nil
  unfold cn
  rw [(gr_root hg).1] at this
  exact this
theorem cn_tb {l : List Nd} (h : grB l = true) : ∃ sh, GrS sh l ∧ Tb sh (imp [] [] l).1 := by
  obtain ⟨sh, hs⟩ := gr_sh h
  have := (imp_tb (tb_nil sh) hs l.length (Nat.le_refl _)).1
  rw [List.take_length] at this
  exact ⟨sh, hs, this⟩
theorem cn_gr {l : List Nd} (h : grB l = true) : grB (cn l) = true ∧ Can (cn l) := by
  obtain ⟨sh, _, ht⟩ := cn_tb h
  exact ht.can (gr_root h).2
theorem cn_cn {l : List Nd} (h : grB l = true) : cn (cn l) = cn l := can_cn (cn_gr h).1 (cn_gr h).2
/-- a diagram that Validate accepts -/
theorem val_ok {l : List Nd} (h : valE l = 0) : grB l = true ∧ cn l = l ∧ l.length ≤ 20000 := by
  unfold valE at h
  by_cases h0 : redE l = 0
  · rw [if_pos h0] at h
    have hg : grB l = true := by
      unfold redE at h0
      by_cases hg : grB l = true
      · exact hg
      · rw [if_neg hg] at h0; cases h0
    have hc : cn l = l := by
      by_cases hq : cn l = l
      · exact hq
      · rw [if_neg hq] at h; cases h
    refine ⟨hg, hc, ?_⟩
    unfold redE at h0
    rw [if_pos hg, hc] at h0
    by_cases hl : l.length ≤ 20000
    · exact hl
    · rw [if_neg hl] at h0; cases h0
  · rw [if_neg h0] at h; exact absurd h h0
theorem val_of {l : List Nd} (hg : grB l = true) (hc : cn l = l) (hl : l.length ≤ 20000) : valE l = 0 ∧ redE l = 0 ∧ redL l = l := by
  have h0 : redE l = 0 := by unfold redE; rw [if_pos hg, hc, if_pos hl]
  refine ⟨?_, h0, ?_⟩
  · unfold valE; rw [if_pos h0, if_pos hc]
  · unfold redL; rw [if_pos h0, hc]
theorem red_settles {l : List Nd} (h : redE l = 0) : valE (redL l) = 0 ∧ redE (redL l) = 0 ∧ redL (redL l) = redL l := by
  have hg : grB l = true := by
    unfold redE at h
    by_cases hg : grB l = true
    · exact hg
    · rw [if_neg hg] at h; cases h
  have e : redL l = cn l := by unfold redL; rw [if_pos h]
  rw [e]
  exact val_of (cn_gr hg).1 (cn_cn hg) (by rw [← e]; exact redL_kids)
theorem gr_ok {l : List Nd} (h : grB l = true) (hl : l.length ≤ 1000000) : ndOk l = true := by
  unfold ndOk
  rw [Bool.and_eq_true, List.all_eq_true]
  refine ⟨fun n hn => decide_eq_true ?_, decide_eq_true (by omega)⟩
  have hk := gr_kids h n hn
  obtain ⟨i, hi, rfl⟩ := mem_nth hn
  rcases gr_nd h hi with h1 | h1
  · have := lf_iff.1 h1; omega
  · have := (br_iff.1 h1).1; omega
end Go.Proofs.YtopbjginpmdebaaDoor.K
-- exactpplref19.Place
namespace Go.Proofs.YtopbjginpmdebaaDoor.K
open Go.RowKit Go.Maps Go.Proofs.YtopbjginpmdebaaDoorW.PrintWords Go.Proofs.YtopbjginpmdebaaDoorW.PrintLast Go.Proofs.YtopbjginpmdebaaDoorW.PrintMore
set_option linter.unusedVariables false
set_option linter.unusedSimpArgs false
/-- the reference's Place -/
def plR (u : List Nd) (n : Nd) : List Nd × Int := if n.f0 ≠ -1 ∧ sameK n.f2 = true then (u, n.f2.headD 0) else place0 u n
/-- what is the call's own, or was the row's -/
def OwnOr (w : World) (v vu : Value) : Prop := v.ownBlock = vu.ownBlock ∨ ∃ b, v.ownBlock = some b ∧ w.heap.size ≤ b
/-- how Place ends -/
def PlPost (base : Nat) (ok : Nat → Prop) (vu : Value) (w : World) (r : List Nd × Int) (e : Ending) (w' : World) : Prop := ∃ v', e = .returned (.tuple #[v', .int .i64 r.2]) ∧ k60.R 60 w' base ok v' r.1 ∧ w.grownBy w' vu.ownBlock ∧ OwnOr w v' vu
theorem grown_below' {w W : World} {x : Option Nat} (hb : Below w.heap.size w W) : w.grownBy W x := ⟨hb.os, hb.tape, hb.output, hb.size, fun j hj _ => hb.block j hj⟩
theorem place0_at {u : List Nd} {n : Nd} {k : Nat} (hk : k < u.length) (he : nth u (k : Int) = n) (hall : ∀ j : Nat, j < k → nth u (j : Int) ≠ n) : place0 u n = (u, (k : Int)) := by
  have hm : n ∈ u := by rw [← he, nth_lt hk]; exact List.getElem_mem hk
  unfold place0
  rw [if_pos hm]
  have h1 := List.idxOf_lt_length_of_mem hm
  have h2 : nth u ((u.idxOf n : Nat) : Int) = n := by rw [nth_lt h1]; simp
  have h3 : u.idxOf n ≤ k := by
    rcases Nat.lt_or_ge k (u.idxOf n) with h | h
    · have := List.not_of_lt_findIdx (p := (· == n)) (xs := u) (by unfold List.idxOf at h; exact h)
      rw [nth_lt hk] at he
      simp [he] at this
    · exact h
  have h4 : ¬ u.idxOf n < k := fun h => hall _ h h2
  have h5 : u.idxOf n = k := by omega
  rw [h5]
theorem place0_out {u : List Nd} {n : Nd} (hall : ∀ j : Nat, j < u.length → nth u (j : Int) ≠ n) : place0 u n = (u ++ [n], (u.length : Int)) := by
  unfold place0
  rw [if_neg]
  intro hm
  obtain ⟨i, hi, e⟩ := List.getElem_of_mem hm
  exact hall i hi (by rw [nth_lt hi]; exact e)
set_option maxHeartbeats 16000000 in
set_option maxRecDepth 100000 in
theorem place_calls (base : Nat) (ok okn : Nat → Prop) (u : List Nd) (n : Nd) (Au An : Option Addr) (cu cn_ : Nat) (w : World) (hbs : base ≤ w.heap.size)
    (hR : k60.R 60 w base ok (.slice Au u.length cu) u) (hn : (Kd.int .i64).R 3 w base okn (.slice An n.f2.length cn_) n.f2) (hokn : ∀ j, okn j → ok j ∧ some j ≠ (Value.slice Au u.length cu).ownBlock) (hne : n.f0 ≠ -1 → n.f2 ≠ []) (hlen : n.f2.length ≤ 1073741824)
    (hul : (u.length + 1) * 40 ≤ 140737488355328) (hkl : ∀ x ∈ u, x.f2.length ≤ 1073741824) (hnew : ∀ j, w.heap.size ≤ j → ok j) :
    Calls Tryd.prog 72 #[.slice Au u.length cu, .agg #[.int .i64 n.f0, .int .i64 n.f1, .slice An n.f2.length cn_]] w (PlPost base ok (.slice Au u.length cu) w (plR u n)) := by
  obtain ⟨f0, f1, ks⟩ := n
  simp only at hn hne hlen ⊢
  have hCn := (Kd.R_reads' hn).2.2
  have hcn := (Kd.R_reads' hn).2.1
  have hCu := (Kd.R_reads' hR).2.2
  have hcu := (Kd.R_reads' hR).2.1
  have hb0 : Below w.heap.size w (w.alloc (.cells #[.int .i64 f0, .int .i64 f1, .slice An ks.length cn_] 60)) := (Below.refl _ w).alloc (Nat.le_refl _) _
  have hbx0 := heap_alloc_new w (.cells #[.int .i64 f0, .int .i64 f1, .slice An ks.length cn_] 60)
  have hI := exactpplref19_IsBranch.calls f0 f1 An cn_ ks _ _ (Kd.C_below hCn hb0) hcn rfl
  have HR := Lib.hid hR
  have HN := Lib.hid hn
  have HOKN := Lib.hid hokn
  have HNEW := Lib.hid hnew
  have HCN := Lib.hid hCn
  have HCU := Lib.hid hCu
  have HKL := Lib.hid hkl
  have HB0 := Lib.hid hb0
  have HBX0 := Lib.hid hbx0
  obtain ⟨N, hN⟩ : ∃ N, N = u.length := ⟨_, rfl⟩
  have HNN := Lib.hid hN
  rw [← hN] at hul hcu ⊢
  clear hR hn hokn hnew hCn hCu hkl hb0 hbx0 hN
  by_cases hbr : f0 = -1
  · subst hbr
    have hpl : plR u ⟨-1, f1, ks⟩ = place0 u ⟨-1, f1, ks⟩ := by unfold plR; rw [if_neg (by simp)]
    have HPL := Lib.hid hpl
    have hnb : ((-1 : Int) != -1) = false := by decide
    rw [hnb] at hI
    clear hpl hnb hne
    go_enter Tryd.func72, Tryd.ntmps72
    go_wp2_with (go_at_call 55; refine hI.mono ?_; clear hI; rintro e w1 ⟨rfl, hb1⟩; have HB1 := Lib.hid (HB0.out.trans (hb1.mono (by simp))); have hbx1 := (hb1.block w.heap.size (by simp)).trans HBX0.out; have hlt1 := blk_lt hbx1; have c0 := (blk_cell hbx1 0); have c1 := (blk_cell hbx1 1); have c2 := (blk_cell hbx1 2); have HBX1 := Lib.hid hbx1; clear hb1 hbx1)
    go_loopw [8] (fun i wr => ∃ k : Nat, i = .int .i64 k ∧ k ≤ N ∧ Below w1.heap.size w1 wr ∧ Aside0 (∀ j : Nat, j < k → nth u (j : Int) ≠ ⟨-1, f1, ks⟩)) (fun i _ => N - (intOf i).toNat)
    case atStart => exact ⟨0, rfl, Nat.zero_le _, Below.refl _ _, ⟨fun j hj => absurd hj (Nat.not_lt_zero _)⟩⟩
    case round =>
      obtain ⟨k, rfl, hk, hB, hall⟩ := hrel
      have HALL := Lib.hid hall.out
      have hsz := hB.size
      have HB := Lib.hid hB
      have hbx2 := (hB.block _ (blk_lt HBX1.out)).trans HBX1.out
      have d0 : wr.cell? ⟨w.heap.size, 0, none⟩ = some (.int .i64 (-1)) := (blk_cell hbx2 0).trans rfl
      have d1 : wr.cell? ⟨w.heap.size, 1, none⟩ = some (.int .i64 f1) := (blk_cell hbx2 1).trans rfl
      have d2 : wr.cell? ⟨w.heap.size, 2, none⟩ = some (.slice An ks.length cn_) := (blk_cell hbx2 2).trans rfl
      have hlt2 := blk_lt hbx2
      have HBX2 := Lib.hid hbx2
      have HBW := Lib.hid (HB1.out.trans (hB.mono (HB1.out.size)))
      clear hall hbx2 hB
      by_cases hlt : k < N
      · have hku : k < u.length := by have := HNN.out; omega
        obtain ⟨ad, A2, c2', rfl, g0, g1, g2, l2, gC⟩ := at_T60 (Kd.C_below HCU.out HBW.out) (k : Int) (by omega) (by omega)
        rw [Int.toNat_natCast] at g0 g1 g2
        rw [rd_nth] at g0 g1 g2 l2 gC
        obtain ⟨m, hm⟩ : ∃ m, m = nth u (k : Int) := ⟨_, rfl⟩
        rw [← hm] at g0 g1 g2 l2 gC
        have hml : m.f2.length ≤ 1073741824 := HKL.out m (by rw [hm, nth_lt hku]; exact List.getElem_mem hku)
        have hkb : k < 4000000000000 := by omega
        have hki : (k : Int) < (N : Int) := by omega
        have hS := exactpplref19_SameNode.calls (m.f2.length + 1) m.f0 m.f1 A2 c2' m.f2 (-1) f1 An cn_ ks _ wr.drew (Kd.C_drew gC) l2 (Kd.C_drew (Kd.C_below HCN.out HBW.out)) hcn (sameNode_f m ⟨-1, f1, ks⟩ (by omega) _ (by omega))
        have HM := Lib.hid hm
        clear hm gC
        by_cases he : m = ⟨-1, f1, ks⟩
        · rw [decide_eq_true he] at hS
          have HE := Lib.hid he
          clear he
          go_wp2
          go_still_tail 5, (by kernel_rfl)
          change wpList _ _ _ _ _ wr.drew
          go_wp2_with (go_at_call 49; refine hS.mono ?_; clear hS; rintro e w3 ⟨rfl, hb3⟩; have HB3 := Lib.hid ((HBW.out.trans ((Below.refl _ wr).drew.mono HBW.out.size)).trans (hb3.mono HBW.out.size)); clear hb3)
          refine bodyPost_ret (v := .tuple #[.slice (some ad) N cu, .int .i64 k]) (by simp [results, Tryd.f72, go_sem]) rfl ⟨.slice (some ad) N cu, ?_, ?_, grown_below' HB3.out, .inl (by rw [HNN.out])⟩
          · rw [HPL.out, place0_at hku (HM.out.symm.trans HE.out) HALL.out]
          · rw [HPL.out, place0_at hku (HM.out.symm.trans HE.out) HALL.out, HNN.out]
            exact Kd.R_below HR.out HB3.out
        · rw [decide_eq_false he] at hS
          have HE := Lib.hid he
          clear he
          go_wp2
          go_still_tail 5, (by kernel_rfl)
          change wpList _ _ _ _ _ wr.drew
          go_wp2_with (go_at_call 49; refine hS.mono ?_; clear hS; rintro e w3 ⟨rfl, hb3⟩; have HB3 := Lib.hid (HB.out.drew.trans (hb3.mono hsz)); clear hb3)
          go_roundw
          case rel => exact ⟨k + 1, by go_num, hlt, HB3.out, ⟨fun j hj => by
            rcases Nat.lt_or_ge j k with h | h
            · exact HALL.out j h
            · obtain rfl : j = k := by omega
              rw [← HM.out]; exact HE.out⟩⟩
          case measure => simp [intOf]; omega
      · have hke : k = N := by omega
        have hpo := place0_out (u := u) (n := ⟨-1, f1, ks⟩) (fun j hj => HALL.out j (by have := HNN.out; omega))
        have HPO := Lib.hid hpo
        have hN' := HNN.out
        have hNb : N < 4000000000000 := by omega
        clear hpo hke hk hN'
        go_wp2_with (at_builtin; refine Kd.R_append k60 (w0 := w) (W := wr) base rfl (.tmp 51) (.tmp 53) 24 60 (.agg #[(.int .i64 0), (.int .i64 0), (.slice none 0 0)]) 40 rfl Tryd.underlying24 info60 rfl (by decide) (by decide) (.slice Au N cu) u ⟨-1, f1, ks⟩ [.int .i64 (-1), .int .i64 f1, .slice An ks.length cn_] ok (fun j => okn j ∧ j < w.heap.size) rfl rfl ?hM ?hO ?hF ?hU (HBW.out.mono hbs) ?hS ?hL ?_)
        case hM => exact k60_mkM _ _ _ ⟨-1, f1, ks⟩ (Kd.R_mono (Kd.R_below (Kd.R_bound HN.out) HBW.out) (fun j hj => ⟨hj.1, hj.2.2.1⟩))
        case hO => intro j hj; have := HOKN.out j hj.1; rw [← HNN.out] at this; exact this
        case hF => intro j hj; exact HNEW.out j (Nat.le_trans HBW.out.size hj)
        case hU => have := Kd.R_below HR.out HBW.out; rw [← HNN.out] at this; exact this
        case hS => exact Nat.le_trans hbs HBW.out.size
        case hL => have := HNN.out; omega
        intro v5 w5 hR5 hB5 hg5 hat5
        have HAT5 := Lib.hid (show OwnOr w v5 (.slice Au N cu) from hat5.elim (fun h => .inl h) (fun ⟨b, h1, h2⟩ => .inr ⟨b, h1, Nat.le_trans HBW.out.size h2⟩))
        clear hat5
        have HR5 := Lib.hid hR5
        have HG5 := Lib.hid hg5
        clear hR5 hB5 hg5
        go_wp2
        refine bodyPost_ret (v := .tuple #[v5, .int .i64 N]) (by simp [results, Tryd.f72, go_sem]) rfl ⟨v5, ?_, ?_, ?_, HAT5.out⟩
        · rw [HPL.out, HPO.out, ← HNN.out]
        · rw [HPL.out, HPO.out]; exact HR5.out
        · exact World.grownBy.trans (grown_below' HBW.out) HG5.out
  · have hnb : (f0 != -1) = true := by simp [hbr]
    rw [hnb] at hI
    have hne' := hne hbr
    obtain ⟨kd, rfl, hkc⟩ := reads_at HCN.out hne'
    have HKC := Lib.hid hkc
    obtain ⟨x0, hx0⟩ : ∃ x0, x0 = ks.getD 0 0 := ⟨_, rfl⟩
    have hhd : ks.headD 0 = x0 := by rw [hx0]; cases ks <;> rfl
    obtain ⟨L, hL⟩ : ∃ L, L = ks.length := ⟨_, rfl⟩
    have hLp : 0 < L := by rw [hL]; exact List.length_pos_iff.2 hne'
    have HX0 := Lib.hid hx0
    have HHD := Lib.hid hhd
    have HL := Lib.hid hL
    have HBR := Lib.hid hbr
    rw [← hL] at hlen
    clear hnb hne hkc hx0 hhd hL hbr
    go_enter Tryd.func72, Tryd.ntmps72
    go_wp2_with (go_at_call 55; refine hI.mono ?_; clear hI; rintro e w1 ⟨rfl, hb1⟩; have HB1 := Lib.hid (HB0.out.trans (hb1.mono (by simp))); have hbx1 := (hb1.block w.heap.size (by simp)).trans HBX0.out; have hlt1 := blk_lt hbx1; have c0 := (blk_cell hbx1 0); have c1 := (blk_cell hbx1 1); have c2 := (blk_cell hbx1 2); have HBX1 := Lib.hid hbx1; clear hb1 hbx1)
    go_loopw [6, 7] (fun b i wr => ∃ (k : Nat) (bb : Bool), b = .bool bb ∧ i = .int .i64 k ∧ 1 ≤ k ∧ k ≤ L ∧ Below w1.heap.size w1 wr ∧ Aside0 (bb = true ↔ ∀ y ∈ ks.take k, y = x0)) (fun _ i _ => L - (intOf i).toNat)
    case atStart =>
      refine ⟨1, true, rfl, rfl, Nat.le_refl _, hLp, Below.refl _ _, ⟨fun _ y hy => ?_, fun _ => rfl⟩⟩
      have h0 : 0 < ks.length := by have := HL.out; omega
      rw [List.take_succ_eq_append_getElem h0] at hy
      rw [HX0.out, List.getD_eq_getElem?_getD, List.getElem?_eq_getElem h0]
      simpa using hy
    case round =>
      obtain ⟨k, bb, rfl, rfl, hk1, hk, hB, hall⟩ := hrel
      have HALL := Lib.hid hall.out
      have HB := Lib.hid hB
      have hsz := hB.size
      have hbx2 := (hB.block _ (blk_lt HBX1.out)).trans HBX1.out
      have d2 : wr.cell? ⟨w.heap.size, 2, none⟩ = some (.slice (some kd) L cn_) := by rw [HL.out]; exact (blk_cell hbx2 2).trans rfl
      have HBX2 := Lib.hid hbx2
      have HBW := Lib.hid (HB1.out.trans (hB.mono (HB1.out.size)))
      have e0 := pw_cell_below HBW.out (HKC.out 0 (by have := HL.out; omega))
      rw [Addr.add_zero', ← HX0.out] at e0
      clear hall hbx2 hB
      have hkb : k < 2000000000 := by omega
      by_cases hlt : k < L
      · have ek := pw_cell_below HBW.out (HKC.out k (by have := HL.out; omega))
        obtain ⟨y, hy⟩ : ∃ y, y = ks.getD k 0 := ⟨_, rfl⟩
        rw [← hy] at ek
        have HY := Lib.hid hy
        have hki : (k : Int) < (L : Int) := by omega
        clear hy
        have hsnoc : (∀ z ∈ ks.take (k + 1), z = x0) ↔ (∀ z ∈ ks.take k, z = x0) ∧ y = x0 := by
          have hk' : k < ks.length := by have := HL.out; omega
          have hyk : ks[k] = y := by rw [HY.out, List.getD_eq_getElem?_getD, List.getElem?_eq_getElem hk']; rfl
          rw [List.take_succ_eq_append_getElem hk', hyk]
          constructor
          · intro h; exact ⟨fun z hz => h z (List.mem_append_left _ hz), h y (by simp)⟩
          · rintro ⟨h1, h2⟩ z hz
            rcases List.mem_append.1 hz with h | h
            · exact h1 z h
            · rw [List.mem_singleton.1 h]; exact h2
        have HSN := Lib.hid hsnoc
        clear hsnoc
        cases bb with
        | false =>
          go_wp2
          go_quiet (fail)
          go_wp2
          go_roundw
          case rel => exact ⟨k + 1, false, rfl, by go_num, by omega, hlt, below_drew2 HB.out _, ⟨Iff.intro (fun h => absurd h (by decide)) (fun h => by have := HALL.out.2 (HSN.out.1 h).1; simp at this)⟩⟩
          case measure => simp [intOf]; omega
        | true =>
          by_cases hyx : y = x0
          · subst hyx
            go_wp2
            go_quiet (fail)
            go_wp2
            go_roundw
            case rel => exact ⟨k + 1, true, by simp, by go_num, by omega, hlt, below_drew2 HB.out _, ⟨Iff.intro (fun _ => HSN.out.2 ⟨by first | exact HALL.out.1 rfl | exact HALL.out.1 trivial, by first | exact rfl | exact trivial⟩) (fun _ => rfl)⟩⟩
            case measure => simp [intOf]; omega
          · have hyb : (y == x0) = false := by simp [hyx]
            go_wp2
            go_quiet (fail)
            go_wp2
            go_roundw
            case rel => exact ⟨k + 1, false, by simp, by go_num, by omega, hlt, below_drew2 HB.out _, ⟨Iff.intro (fun h => absurd h (by decide)) (fun h => absurd (HSN.out.1 h).2 hyx)⟩⟩
            case measure => simp [intOf]; omega
      · have hke : k = L := by omega
        have hsame : bb = sameK ks := by
          have h1 : ks.take k = ks := List.take_of_length_le (by have := HL.out; omega)
          have h2 := HALL.out
          rw [h1] at h2
          have h3 : sameK ks = true ↔ ∀ y ∈ ks, y = x0 := by
            unfold sameK
            rw [List.all_eq_true, HHD.out]
            simp
          rw [Bool.eq_iff_iff, h2, h3]
        cases bb with
        | true =>
          have hpl : plR u ⟨f0, f1, ks⟩ = (u, x0) := by unfold plR; rw [if_pos ⟨HBR.out, hsame.symm⟩, HHD.out]
          have HPL := Lib.hid hpl
          clear hpl hsame hke
          go_wp2
          go_quiet (fail)
          go_wp2
          have hbF := below_drew2 HBW.out nq
          refine bodyPost_ret (v := .tuple #[.slice Au N cu, .int .i64 x0]) (by simp [results, Tryd.f72, go_sem]) rfl ⟨.slice Au N cu, ?_, ?_, grown_below' hbF, .inl (by rw [HNN.out])⟩
          · rw [HPL.out]
          · rw [HPL.out, HNN.out]; exact Kd.R_below HR.out hbF
        | false =>
          have hpl : plR u ⟨f0, f1, ks⟩ = place0 u ⟨f0, f1, ks⟩ := by unfold plR; rw [if_neg (fun h => by rw [← hsame] at h; exact absurd h.2 (by decide))]
          have HPL := Lib.hid hpl
          clear hpl hsame hke
          go_wp2
          clear e0 d2
          obtain ⟨ws, rfl⟩ : ∃ ws : World, ws = wr := ⟨_, rfl⟩
          go_loopw [8] (fun i wr => ∃ k : Nat, i = .int .i64 k ∧ k ≤ N ∧ Below ws.heap.size ws wr ∧ Aside0 (∀ j : Nat, j < k → nth u (j : Int) ≠ ⟨f0, f1, ks⟩)) (fun i _ => N - (intOf i).toNat)
          case atStart => exact ⟨0, rfl, Nat.zero_le _, Below.refl _ _, ⟨fun j hj => absurd hj (Nat.not_lt_zero _)⟩⟩
          case round =>
            obtain ⟨k, rfl, hk, hB, hall⟩ := hrel
            have HALL2 := Lib.hid hall.out
            have hsz := hB.size
            have HB := Lib.hid hB
            have hbx2 := (hB.block _ (blk_lt HBX2.out)).trans HBX2.out
            have d0 : wr.cell? ⟨w.heap.size, 0, none⟩ = some (.int .i64 f0) := (blk_cell hbx2 0).trans rfl
            have d1 : wr.cell? ⟨w.heap.size, 1, none⟩ = some (.int .i64 f1) := (blk_cell hbx2 1).trans rfl
            have d2 : wr.cell? ⟨w.heap.size, 2, none⟩ = some (.slice (some kd) ks.length cn_) := (blk_cell hbx2 2).trans rfl
            have hlt2 := blk_lt hbx2
            have HBX3 := Lib.hid hbx2
            have HBV := Lib.hid (HBW.out.trans (hB.mono (HBW.out.size)))
            clear hall hbx2 hB
            by_cases hlt : k < N
            · have hku : k < u.length := by have := HNN.out; omega
              obtain ⟨ad, A2, c2', rfl, g0, g1, g2, l2, gC⟩ := at_T60 (Kd.C_below HCU.out HBV.out) (k : Int) (by omega) (by omega)
              rw [Int.toNat_natCast] at g0 g1 g2
              rw [rd_nth] at g0 g1 g2 l2 gC
              obtain ⟨m, hm⟩ : ∃ m, m = nth u (k : Int) := ⟨_, rfl⟩
              rw [← hm] at g0 g1 g2 l2 gC
              have hml : m.f2.length ≤ 1073741824 := HKL.out m (by rw [hm, nth_lt hku]; exact List.getElem_mem hku)
              have hkb : k < 4000000000000 := by omega
              have hki : (k : Int) < (N : Int) := by omega
              have hS := exactpplref19_SameNode.calls (m.f2.length + 1) m.f0 m.f1 A2 c2' m.f2 f0 f1 (some kd) cn_ ks _ wr.drew (Kd.C_drew gC) l2 (Kd.C_drew (Kd.C_below HCN.out HBV.out)) hcn (sameNode_f m ⟨f0, f1, ks⟩ (by omega) _ (by omega))
              have HM := Lib.hid hm
              clear hm gC
              by_cases he : m = ⟨f0, f1, ks⟩
              · rw [decide_eq_true he] at hS
                have HE := Lib.hid he
                clear he
                go_wp2
                go_still_tail 5, (by kernel_rfl)
                change wpList _ _ _ _ _ wr.drew
                go_wp2_with (go_at_call 49; refine hS.mono ?_; clear hS; rintro e w3 ⟨rfl, hb3⟩; have HB3 := Lib.hid ((HBV.out.trans ((Below.refl _ wr).drew.mono HBV.out.size)).trans (hb3.mono HBV.out.size)); clear hb3)
                refine bodyPost_ret (v := .tuple #[.slice (some ad) N cu, .int .i64 k]) (by simp [results, Tryd.f72, go_sem]) rfl ⟨.slice (some ad) N cu, ?_, ?_, grown_below' HB3.out, .inl (by rw [HNN.out])⟩
                · rw [HPL.out, place0_at hku (HM.out.symm.trans HE.out) HALL2.out]
                · rw [HPL.out, place0_at hku (HM.out.symm.trans HE.out) HALL2.out, HNN.out]
                  exact Kd.R_below HR.out HB3.out
              · rw [decide_eq_false he] at hS
                have HE := Lib.hid he
                clear he
                go_wp2
                go_still_tail 5, (by kernel_rfl)
                change wpList _ _ _ _ _ wr.drew
                go_wp2_with (go_at_call 49; refine hS.mono ?_; clear hS; rintro e w3 ⟨rfl, hb3⟩; have HB3 := Lib.hid (HB.out.drew.trans (hb3.mono hsz)); clear hb3)
                go_roundw
                case rel => exact ⟨k + 1, by go_num, hlt, HB3.out, ⟨fun j hj => by
                  rcases Nat.lt_or_ge j k with h | h
                  · exact HALL2.out j h
                  · obtain rfl : j = k := by omega
                    rw [← HM.out]; exact HE.out⟩⟩
                case measure => simp [intOf]; omega
            · have hke : k = N := by omega
              have hpo := place0_out (u := u) (n := ⟨f0, f1, ks⟩) (fun j hj => HALL2.out j (by have := HNN.out; omega))
              have HPO := Lib.hid hpo
              have hN' := HNN.out
              have hNb : N < 4000000000000 := by omega
              clear hpo hke hk hN'
              go_wp2_with (at_builtin; refine Kd.R_append k60 (w0 := w) (W := wr) base rfl (.tmp 51) (.tmp 53) 24 60 (.agg #[(.int .i64 0), (.int .i64 0), (.slice none 0 0)]) 40 rfl Tryd.underlying24 info60 rfl (by decide) (by decide) (.slice Au N cu) u ⟨f0, f1, ks⟩ [.int .i64 f0, .int .i64 f1, .slice (some kd) ks.length cn_] ok (fun j => okn j ∧ j < w.heap.size) rfl rfl ?hM ?hO ?hF ?hU (HBV.out.mono hbs) ?hS ?hL ?_)
              case hM => exact k60_mkM _ _ _ ⟨f0, f1, ks⟩ (Kd.R_mono (Kd.R_below (Kd.R_bound HN.out) HBV.out) (fun j hj => ⟨hj.1, hj.2.2.1⟩))
              case hO => intro j hj; have := HOKN.out j hj.1; rw [← HNN.out] at this; exact this
              case hF => intro j hj; exact HNEW.out j (Nat.le_trans HBV.out.size hj)
              case hU => have := Kd.R_below HR.out HBV.out; rw [← HNN.out] at this; exact this
              case hS => exact Nat.le_trans hbs HBV.out.size
              case hL => have := HNN.out; omega
              intro v5 w5 hR5 hB5 hg5 hat5
              have HAT5 := Lib.hid (show OwnOr w v5 (.slice Au N cu) from hat5.elim (fun h => .inl h) (fun ⟨b, h1, h2⟩ => .inr ⟨b, h1, Nat.le_trans HBV.out.size h2⟩))
              clear hat5
              have HR5 := Lib.hid hR5
              have HG5 := Lib.hid hg5
              clear hR5 hB5 hg5
              go_wp2
              refine bodyPost_ret (v := .tuple #[v5, .int .i64 N]) (by simp [results, Tryd.f72, go_sem]) rfl ⟨v5, ?_, ?_, ?_, HAT5.out⟩
              · rw [HPL.out, HPO.out, ← HNN.out]
              · rw [HPL.out, HPO.out]; exact HR5.out
              · exact World.grownBy.trans (grown_below' HBV.out) HG5.out
end Go.Proofs.YtopbjginpmdebaaDoor.K
-- exactpplref19.Append
namespace Go.Proofs.YtopbjginpmdebaaDoor.K
open Go.RowKit Go.Maps Go.Proofs.YtopbjginpmdebaaDoorW.PrintWords Go.Proofs.YtopbjginpmdebaaDoorW.PrintLast Go.Proofs.YtopbjginpmdebaaDoorW.PrintMore
set_option linter.unusedVariables false
set_option linter.unusedSimpArgs false
/-- a node as a graph has it -/
def Frm (n : Nd) : Prop := (n.f0 = -1 ∧ n.f2 = []) ∨ (0 ≤ n.f0 ∧ n.f1 = 0 ∧ n.f2 ≠ [])
theorem plR_place1 {u : List Nd} {at_ : List Int} {n : Nd} (h : Frm n) : plR u ⟨n.f0, n.f1, n.f2.map (lk at_)⟩ = place1 u at_ n := by
  unfold plR place1
  rcases h with ⟨h0, h2⟩ | ⟨h0, h1, h2⟩
  · rw [if_neg (by simp [h0]), if_pos (by omega), h0, h2]; rfl
  · rw [if_neg (show ¬ n.f0 < 0 by omega), h1]
    unfold placeB
    by_cases hs : sameK (n.f2.map (lk at_)) = true
    · rw [if_pos ⟨by simp only; omega, hs⟩, if_pos hs]
    · rw [if_neg (fun e => hs e.2), if_neg hs]
theorem OwnOr.grown {w W W2 : World} {v vu : Value} (h : OwnOr w v vu) (hg : w.grownBy W vu.ownBlock) (hg2 : W.grownBy W2 v.ownBlock) : w.grownBy W2 vu.ownBlock :=
  ⟨hg2.os.trans hg.os, hg2.tape.trans hg.tape, hg2.output.trans hg.output, Nat.le_trans hg.size hg2.size, fun j hj hne => by
    refine (hg2.block j (Nat.lt_of_lt_of_le hj hg.size) (fun e => ?_)).trans (hg.block j hj hne)
    rcases h with h | ⟨b, h, hb⟩
    · exact hne (e.trans h)
    · rw [h] at e; injection e with e; omega⟩
theorem NdSt.drew {wo W : World} {a b : Int} {l : List Int} {v : Value} (h : NdSt wo W a b l v) : NdSt wo W.drew a b l v := ⟨h.below.drew, h.box, Kd.R_below h.row (Below.refl _ _).drew⟩
/-- between two rounds of Append -/
structure AppSt (w W : World) (base : Nat) (ok : Nat → Prop) (vu : Value) (u nodes : List Nd) (k : Nat) (v : Value) : Prop where
  row : k60.R 60 W base (fun j => ok j ∧ j ≠ w.heap.size) v (imp u [] (nodes.take k)).1
  arr : Arr W w.heap.size (padd (imp u [] (nodes.take k)).2 nodes.length)
  grown : w.grownBy W vu.ownBlock
  own : OwnOr w v vu
theorem AppSt.first (w : World) (base : Nat) (ok : Nat → Prop) (u nodes : List Nd) (vu : Value) (hR : k60.R 60 w base ok vu u) (hn : nodes.length ≤ 9223372036854775807) : AppSt w (w.alloc (.cells (madeCells #[.int .i64 0] nodes.length) 3)) base ok vu u nodes 0 vu := by
  have hb := (Below.refl w.heap.size w).alloc (Nat.le_refl _) (.cells (madeCells #[.int .i64 0] nodes.length) 3)
  refine ⟨Kd.R_mono (Kd.R_below (Kd.R_bound hR) hb) (fun j hj => ⟨hj.1, by have := hj.2.2.1; omega⟩), ?_, grown_below' hb, .inl rfl⟩
  simpa [imp, padd] using Arr.made w nodes.length hn
theorem AppSt.next {w W W2 : World} {base : Nat} {ok : Nat → Prop} {vu v v2 : Value} {u nodes : List Nd} {k : Nat} {r : List Nd × Int} (h : AppSt w W base ok vu u nodes k v) (hR : k60.R 60 W2 base (fun j => ok j ∧ j ≠ w.heap.size) v2 r.1) (hg : W.grownBy W2 v.ownBlock) (hown : OwnOr W v2 v)
    (hs : imp u [] (nodes.take (k + 1)) = (r.1, (imp u [] (nodes.take k)).2 ++ [r.2])) (hat : (imp u [] (nodes.take k)).2.length = k) (hk : k < nodes.length) (hvu : some w.heap.size ≠ vu.ownBlock) :
    AppSt w (W2.setCell ⟨w.heap.size, k, none⟩ (.int .i64 r.2)) base ok vu u nodes (k + 1) v2 := by
  have hwb : w.heap.size < W.heap.size := h.arr.lt
  have hnv : some w.heap.size ≠ v.ownBlock := fun e => (h.row.1 _ e.symm).2 rfl
  have ha : Arr W2 w.heap.size (padd (imp u [] (nodes.take k)).2 nodes.length) := h.arr.move (hg.block _ hwb hnv)
  have hG := h.own.grown h.grown hg
  refine ⟨?_, ?_, ⟨hG.os, hG.tape, hG.output, Nat.le_trans hG.size (by simp [World.setCell]), fun j hj hne => (Below.heap_setCell W2 ⟨w.heap.size, k, none⟩ _ j (by show j ≠ w.heap.size; omega)).trans (hG.block j hj hne)⟩, ?_⟩
  · rw [hs]
    exact Kd.R_far (p := ⟨w.heap.size, k, none⟩) hR (fun j hj => hj.2) _
  · rw [hs]
    have := ha.put k r.2
    have e := padd_set (l := (imp u [] (nodes.take k)).2) (n := nodes.length) r.2 (by rw [hat]; exact hk)
    rw [hat] at e
    rw [e] at this
    exact this
  · rcases hown with h1 | ⟨b, h1, h2⟩
    · rcases h.own with h3 | ⟨b, h3, h4⟩
      · exact .inl (h1.trans h3)
      · exact .inr ⟨b, h1.trans h3, h4⟩
    · exact .inr ⟨b, h1, Nat.le_trans h.grown.size h2⟩
def ApPost (w : World) (base : Nat) (ok : Nat → Prop) (vu : Value) (u nodes : List Nd) (e : Ending) (w' : World) : Prop := ∃ v', e = .returned (.tuple #[v', .slice (some ⟨w.heap.size, 0, none⟩) nodes.length nodes.length]) ∧ AppSt w w' base ok vu u nodes nodes.length v'
set_option maxHeartbeats 16000000 in
set_option maxRecDepth 100000 in
theorem append_calls (base : Nat) (ok : Nat → Prop) (u nodes : List Nd) (Au A : Option Addr) (cu c : Nat) (w : World) (hbs : base ≤ w.heap.size)
    (hR : k60.R 60 w base ok (.slice Au u.length cu) u) (hC : ∀ W, w.grownBy W (Value.slice Au u.length cu).ownBlock → k60.C W A nodes.length nodes) (hc : nodes.length ≤ c) (hF : Fit nodes) (hfr : ∀ n ∈ nodes, Frm n) (hU : Tbl u [])
    (hlen : ∀ x ∈ nodes, x.f2.length ≤ 1073741824) (hkl : ∀ x ∈ u, x.f2.length ≤ 1073741824) (hroom : (u.length + nodes.length) * 40 ≤ 140737488355328) (hnew : ∀ j, w.heap.size ≤ j → ok j) :
    Calls Tryd.prog 71 #[.slice Au u.length cu, .slice A nodes.length c] w (ApPost w base ok (.slice Au u.length cu) u nodes) := by
  have hvu : some w.heap.size ≠ (Value.slice Au u.length cu).ownBlock := fun e => by have := Kd.R_lt hR _ e.symm; omega
  have h0 := AppSt.first w base ok u nodes _ hR (by omega)
  have H0 := Lib.hid h0
  have HC := Lib.hid hC
  have HFIT := Lib.hid hF
  have HFR := Lib.hid hfr
  have HU := Lib.hid hU
  have HLEN := Lib.hid hlen
  have HKL := Lib.hid hkl
  have HNEW := Lib.hid hnew
  have HVU := Lib.hid hvu
  obtain ⟨N, hN⟩ : ∃ N, N = nodes.length := ⟨_, rfl⟩
  have HN := Lib.hid hN
  have hmk := print_make (P := Tryd.prog) 22 3 .i64 8 Tryd.underlying22 info3 (by decide) N (by omega)
  rw [← hN] at hroom hc H0 ⊢
  clear hR hC hF hfr hU hlen hkl hnew hvu h0 hN
  go_enter Tryd.func71, Tryd.ntmps71
  go_wp2
  go_loopw [0, 7] (fun v i wr => ∃ (k : Nat) (vv : Value), vv = v ∧ i = .int .i64 k ∧ k ≤ N ∧ AppSt w wr base ok (.slice Au u.length cu) u nodes k vv) (fun _ i _ => N - (intOf i).toNat)
  case atStart => exact ⟨0, _, rfl, rfl, Nat.zero_le _, H0.out⟩
  case round =>
    obtain ⟨k, vv, rfl, rfl, hk, hst⟩ := hrel
    obtain ⟨U, hUe⟩ : ∃ U, U = (imp u [] (nodes.take k)).1 := ⟨_, rfl⟩
    have hrow := hst.row
    rw [← hUe] at hrow
    obtain ⟨Av0, cv0, rfl⟩ := Kd.R_slice hrow
    have HROW := Lib.hid hrow
    have HUE := Lib.hid hUe
    clear hrow hUe
    by_cases hlt : k < N
    · have hkn : k < nodes.length := by have := HN.out; omega
      have hnm : nth nodes k ∈ nodes := by rw [nth_lt hkn]; exact List.getElem_mem hkn
      have hsz := hst.grown.size
      obtain ⟨ad, A2, c2, rfl, d0, d1, d2, l2, g2⟩ := at_T60 (HC.out wr hst.grown) (k : Int) (by omega) (by omega)
      rw [Int.toNat_natCast] at d0 d1 d2
      rw [rd_nth] at d0 d1 d2 l2 g2
      obtain ⟨n, hn⟩ : ∃ n, n = nth nodes (k : Int) := ⟨_, rfl⟩
      rw [← hn] at d0 d1 d2 l2 g2 hnm
      have hI2 := HLEN.out n hnm
      have hfrm := HFR.out n hnm
      have hkids : ∀ c ∈ n.f2, 0 ≤ c ∧ c < (k : Int) := by rw [hn]; exact HFIT.out.1 k hkn
      obtain ⟨tT, tL, -⟩ := imp_tbl HFIT.out HU.out k (by omega)
      have hat : (imp u [] (nodes.take k)).2.length = k := by rw [imp_len]; simp; omega
      have hsucc : imp u [] (nodes.take (k + 1)) = ((place1 (imp u [] (nodes.take k)).1 (imp u [] (nodes.take k)).2 n).1, (imp u [] (nodes.take k)).2 ++ [(place1 (imp u [] (nodes.take k)).1 (imp u [] (nodes.take k)).2 n).2]) := by rw [take_snoc' hkn, imp_snoc, ← hn]
      have huk : ∀ x ∈ (imp u [] (nodes.take k)).1, x.f2.length ≤ 1073741824 := imp_kids (nodes.take k) u [] HKL.out (fun x hx => HLEN.out x (List.mem_of_mem_take hx))
      have hab := hst.arr.lt
      have hdl := World.block_lt_of_cell? _ _ d0
      have hkb : k < 4000000000000 := by omega
      have hki : (k : Int) < (N : Int) := by omega
      obtain ⟨M, hM⟩ : ∃ M, M = n.f2.length := ⟨_, rfl⟩
      have HM := Lib.hid hM
      rw [← hM] at d2 l2 hI2
      have HST := Lib.hid hst
      have HKIDS := Lib.hid hkids
      have HFRM := Lib.hid hfrm
      have HT := Lib.hid tT
      have HTL := Lib.hid tL
      have HAT := Lib.hid hat
      have HSUCC := Lib.hid hsucc
      have HUK := Lib.hid huk
      have HNN := Lib.hid hn
      have HG2 := Lib.hid g2
      clear hst hkids hfrm tT tL hat hsucc huk hn hM g2
      go_wp2
      go_region
      obtain ⟨wo, rfl⟩ : ∃ wo : World, wo = wr := ⟨_, rfl⟩
      go_wp2
      go_loopw [9] (fun i W => ∃ (j : Nat) (v : Value), i = .int .i64 j ∧ j ≤ M ∧ NdSt wo W n.f0 n.f1 ((n.f2.take j).map (lk (imp u [] (nodes.take k)).2)) v) (fun i _ => M - (intOf i).toNat)
      case atStart => exact ⟨0, _, rfl, Nat.zero_le _, (NdSt.first wo n.f0 n.f1).drew⟩
      case round =>
        obtain ⟨j, v, rfl, hj, hnd⟩ := hrel
        obtain ⟨l, hl⟩ : ∃ l, l = (n.f2.take j).map (lk (imp u [] (nodes.take k)).2) := ⟨_, rfl⟩
        rw [← hl] at hnd
        have hll : l.length = j := by rw [hl]; simp; have := HM.out; omega
        obtain ⟨Av, cv, rfl⟩ := Kd.R_slice hnd.row
        have hbW := hnd.below
        have hsW := hbW.size
        have hmW := blk_lt hnd.box
        have bm2 : wr.cell? ⟨wo.heap.size, 2, none⟩ = some (.slice Av l.length cv) := (blk_cell hnd.box 2).trans rfl
        have fm2 := blk_frozen hnd.box 2
        replace d2 := pw_cell_below hbW d2
        have HND := Lib.hid hnd
        have HBW := Lib.hid hbW
        have HLL := Lib.hid hl
        have HLK := Lib.hid hll
        have hlb : l.length ≤ 1073741824 := by omega
        have hjb : j ≤ 1073741824 := by omega
        clear hl hll hnd hbW
        by_cases hjl : j < M
        · have hjn : j < n.f2.length := by have := HM.out; omega
          obtain ⟨ad2, rfl, hkc⟩ := reads_at (Kd.C_below HG2.out HBW.out) (by intro e; rw [e] at hjn; simp at hjn)
          have e0 := hkc j hjn
          have hcm : n.f2.getD j 0 ∈ n.f2 := by rw [List.getD_eq_getElem?_getD, List.getElem?_eq_getElem hjn]; exact List.getElem_mem hjn
          obtain ⟨hc0, hc1⟩ := HKIDS.out _ hcm
          obtain ⟨cn, hcn⟩ : ∃ cn : Nat, n.f2.getD j 0 = cn := ⟨(n.f2.getD j 0).toNat, by omega⟩
          rw [hcn] at e0 hc1
          have hcN : cn < N := by omega
          have hcNi : (cn : Int) < (N : Int) := by omega
          have hcb : cn < 4000000000000 := by omega
          have hji : (j : Int) < (M : Int) := by omega
          have e1 := (HST.out.arr.move (HBW.out.block _ hab)).at cn (by rw [padd_len (by rw [HAT.out]; omega)]; omega)
          rw [padd_get (by rw [HAT.out]; omega)] at e1
          have e2 := e1.1
          obtain ⟨y, hy⟩ : ∃ y, y = (imp u [] (nodes.take k)).2.getD cn 0 := ⟨_, rfl⟩
          rw [← hy] at e2
          have HY := Lib.hid hy
          have HCN := Lib.hid hcn
          have HR2 := Lib.hid HND.out.row
          clear e1 hcm hcn hkc hy
          go_wp2
          go_region_law (((refine Kd.R_append_step (Kd.int .i64) (w0 := wr) (W := wr.drew) (wo.heap.size + 1) (by rfl) (.tmp 41) (.tmp 53) 22 3 (.int .i64 0) 8 rfl Tryd.underlying22 info3 rfl (by decide) (by decide) (.slice Av l.length cv) l y [.int .i64 y] (fun k => wo.heap.size < k) (fun _ => False) (by rfl) (by rfl) rfl (fun _ h => h.elim) (fun k hk => Nat.lt_of_lt_of_le hmW hk) HR2.out (Below.refl _ _).drew hmW (by omega) ?_; intro v5 w5 hR5 hB5 hg5 hat5; obtain ⟨A5, c5, rfl⟩ := Kd.R_slice hR5; have hbx5 := (hB5.block wo.heap.size (Nat.lt_succ_self _)).trans HND.out.box; have q1 := blk_cell hbx5 2; have q2 := blk_frozen hbx5 2)))
          all_goals
            rw [List.length_append, List.length_singleton] at hR5
            have HR5 := Lib.hid hR5
            have HB5 := Lib.hid hB5
            clear hR5 hB5 hg5 hat5 hbx5
            go_wp2
            go_roundw
            case rel =>
              refine ⟨j + 1, .slice A5 (l.length + 1) c5, by go_num, hjl, ?_⟩
              have h3 : (n.f2.take (j + 1)).map (lk (imp u [] (nodes.take k)).2) = l ++ [y] := by
                rw [List.take_succ_eq_append_getElem hjn, List.map_append, ← HLL.out]
                congr 1
                have : n.f2[j] = (cn : Int) := by
                  have := HCN.out
                  rw [List.getD_eq_getElem?_getD, List.getElem?_eq_getElem hjn] at this
                  exact this
                simp [lk, this, HY.out]
              rw [h3]
              exact HND.out.next HR5.out HB5.out
            case measure => simp [intOf]; omega
        · have ej : j = M := by omega
          have hKL : l = n.f2.map (lk (imp u [] (nodes.take k)).2) := by rw [HLL.out, ej, List.take_of_length_le (l := n.f2) (i := M) (by have := HM.out; omega)]
          have hpl : plR U ⟨n.f0, n.f1, l⟩ = place1 (imp u [] (nodes.take k)).1 (imp u [] (nodes.take k)).2 n := by rw [HUE.out, hKL]; exact plR_place1 HFRM.out
          have hne : n.f0 ≠ -1 → l ≠ [] := by
            intro h0 e
            rcases HFRM.out with ⟨h1, _⟩ | ⟨_, _, h1⟩
            · exact h0 h1
            · rw [hKL] at e; exact h1 (by simpa using e)
          have hsW' := HBW.out.size
          have hA := (place_calls base (fun j => ok j ∧ j ≠ w.heap.size) (fun j => wo.heap.size < j) U ⟨n.f0, n.f1, l⟩ Av0 Av cv0 cv wr (by omega) (Kd.R_below HROW.out HBW.out) (Kd.R_lower HND.out.row (by omega)) (fun j hj => ⟨⟨HNEW.out j (by omega), by omega⟩, fun e => by have := Kd.R_lt HROW.out _ e.symm; omega⟩) hne (by show l.length ≤ _; omega) (by have := HTL.out; rw [← HUE.out] at this; omega) (by rw [HUE.out]; exact HUK.out) (fun j hj => ⟨HNEW.out j (by omega), by omega⟩)).mono (R' := fun e w2 => ∃ v', e = .returned (.tuple #[v', .int .i64 (place1 (imp u [] (nodes.take k)).1 (imp u [] (nodes.take k)).2 n).2]) ∧
              k60.R 60 w2 base (fun j => ok j ∧ j ≠ w.heap.size) v' (place1 (imp u [] (nodes.take k)).1 (imp u [] (nodes.take k)).2 n).1 ∧ wo.grownBy w2 (Value.slice Av0 U.length cv0).ownBlock ∧ OwnOr wo v' (.slice Av0 U.length cv0) ∧ (∃ v, w2.cell? ⟨w.heap.size, k, none⟩ = some (.int .i64 v)) ∧ w2.frozen? ⟨w.heap.size, k, none⟩ = false) (by
            rintro e w2 ⟨v', rfl, h2, h3, h4⟩
            rw [hpl] at h2 ⊢
            have h5 := World.grownBy.trans (grown_below' HBW.out) h3
            have h6 := (HST.out.arr.move (h5.block _ hab (fun e => (HROW.out.1 _ e.symm).2 rfl))).at k (by rw [padd_len (by rw [HAT.out]; omega)]; exact hkn)
            exact ⟨v', rfl, h2, h5, h4.elim .inl (fun ⟨b, h7, h8⟩ => .inr ⟨b, h7, by omega⟩), ⟨_, h6.1⟩, h6.2⟩)
          dsimp only at hA
          obtain ⟨r, hr⟩ : ∃ r, r = place1 (imp u [] (nodes.take k)).1 (imp u [] (nodes.take k)).2 n := ⟨_, rfl⟩
          rw [← hr] at hA
          have HR := Lib.hid hr
          have bm0 : wr.cell? ⟨wo.heap.size, 0, none⟩ = some (.int .i64 n.f0) := (blk_cell HND.out.box 0).trans rfl
          have bm1 : wr.cell? ⟨wo.heap.size, 1, none⟩ = some (.int .i64 n.f1) := (blk_cell HND.out.box 1).trans rfl
          clear hr hpl hne hKL ej
          go_wp2_with (go_at_call 72; refine hA.mono ?_; clear hA; rintro e w2 ⟨v2, rfl, hR2, hg2, ho2, ⟨vc, hvc⟩, hfc⟩; have HR2 := Lib.hid hR2; have HGG := Lib.hid hg2; have HO2 := Lib.hid ho2; clear hR2 hg2 ho2)
          go_roundw
          case rel =>
            refine ⟨k + 1, v2, rfl, by go_num, hlt, ?_⟩
            exact HST.out.next HR2.out HGG.out HO2.out (by rw [HSUCC.out, HR.out]) HAT.out hkn HVU.out
          case measure => simp [intOf]; omega
    · obtain rfl : k = N := by omega
      have HST := Lib.hid hst
      clear hst
      go_wp2
      refine bodyPost_ret (v := .tuple #[.slice Av0 U.length cv0, .slice (some ⟨w.heap.size, 0, none⟩) k k]) (by simp [results, Tryd.f71, go_sem]) rfl ⟨.slice Av0 U.length cv0, ?_, ?_⟩
      · rw [HN.out]
      · have := HST.out; rw [HN.out] at this; exact this
end Go.Proofs.YtopbjginpmdebaaDoor.K
-- exactpplref19.walk: what it keeps
namespace Go.Proofs.YtopbjginpmdebaaDoor.K
open Go.RowKit Go.Maps Go.Proofs.YtopbjginpmdebaaDoorW.PrintWords Go.Proofs.YtopbjginpmdebaaDoorW.PrintLast Go.Proofs.YtopbjginpmdebaaDoorW.PrintMore
set_option linter.unusedVariables false
set_option linter.unusedSimpArgs false
/-- the places as an array: -1 where there is none -/
def atl (n : Nat) (g : PM) : List Int := (List.range n).map fun j : Nat => (g (j : Int)).getD (-1)
theorem atl_len (n : Nat) (g : PM) : (atl n g).length = n := by simp [atl]
theorem atl_get {n j : Nat} (g : PM) (h : j < n) : (atl n g).getD j 0 = (g (j : Int)).getD (-1) := by
  unfold atl
  rw [List.getD_eq_getElem?_getD, List.getElem?_map, List.getElem?_range h]; rfl
theorem atl_upd {n i : Nat} (g : PM) (a : Int) (h : i < n) : (atl n g).set i a = atl n (upd g (i : Int) a) := by
  apply List.ext_getElem
  · simp [atl]
  · intro j h1 h2
    have hj : j < n := by simpa [atl] using h2
    rw [List.getElem_set]
    simp only [atl, List.getElem_map, List.getElem_range, upd]
    by_cases e : i = j
    · subst e; simp
    · rw [if_neg e, if_neg (by omega)]
theorem pigeon : ∀ (m n : Nat) (f : Nat → Nat), (∀ a, a < n → f a < m) → (∀ a b, a < n → b < n → f a = f b → a = b) → n ≤ m
  | 0, n, f, h1, _ => by
    rcases n with _ | n
    · exact Nat.le_refl _
    · exact absurd (h1 0 (by omega)) (by omega)
  | m + 1, n, f, h1, h2 => by
    by_cases hx : ∃ a, a < n ∧ f a = m
    · obtain ⟨a0, ha0, e0⟩ := hx
      have h := pigeon m (n - 1) (fun a => if a < a0 then f a else f (a + 1)) (fun a ha => by
        have key : ∀ b, b < n → b ≠ a0 → f b < m := fun b hb hne => by
          have := h1 b hb
          have : f b ≠ m := fun e => hne (h2 b a0 hb ha0 (e.trans e0.symm))
          omega
        try dsimp only
        split
        · exact key a (by omega) (by omega)
        · exact key (a + 1) (by omega) (by omega)) (fun a b ha hb e => by
        try dsimp only at e
        split at e <;> split at e
        · exact h2 a b (by omega) (by omega) e
        · have := h2 a (b + 1) (by omega) (by omega) e; omega
        · have := h2 (a + 1) b (by omega) (by omega) e; omega
        · have := h2 (a + 1) (b + 1) (by omega) (by omega) e; omega)
      omega
    · have := pigeon m n f (fun a ha => by
        have := h1 a ha
        have : f a ≠ m := fun e => hx ⟨a, ha, e⟩
        omega) h2
      omega
theorem Pl.len {u : List Nd} {s : St} (h : Pl u s) : s.2.length ≤ u.length := by
  refine pigeon u.length s.2.length (fun a => if ha : a < s.2.length then (Classical.choose (h.all a ha)).toNat else 0) (fun a ha => ?_) (fun a b ha hb e => ?_)
  · simp only [dif_pos ha]
    have h1 := Classical.choose_spec (h.all a ha)
    have h2 := h.node _ _ h1
    omega
  · simp only [dif_pos ha, dif_pos hb] at e
    have h1 := Classical.choose_spec (h.all a ha)
    have h2 := Classical.choose_spec (h.all b hb)
    have h3 := h.node _ _ h1
    have h4 := h.node _ _ h2
    have e' : Classical.choose (h.all a ha) = Classical.choose (h.all b hb) := by omega
    rw [e', h2] at h1
    have := Option.some.inj h1
    omega
/-- the walk's memory -/
structure Wk (B0 b : Nat) (ok : Nat → Prop) (W : World) (u : List Nd) (s : St) (v : Value) : Prop where
  arr : Arr W b (atl u.length s.1)
  row : k60.R 60 W B0 ok v s.2
  pl : Pl u s
/-- what a walk leaves alone -/
structure Kp (w W : World) (b : Nat) (v : Value) : Prop where
  os : W.os = w.os
  tape : W.tape = w.tape
  output : W.output = w.output
  size : w.heap.size ≤ W.heap.size
  same : ∀ j, j < w.heap.size → j ≠ b → some j ≠ v.ownBlock → W.heap[j]? = w.heap[j]?
theorem Kp.refl (w : World) (b : Nat) (v : Value) : Kp w w b v := ⟨rfl, rfl, rfl, Nat.le_refl _, fun _ _ _ _ => rfl⟩
theorem Kp.trans {w W W2 : World} {b : Nat} {v0 v : Value} (h : Kp w W b v0) (ho : OwnOr w v v0) (k : Kp W W2 b v) : Kp w W2 b v0 :=
  ⟨k.os.trans h.os, k.tape.trans h.tape, k.output.trans h.output, Nat.le_trans h.size k.size, fun j hj hb hv => by
    refine (k.same j (Nat.lt_of_lt_of_le hj h.size) hb (fun e => ?_)).trans (h.same j hj hb hv)
    rcases ho with h1 | ⟨c, h1, h2⟩
    · exact hv (e.trans h1)
    · rw [h1] at e; injection e with e; omega⟩
theorem Kp.of_below {w W : World} (h : Below w.heap.size w W) (b : Nat) (v : Value) : Kp w W b v := ⟨h.os, h.tape, h.output, h.size, fun j hj _ _ => h.block j hj⟩
theorem Kp.of_grown {w W : World} {b : Nat} {v : Value} (h : w.grownBy W v.ownBlock) : Kp w W b v := ⟨h.os, h.tape, h.output, h.size, fun j hj _ hv => h.block j hj hv⟩
theorem Kp.below {B0 b : Nat} {w W : World} {v : Value} (h : Kp w W b v) (h1 : B0 ≤ w.heap.size) (hb : B0 ≤ b) (hv : ∀ k, v.ownBlock = some k → B0 ≤ k) : Below B0 w W :=
  ⟨h.os, h.tape, h.output, h.size, fun j hj => h.same j (by omega) (by omega) (fun e => by have := hv j e.symm; omega)⟩
theorem OwnOr.trans {w W : World} {a b c : Value} (h : OwnOr w b c) (hs : w.heap.size ≤ W.heap.size) (k : OwnOr W a b) : OwnOr w a c := by
  rcases k with h1 | ⟨x, h1, h2⟩
  · rcases h with h3 | ⟨x, h3, h4⟩
    · exact .inl (h1.trans h3)
    · exact .inr ⟨x, h1.trans h3, h4⟩
  · exact .inr ⟨x, h1, Nat.le_trans hs h2⟩
theorem ints_move {W W2 : World} {base : Nat} {ok : Nat → Prop} {v : Value} {l : List Int} (h : (Kd.int .i64).R 3 W base ok v l) (hm : ∀ k, v.ownBlock = some k → W2.heap[k]? = W.heap[k]?) : (Kd.int .i64).R 3 W2 base ok v l :=
  Kd.R_mono (Kd.R_step (Kd.R_tight rfl h) (fun k hk _ => hm k hk.symm)) (fun k hk => h.1 k hk.symm)
theorem ints_type {W : World} {base : Nat} {ok : Nat → Prop} {v : Value} {l : List Int} (h : (Kd.int .i64).R 3 W base ok v l) (k : Nat) (hk : v.ownBlock = some k) : ∃ cs, W.heap[k]? = some (.cells cs 3 (0, 0)) := by
  obtain ⟨_, inner, ho, _⟩ := h
  exact own_typed ho k hk
theorem nodes_type {W : World} {base : Nat} {ok : Nat → Prop} {v : Value} {l : List Nd} (h : k60.R 60 W base ok v l) (k : Nat) (hk : v.ownBlock = some k) : ∃ cs, W.heap[k]? = some (.cells cs 60 (0, 0)) := by
  obtain ⟨_, inner, ho, _⟩ := h
  exact own_typed ho k hk
/-- between two rounds of walk's loop: the new node at block β, its kids' row vk -/
structure WL (B0 b β : Nat) (ok : Nat → Prop) (w W : World) (u : List Nd) (v0 : Value) (s : St) (x y : Int) (l : List Int) (v vk : Value) : Prop where
  wk : Wk B0 b (fun j => ok j ∧ j ≠ β ∧ some j ≠ vk.ownBlock) W u s v
  box : W.heap[β]? = some (.cells #[.int .i64 x, .int .i64 y, vk] 60 (0, 0))
  row : (Kd.int .i64).R 3 W (β + 1) (fun k => β < k) vk l
  kp : Kp w W b v0
  own : OwnOr w v v0
theorem Wk.below {B0 b : Nat} {ok : Nat → Prop} {W W2 : World} {u : List Nd} {s : St} {v : Value} (h : Wk B0 b ok W u s v) (hb : Below W.heap.size W W2) : Wk B0 b ok W2 u s v :=
  ⟨h.arr.move (hb.block _ h.arr.lt), Kd.R_below h.row hb, h.pl⟩
theorem WL.below {B0 b β : Nat} {ok : Nat → Prop} {w W W2 : World} {u : List Nd} {v0 : Value} {s : St} {x y : Int} {l : List Int} {v vk : Value} (h : WL B0 b β ok w W u v0 s x y l v vk) (hb : Below W.heap.size W W2) : WL B0 b β ok w W2 u v0 s x y l v vk :=
  ⟨h.wk.below hb, (hb.block _ (blk_lt h.box)).trans h.box, Kd.R_below h.row hb, h.kp.trans h.own (Kp.of_below hb _ _), h.own⟩
/-- the first round's start -/
theorem WL.first {B0 b : Nat} {ok : Nat → Prop} {w : World} {u : List Nd} {s : St} {v : Value} (h : Wk B0 b ok w u s v) (x y : Int) :
    WL B0 b w.heap.size ok w (w.alloc (.cells #[.int .i64 x, .int .i64 y, .slice none 0 0] 60)) u v s x y [] v (.slice none 0 0) := by
  have hb : Below w.heap.size w (w.alloc (.cells #[.int .i64 x, .int .i64 y, .slice none 0 0] 60)) := (Below.refl _ w).alloc (Nat.le_refl _) _
  exact ⟨⟨h.arr.move (hb.block _ h.arr.lt), Kd.R_mono (Kd.R_below (Kd.R_bound h.row) hb) (fun j hj => ⟨hj.1, by have := hj.2.2.1; omega, by simp [Value.ownBlock]⟩), h.pl⟩, heap_alloc_new w _, Kd.R_nil _ _ _ _ _, Kp.of_below hb _ _, .inl rfl⟩
/-- a walk inside -/
theorem WL.call {B0 b β : Nat} {ok : Nat → Prop} {w W W2 : World} {u : List Nd} {v0 : Value} {s s2 : St} {x y : Int} {l : List Int} {v v2 vk : Value} (h : WL B0 b β ok w W u v0 s x y l v vk) (hbβ : b < β)
    (k : Wk B0 b (fun j => ok j ∧ j ≠ β ∧ some j ≠ vk.ownBlock) W2 u s2 v2) (kp : Kp W W2 b v) (ho : OwnOr W v2 v) : WL B0 b β ok w W2 u v0 s2 x y l v2 vk := by
  refine ⟨k, (kp.same _ (blk_lt h.box) (by omega) (fun e => (h.wk.row.1 _ e.symm).2.1 rfl)).trans h.box, ints_move h.row (fun q hq => kp.same q (Kd.R_lt h.row q hq) (by have := h.row.1 q hq; omega) (fun e => ?_)), h.kp.trans h.own kp, h.own.trans h.kp.size ho⟩
  exact (h.wk.row.1 q e.symm).2.2 hq.symm
/-- a kid's place is noted -/
theorem WL.kid {B0 b β : Nat} {ok : Nat → Prop} {w W W5 : World} {u : List Nd} {v0 : Value} {s : St} {x y z : Int} {l : List Int} {v vk v5 : Value} (h : WL B0 b β ok w W u v0 s x y l v vk) (hbβ : b < β) (hwβ : w.heap.size ≤ β)
    (hR : (Kd.int .i64).R 3 W5 (β + 1) (fun k => β < k) v5 (l ++ [z])) (hg : W.grownBy W5 vk.ownBlock) (hat : v5.ownBlock = vk.ownBlock ∨ ∃ c, v5.ownBlock = some c ∧ W.heap.size ≤ c) :
    WL B0 b β ok w (W5.setCell ⟨β, 2, none⟩ v5) u v0 s x y (l ++ [z]) v v5 := by
  have hβ := blk_lt h.box
  have hkβ : ∀ q, vk.ownBlock = some q → β < q := h.row.1
  have hbx5 : W5.heap[β]? = some (.cells #[.int .i64 x, .int .i64 y, vk] 60 (0, 0)) := (hg.block β hβ (fun e => by have := hkβ β e.symm; omega)).trans h.box
  have hrow5 : k60.R 60 W5 B0 (fun j => ok j ∧ j ≠ β ∧ some j ≠ v5.ownBlock) v s.2 := by
    refine Kd.R_mono (Kd.R_grown (Kd.R_bound h.wk.row) hg (fun j hj => hj.1.2.2)) (fun j hj => ⟨hj.1.1, hj.1.2.1, fun e => ?_⟩)
    rcases hat with h1 | ⟨c, h1, h2⟩
    · exact hj.1.2.2 (e.trans h1)
    · rw [h1] at e; injection e with e; have := hj.2.2.1; omega
  refine ⟨⟨?_, Kd.R_far (p := ⟨β, 2, none⟩) hrow5 (fun j hj => hj.2.1) _, h.wk.pl⟩, blk_set hbx5 2 v5, Kd.R_far (p := ⟨β, 2, none⟩) hR (fun k hk => by show k ≠ β; omega) _, ?_, h.own⟩
  · refine (h.wk.arr.move (hg.block b h.wk.arr.lt (fun e => by have := hkβ b e.symm; omega))).move (Below.heap_setCell W5 ⟨β, 2, none⟩ v5 b (by show b ≠ β; omega))
  · refine ⟨hg.os.trans h.kp.os, hg.tape.trans h.kp.tape, hg.output.trans h.kp.output, Nat.le_trans (Nat.le_trans h.kp.size hg.size) (by simp [World.setCell]), fun j hj hb hv => ?_⟩
    refine (Below.heap_setCell W5 ⟨β, 2, none⟩ v5 j (by show j ≠ β; omega)).trans ((hg.block j (Nat.lt_of_lt_of_le hj h.kp.size) (fun e => ?_)).trans (h.kp.same j hj hb hv))
    have := hkβ j e.symm; omega
/-- the end: the node's place is noted, the node stored -/
theorem WL.done {B0 b β : Nat} {ok : Nat → Prop} {w W W5 : World} {u : List Nd} {v0 : Value} {s : St} {x y : Int} {l : List Int} {v vk v5 : Value} {iN : Nat} (h : WL B0 b β ok w W u v0 s x y l v vk) (hi : iN < u.length)
    (hR : k60.R 60 W5 B0 ok v5 (s.2 ++ [⟨x, y, l⟩])) (hg : (W.setCell ⟨b, iN, none⟩ (.int .i64 (s.2.length : Int))).grownBy W5 v.ownBlock) (hat : v5.ownBlock = v.ownBlock ∨ ∃ c, v5.ownBlock = some c ∧ W.heap.size ≤ c)
    (hok : ∀ j, ok j → j ≠ b) (hP : Pl u (upd s.1 iN s.2.length, s.2 ++ [⟨x, y, l⟩])) :
    Wk B0 b ok W5 u (upd s.1 iN s.2.length, s.2 ++ [⟨x, y, l⟩]) v5 ∧ Kp w W5 b v0 ∧ OwnOr w v5 v0 := by
  have hsz : (W.setCell ⟨b, iN, none⟩ (.int .i64 (s.2.length : Int))).heap.size = W.heap.size := by simp [World.setCell]
  have hnb : some b ≠ v.ownBlock := fun e => hok b (h.wk.row.1 b e.symm).1 rfl
  refine ⟨⟨?_, hR, hP⟩, ?_, ?_⟩
  · have h1 := h.wk.arr.put iN (s.2.length : Int)
    rw [atl_upd s.1 _ hi] at h1
    exact h1.move (hg.block b (by rw [hsz]; exact h.wk.arr.lt) hnb)
  · refine h.kp.trans h.own ⟨hg.os, hg.tape, hg.output, by rw [← hsz]; exact hg.size, fun j hj hb hv => ?_⟩
    exact (hg.block j (by rw [hsz]; exact hj) hv).trans (Below.heap_setCell W ⟨b, iN, none⟩ _ j (by show j ≠ b; exact hb))
  · exact h.own.trans h.kp.size (hat.elim .inl .inr)
/-- what the walk has done with a node's first kids -/
def kidSt (u : List Nd) (d : Nat) (s : St) (l : List Int) : St := l.foldl (fun s c => dfs u d c s) s
theorem kidSt_snoc (u : List Nd) (d : Nat) (s : St) (l : List Int) (c : Int) : kidSt u d s (l ++ [c]) = dfs u d c (kidSt u d s l) := by simp [kidSt]
theorem kidSt_mp {u : List Nd} (hu : Down u) {d i : Nat} (hi : i < u.length) (hd : i ≤ d) {s : St} (hs : Pl u s) : ∀ (l : List Int), (∀ c ∈ l, 0 ≤ c ∧ c < (i : Int)) →
    Pl u (kidSt u d s l) ∧ Ext s (kidSt u d s l) ∧ ∀ c ∈ l, ((kidSt u d s l).1 c).isSome := by
  have key : ∀ (l : List Int) (s : St), (∀ c ∈ l, 0 ≤ c ∧ c < (i : Int)) → Pl u s → Pl u (kidSt u d s l) ∧ Ext s (kidSt u d s l) ∧ ∀ c ∈ l, ((kidSt u d s l).1 c).isSome := by
    intro l
    induction l with
    | nil => intro s _ hs; exact ⟨hs, fun _ _ h => h, by simp⟩
    | cons c l ih =>
      intro s hl hs
      obtain ⟨c0, c1⟩ := hl c List.mem_cons_self
      obtain ⟨n, rfl⟩ : ∃ n : Nat, c = n := ⟨c.toNat, by omega⟩
      obtain ⟨p1, p2, p3, _⟩ := dfs_pl hu d n s (by omega) (by omega) hs
      obtain ⟨q1, q2, q3⟩ := ih (dfs u d n s) (fun k hk => hl k (List.mem_cons_of_mem _ hk)) p1
      refine ⟨q1, fun a b h => q2 a b (p2 a b h), fun k hk => ?_⟩
      rcases List.mem_cons.1 hk with rfl | hk
      · obtain ⟨b, hb⟩ := Option.isSome_iff_exists.1 p3
        show ((kidSt u d (dfs u d n s) l).1 _).isSome = true
        rw [q2 _ _ hb]; rfl
      · exact q3 k hk
  exact fun l hl => key l s hl hs
theorem mp_ext {g g' : PM} {l : List Int} (h : ∀ c ∈ l, ∀ a, g c = some a → g' c = some a) (hs : ∀ c ∈ l, (g c).isSome) : mp g' l = mp g l := by
  refine List.map_congr_left fun c hc => ?_
  obtain ⟨a, ha⟩ := Option.isSome_iff_exists.1 (hs c hc)
  rw [h c hc a ha, ha]
end Go.Proofs.YtopbjginpmdebaaDoor.K
-- exactpplref19.walk
namespace Go.Proofs.YtopbjginpmdebaaDoor.K
open Go.RowKit Go.Maps Go.Proofs.YtopbjginpmdebaaDoorW.PrintWords Go.Proofs.YtopbjginpmdebaaDoorW.PrintLast Go.Proofs.YtopbjginpmdebaaDoorW.PrintMore
set_option linter.unusedVariables false
set_option linter.unusedSimpArgs false
def WkPost (B0 b : Nat) (ok : Nat → Prop) (w : World) (u : List Nd) (r : St) (v : Value) (e : Ending) (w' : World) : Prop := ∃ v', e = .returned v' ∧ Wk B0 b ok w' u r v' ∧ Kp w w' b v ∧ OwnOr w v' v
set_option maxHeartbeats 32000000 in
set_option maxRecDepth 100000 in
theorem walk_calls (B0 b : Nat) (u : List Nd) (hu : Down u) (Au : Option Addr) (cu : Nat) (hcu : u.length ≤ cu) (hkl : ∀ x ∈ u, x.f2.length ≤ 1073741824) (hul : (u.length + 1) * 40 ≤ 140737488355328) (hb0 : B0 ≤ b) :
    ∀ (d i : Nat) (s : St) (ok : Nat → Prop) (v : Value) (w : World), i < u.length → i < d → B0 ≤ w.heap.size → (∀ W, Below B0 w W → k60.C W Au u.length u) → Wk B0 b ok w u s v → (∀ j, ok j → j ≠ b) → (∀ j, w.heap.size ≤ j → ok j) →
    Calls Tryd.prog 78 #[.slice Au u.length cu, .int .i64 (i : Nat), .slice (some ⟨b, 0, none⟩) u.length u.length, v] w (WkPost B0 b ok w u (dfs u d i s) v) := by
  intro d
  induction d with
  | zero => intro i s ok v w _ h; omega
  | succ d ih =>
    intro i s ok v w hi hd hB hC hwk hok hnew
    have IH := Lib.hid ih
    clear ih
    have hat := hwk.arr.at i (by rw [atl_len]; exact hi)
    rw [atl_get s.1 hi] at hat
    have a0 := hat.1
    have hbl := hwk.arr.lt
    have HU := Lib.hid hu
    have HKL := Lib.hid hkl
    have HC := Lib.hid hC
    have HWK := Lib.hid hwk
    have HOK := Lib.hid hok
    have HNEW := Lib.hid hnew
    obtain ⟨N, hN⟩ : ∃ N, N = u.length := ⟨_, rfl⟩
    have HN := Lib.hid hN
    rw [← hN] at hi hul hcu ⊢
    clear hu hkl hC hwk hok hnew hat hN
    have hib : i < 4000000000000 := by omega
    have hii : (i : Int) < (N : Int) := by omega
    cases hg : s.1 (i : Int) with
    | some a =>
      have ha := (HWK.out.pl.node _ _ hg).2.1
      rw [hg] at a0
      have e : dfs u (d + 1) (i : Int) s = s := by simp only [dfs]; rw [hg]; rfl
      rw [e]
      have a1 : w.cell? ⟨b, i, none⟩ = some (.int .i64 a) := a0
      clear e hg a0
      go_enter Tryd.func78, Tryd.ntmps78
      go_wp2
      go_ret
      exact ⟨_, rfl, HWK.out, Kp.refl _ _ _, .inl rfl⟩
    | none =>
      rw [hg] at a0
      have e : dfs u (d + 1) (i : Int) s = fin u (i : Int) (kidSt u d s (nth u (i : Int)).f2) := by simp only [dfs]; rw [hg]; rfl
      rw [e]
      have a1 : w.cell? ⟨b, i, none⟩ = some (.int .i64 (-1)) := a0
      have HG := Lib.hid hg
      clear e hg a0
      obtain ⟨ad, A2, c2, rfl, d0, d1, d2, l2, g2⟩ := at_T60 (HC.out w (Below.refl _ _)) (i : Int) (by omega) (by have := HN.out; omega)
      rw [Int.toNat_natCast] at d0 d1 d2
      rw [rd_nth] at d0 d1 d2 l2 g2
      have hiu : i < u.length := by have := HN.out; omega
      obtain ⟨n, hn⟩ : ∃ n, n = nth u (i : Int) := ⟨_, rfl⟩
      have hnm : n ∈ u := by rw [hn, nth_lt hiu]; exact List.getElem_mem hiu
      rw [← hn] at d0 d1 d2 l2 g2 ⊢
      have hI2 := HKL.out n hnm
      have hkids : ∀ c ∈ n.f2, 0 ≤ c ∧ c < (i : Int) := by rw [hn]; exact HU.out i hiu
      obtain ⟨M, hM⟩ : ∃ M, M = n.f2.length := ⟨_, rfl⟩
      have HM := Lib.hid hM
      rw [← hM] at d2 l2 hI2
      have HNN := Lib.hid hn
      have HKIDS := Lib.hid hkids
      have hdl := World.block_lt_of_cell? _ _ d0
      clear hn hkids hM g2
      go_enter Tryd.func78, Tryd.ntmps78
      go_wp2
      go_region
      go_wp2
      go_loopw [3, 10] (fun o i W => ∃ (j : Nat) (vv vk : Value), vv = o ∧ i = .int .i64 j ∧ j ≤ M ∧ WL B0 b w.heap.size ok w W u v (kidSt u d s (n.f2.take j)) n.f0 n.f1 (mp (kidSt u d s (n.f2.take j)).1 (n.f2.take j)) vv vk) (fun _ i _ => M - (intOf i).toNat)
      case atStart => exact ⟨0, _, _, rfl, rfl, Nat.zero_le _, (WL.first HWK.out n.f0 n.f1).below (Below.refl _ _).drew⟩
      case round =>
        obtain ⟨j, vv, vk, rfl, rfl, hj, hwl⟩ := hrel
        have hkb2 : ∀ k, v.ownBlock = some k → B0 ≤ k := Kd.R_base HWK.out.row
        have hBW : Below B0 w wr := hwl.kp.below hB hb0 hkb2
        have hsz := hwl.kp.size
        have hβ := blk_lt hwl.box
        obtain ⟨ad', A3, c3, had, -, -, d3, l3, g3⟩ := at_T60 (HC.out wr hBW) (i : Int) (by omega) (by have := HN.out; omega)
        injection had with had
        subst had
        rw [Int.toNat_natCast] at d3
        rw [rd_nth, ← HNN.out] at d3 l3 g3
        rw [← HM.out] at d3 l3
        obtain ⟨sj, hsj⟩ : ∃ sj, sj = kidSt u d s (n.f2.take j) := ⟨_, rfl⟩
        obtain ⟨l, hl⟩ : ∃ l, l = mp (kidSt u d s (n.f2.take j)).1 (n.f2.take j) := ⟨_, rfl⟩
        rw [← hl, ← hsj] at hwl
        have hll : l.length = j := by rw [hl]; simp [mp]; have := HM.out; omega
        obtain ⟨Avk, cvk, rfl⟩ := Kd.R_slice hwl.row
        have HWL := Lib.hid hwl
        have HSJ := Lib.hid hsj
        have HL := Lib.hid hl
        have HLL := Lib.hid hll
        have HBW := Lib.hid hBW
        have HG3 := Lib.hid g3
        have hjb : j ≤ 1073741824 := by omega
        clear hwl hsj hl hll hkb2 hBW g3 d0 d1 d2 a1 hdl
        by_cases hjl : j < M
        · have hjn : j < n.f2.length := by have := HM.out; omega
          obtain ⟨ad2, rfl, hkc⟩ := reads_at HG3.out (by intro e; rw [e] at hjn; simp at hjn)
          have e0 := hkc j hjn
          have hcm : n.f2.getD j 0 ∈ n.f2 := by rw [List.getD_eq_getElem?_getD, List.getElem?_eq_getElem hjn]; exact List.getElem_mem hjn
          obtain ⟨hc0, hc1⟩ := HKIDS.out _ hcm
          obtain ⟨cn, hcn⟩ : ∃ cn : Nat, n.f2.getD j 0 = cn := ⟨(n.f2.getD j 0).toNat, by omega⟩
          rw [hcn] at e0 hc1
          have hcN : cn < N := by omega
          have hcNi : (cn : Int) < (N : Int) := by omega
          have hcb : cn < 4000000000000 := by omega
          have hji : (j : Int) < (M : Int) := by omega
          have HCN := Lib.hid hcn
          have hA := IH.out cn sj (fun q => ok q ∧ q ≠ w.heap.size ∧ some q ≠ (Value.slice Avk l.length cvk).ownBlock) vv wr (by have := HN.out; omega) (by omega) (Nat.le_trans hB hsz) (fun W hW => HC.out W (HBW.out.trans hW)) HWL.out.wk (fun q hq => HOK.out q hq.1) (fun q hq => ⟨HNEW.out q (by omega), by omega, fun e => by have := Kd.R_lt HWL.out.row q e.symm; omega⟩)
          rw [← HN.out] at hA
          have HKC := Lib.hid hkc
          clear hcm hcn hkc
          go_wp2_with (go_at_call 78; refine hA.mono ?_; clear hA; rintro e w2 ⟨v2, rfl, hwk2, hkp2, ho2⟩; have HWK2 := Lib.hid hwk2; have HKP2 := Lib.hid hkp2; have HO2 := Lib.hid ho2; clear hwk2 hkp2 ho2)
          have hwl2 := HWL.out.call (by omega) HWK2.out HKP2.out HO2.out
          have hBW2 : Below B0 w w2 := hwl2.kp.below hB hb0 (Kd.R_base HWK.out.row)
          obtain ⟨ad', A4, c4, had, -, -, d4, l4, g4⟩ := at_T60 (HC.out w2 hBW2) (i : Int) (by omega) (by have := HN.out; omega)
          injection had with had
          subst had
          rw [Int.toNat_natCast] at d4
          rw [rd_nth, ← HNN.out] at d4 l4 g4
          rw [← HM.out] at d4 l4
          obtain ⟨ad4, rfl, hkc4⟩ := reads_at g4 (by intro e; rw [e] at hjn; simp at hjn)
          have e4 := hkc4 j hjn
          rw [HCN.out] at e4
          have q0 : w2.cell? ⟨w.heap.size, 2, none⟩ = some (.slice Avk l.length cvk) := (blk_cell hwl2.box 2).trans rfl
          have fq0 := blk_frozen hwl2.box 2
          have hcu' : cn < u.length := by have := HN.out; omega
          have p0 := (hwl2.wk.arr.at cn (by rw [atl_len]; exact hcu')).1
          rw [atl_get _ hcu'] at p0
          obtain ⟨z, hz⟩ : ∃ z, z = ((dfs u d (cn : Int) sj).1 (cn : Int)).getD (-1) := ⟨_, rfl⟩
          rw [← hz] at p0
          have hm2 := blk_lt hwl2.box
          have hlb : l.length ≤ 1073741824 := by have := HLL.out; omega
          have HZ := Lib.hid hz
          have HWL2 := Lib.hid hwl2
          have HR2 := Lib.hid hwl2.row
          clear hwl2 hBW2 g4 hkc4 hz d3 e0
          go_region_law (((refine Kd.R_append_step (Kd.int .i64) (w0 := w2) (W := w2.drew) (w.heap.size + 1) (by rfl) (.tmp 51) (.tmp 63) 22 3 (.int .i64 0) 8 rfl Tryd.underlying22 info3 rfl (by decide) (by decide) (.slice Avk l.length cvk) l z [.int .i64 z] (fun k => w.heap.size < k) (fun _ => False) (by rfl) (by rfl) rfl (fun _ h => h.elim) (fun k hk => Nat.lt_of_lt_of_le hm2 hk) HR2.out (Below.refl _ _).drew hm2 (by omega) ?_; intro v5 w5 hR5 hB5 hg5 hat5; obtain ⟨A5, c5, rfl⟩ := Kd.R_slice hR5; have hbx5 := (hB5.block w.heap.size (Nat.lt_succ_self _)).trans HWL2.out.box; have q1 := blk_cell hbx5 2; have q2 := blk_frozen hbx5 2)))
          all_goals
            have hk5 := HWL2.out.kid (by omega) (Nat.le_refl _) hR5 ⟨hg5.os, hg5.tape, hg5.output, hg5.size, hg5.block⟩ hat5
            rw [List.length_append, List.length_singleton] at hk5 hR5
            have HK5 := Lib.hid hk5
            clear hR5 hB5 hg5 hat5 hbx5 hk5
            go_wp2
            go_roundw
            case rel =>
              refine ⟨j + 1, v2, .slice A5 (l.length + 1) c5, rfl, by go_num, hjl, ?_⟩
              have hgj : n.f2[j] = (cn : Int) := by
                have := HCN.out
                rw [List.getD_eq_getElem?_getD, List.getElem?_eq_getElem hjn] at this
                exact this
              have hks := kidSt_mp HU.out hiu (by omega) HWK.out.pl (n.f2.take j) (fun c hc => HKIDS.out c (List.mem_of_mem_take hc)) (d := d)
              have hds := dfs_pl HU.out d cn sj (by have := HN.out; omega) (by omega) HWL.out.wk.pl
              have h1 : kidSt u d s (n.f2.take (j + 1)) = dfs u d (cn : Int) sj := by rw [List.take_succ_eq_append_getElem hjn, kidSt_snoc, ← HSJ.out, hgj]
              have h2 : mp (dfs u d (cn : Int) sj).1 (n.f2.take (j + 1)) = l ++ [z] := by
                rw [mp_succ _ _ _ hjn, HCN.out, mp_ext (g := sj.1) (fun c hc a ha => hds.2.1 c a ha) (by rw [HSJ.out]; exact hks.2.2), HL.out, ← HSJ.out, HZ.out]
                obtain ⟨a, ha⟩ := Option.isSome_iff_exists.1 hds.2.2.1
                rw [ha]; rfl
              rw [h1, h2]
              exact HK5.out
            case measure => simp [intOf]; omega
        · have ej : j = M := by omega
          have htk : n.f2.take j = n.f2 := List.take_of_length_le (by have := HM.out; omega)
          have hs1 : sj = kidSt u d s n.f2 := by rw [HSJ.out, htk]
          have hl1 : l = mp sj.1 n.f2 := by rw [HL.out, ← HSJ.out, htk]
          have hfin : fin u (i : Int) (kidSt u d s n.f2) = (upd sj.1 (i : Int) sj.2.length, sj.2 ++ [⟨n.f0, n.f1, l⟩]) := by
            rw [← hs1, hl1]; unfold fin; rw [← HNN.out]
          have hpl : Pl u (upd sj.1 (i : Int) sj.2.length, sj.2 ++ [⟨n.f0, n.f1, l⟩]) := by
            have h1 := (dfs_pl HU.out (d + 1) i s hiu (by omega) HWK.out.pl).1
            have h2 : dfs u (d + 1) (i : Int) s = fin u (i : Int) (kidSt u d s n.f2) := by rw [HNN.out]; simp only [dfs]; rw [HG.out]; rfl
            rw [h2, hfin] at h1
            exact h1
          have HPL := Lib.hid hpl
          have HFIN := Lib.hid hfin
          obtain ⟨Ao, co, rfl⟩ := Kd.R_slice HWL.out.wk.row
          have hol := Pl.len HWL.out.wk.pl
          have p0 := (HWL.out.wk.arr.at i (by rw [atl_len]; exact hiu))
          have p1 := p0.1
          have p2 := p0.2
          have b0 : wr.cell? ⟨w.heap.size, 0, none⟩ = some (.int .i64 n.f0) := (blk_cell HWL.out.box 0).trans rfl
          have b1 : wr.cell? ⟨w.heap.size, 1, none⟩ = some (.int .i64 n.f1) := (blk_cell HWL.out.box 1).trans rfl
          have b2 : wr.cell? ⟨w.heap.size, 2, none⟩ = some (.slice Avk l.length cvk) := (blk_cell HWL.out.box 2).trans rfl
          obtain ⟨K, hK⟩ : ∃ K, K = sj.2.length := ⟨_, rfl⟩
          have HK := Lib.hid hK
          have hKb : K < 4000000000000 := by have := HN.out; omega
          have HOL := Lib.hid hol
          rw [← hK]
          clear hpl hfin hl1 hs1 htk hol p0 hK
          have hbβ : b ≠ w.heap.size := by omega
          have HROW := Lib.hid (show k60.R 60 (wr.setCell ⟨b, i, none⟩ (.int .i64 (K : Int))) B0 ok (.slice Ao K co) sj.2 from by
            have h1 := Kd.R_mono (Kd.R_far (p := ⟨b, i, none⟩) HWL.out.wk.row (fun q hq => HOK.out q hq.1) (.int .i64 (K : Int))) (ok' := ok) (fun q hq => hq.1)
            rw [← HK.out] at h1; exact h1)
          have HMM := Lib.hid (show k60.M (wr.setCell ⟨b, i, none⟩ (.int .i64 (K : Int))) B0 (fun q => w.heap.size < q ∧ some q = (Value.slice Avk l.length cvk).ownBlock) ⟨n.f0, n.f1, l⟩ [.int .i64 n.f0, .int .i64 n.f1, .slice Avk l.length cvk] from
            k60_mkM _ _ _ ⟨n.f0, n.f1, l⟩ (Kd.R_mono (Kd.R_far (p := ⟨b, i, none⟩) (Kd.R_lower (Kd.R_mono (Kd.R_tight rfl HWL.out.row) (ok' := fun q => w.heap.size < q ∧ some q = (Value.slice Avk l.length cvk).ownBlock) (fun q hq => ⟨HWL.out.row.1 q hq.symm, hq⟩)) (by omega)) (fun q hq => by show q ≠ b; have := hq.1; omega) _) (fun q hq => hq)))
          have HOO := Lib.hid (show ∀ q, (w.heap.size < q ∧ some q = (Value.slice Avk l.length cvk).ownBlock) → ok q ∧ some q ≠ (Value.slice Ao K co).ownBlock from fun q hq => ⟨HNEW.out q (by omega), fun e => by
            have := (HWL.out.wk.row.1 q (by rw [← HK.out]; exact e.symm)).2.2
            exact this hq.2⟩)
          have hszs : (wr.setCell ⟨b, i, none⟩ (.int .i64 (K : Int))).heap.size = wr.heap.size := by simp [World.setCell]
          have HSZ := Lib.hid hszs
          clear hszs
          go_wp2_with (at_builtin; refine Hid.out ?_)
          refine Lib.hid ?_
          refine Kd.R_append k60 (w0 := w) (W := wr.setCell ⟨b, i, none⟩ (.int .i64 (K : Int))) B0 rfl (.tmp 71) (.tmp 73) 24 60 (.agg #[(.int .i64 0), (.int .i64 0), (.slice none 0 0)]) 40 rfl Tryd.underlying24 info60 rfl (by decide) (by decide) (.slice Ao K co) sj.2 ⟨n.f0, n.f1, l⟩ [.int .i64 n.f0, .int .i64 n.f1, .slice Avk l.length cvk] ok (fun q => w.heap.size < q ∧ some q = (Value.slice Avk l.length cvk).ownBlock) rfl (by refine (show _ = Value.slice (some ⟨wr.heap.size, 0, none⟩) 1 1 from rfl).trans ?_; rw [HSZ.out]) HMM.out HOO.out (fun q hq => HNEW.out q (by have := HSZ.out; omega)) HROW.out ?_ (by have := HSZ.out; omega) (by have := HK.out; have := HOL.out; have := HN.out; omega) ?_
          · exact (HBW.out).setCell (p := ⟨b, i, none⟩) hb0 _
          intro v5 w5 hR5 hB5 hg5 hat5
          have HF := Lib.hid (HWL.out.done hiu hR5 (by rw [← HK.out]; exact hg5) (hat5.elim (fun h => .inl (by rw [← HK.out]; exact h)) (fun ⟨q, h1, h2⟩ => .inr ⟨q, h1, by have := HSZ.out; omega⟩)) HOK.out HPL.out)
          clear hR5 hB5 hg5 hat5
          go_wp2
          go_ret
          refine ⟨v5, rfl, ?_⟩
          rw [HFIN.out]
          exact HF.out
end Go.Proofs.YtopbjginpmdebaaDoor.K
-- exactpplref19.Order, Canon
namespace Go.Proofs.YtopbjginpmdebaaDoor.K
open Go.RowKit Go.Maps Go.Proofs.YtopbjginpmdebaaDoorW.PrintWords Go.Proofs.YtopbjginpmdebaaDoorW.PrintLast Go.Proofs.YtopbjginpmdebaaDoorW.PrintMore
set_option linter.unusedVariables false
set_option linter.unusedSimpArgs false
/-- how a function ends that returns a diagram -/
def DPost (w : World) (l : List Nd) (e : Ending) (w' : World) : Prop := Below w.heap.size w w' ∧ ∃ vo, e = .returned (.agg #[vo]) ∧ k60.R 60 w' w.heap.size (fun _ => True) vo l
/-- the first j entries are -1 -/
def mns (j n : Nat) : List Int := List.replicate j (-1) ++ List.replicate (n - j) 0
theorem mns_len {j n : Nat} (h : j ≤ n) : (mns j n).length = n := by simp [mns]; omega
theorem mns_set {j n : Nat} (h : j < n) : (mns j n).set j (-1) = mns (j + 1) n := by
  unfold mns
  obtain ⟨m, hm⟩ : ∃ m, n - j = m + 1 := ⟨n - j - 1, by omega⟩
  rw [hm, List.set_append_right _ _ (by simp), List.length_replicate, Nat.sub_self, List.replicate_succ, List.set_cons_zero, show n - (j + 1) = m by omega, List.replicate_succ' (n := j), List.append_assoc]
  rfl
theorem mns_all (n : Nat) : mns n n = atl n (fun _ => none) := by
  unfold mns atl
  simp only [Nat.sub_self, List.replicate_zero, List.append_nil, Option.getD_none]
  apply List.ext_getElem
  · simp
  · intro i h1 h2; simp
set_option maxHeartbeats 16000000 in
set_option maxRecDepth 100000 in
theorem order_calls (u : List Nd) (root : Nat) (Au : Option Addr) (cu : Nat) (w : World) (hC : k60.C w Au u.length u) (hcu : u.length ≤ cu) (hu : Down u) (hr : root < u.length) (hkl : ∀ x ∈ u, x.f2.length ≤ 1073741824) (hul : (u.length + 1) * 40 ≤ 140737488355328) :
    Calls Tryd.prog 73 #[.slice Au u.length cu, .int .i64 (root : Nat)] w (DPost w (expo u (root : Nat))) := by
  have HC := Lib.hid hC
  have HU := Lib.hid hu
  have HKL := Lib.hid hkl
  have HUL := Lib.hid hul
  have HCU := Lib.hid hcu
  obtain ⟨N, hN⟩ : ∃ N, N = u.length := ⟨_, rfl⟩
  have HN := Lib.hid hN
  have hmk := print_make (P := Tryd.prog) 22 3 .i64 8 Tryd.underlying22 info3 (by decide) N (by omega)
  rw [← hN] at hul hcu hr ⊢
  clear hC hu hkl hN
  have hb0 : Below w.heap.size w (w.alloc (.cells #[.slice none 0 0] 31)) := (Below.refl _ w).alloc (Nat.le_refl _) _
  have hbx0 := heap_alloc_new w (.cells #[.slice none 0 0] 31)
  have hs0 : (w.alloc (.cells #[.slice none 0 0] 31)).heap.size = w.heap.size + 1 := by simp
  have harr := Arr.made (w.alloc (.cells #[.slice none 0 0] 31)) N (by omega)
  rw [hs0] at harr
  have hb1 : Below w.heap.size w ((w.alloc (.cells #[.slice none 0 0] 31)).alloc (.cells (madeCells #[.int .i64 0] N) 3)) := hb0.alloc (by rw [hs0]; omega) _
  have hbx1 : ((w.alloc (.cells #[.slice none 0 0] 31)).alloc (.cells (madeCells #[.int .i64 0] N) 3)).heap[w.heap.size]? = some (.cells #[.slice none 0 0] 31 (0, 0)) := (Below.heap_alloc _ _ _ (by rw [hs0]; omega)).trans hbx0
  have H0 := Lib.hid (And.intro hb1 (And.intro hbx1 harr))
  clear hb0 hbx0 hs0 harr hb1 hbx1
  go_enter Tryd.func73, Tryd.ntmps73
  go_wp2
  go_loopw [6] (fun i W => ∃ j : Nat, i = .int .i64 j ∧ j ≤ N ∧ Below w.heap.size w W ∧ W.heap[w.heap.size]? = some (.cells #[.slice none 0 0] 31 (0, 0)) ∧ Arr W (w.heap.size + 1) (mns j N)) (fun i _ => N - (intOf i).toNat)
  case atStart => exact ⟨0, rfl, Nat.zero_le _, H0.out.1, H0.out.2.1, by simpa [mns] using H0.out.2.2⟩
  case round =>
    obtain ⟨j, rfl, hj, hB, hbx, har⟩ := hrel
    have HB := Lib.hid hB
    have HBX := Lib.hid hbx
    have HA := Lib.hid har
    clear hB hbx har
    by_cases hjl : j < N
    · have e0 := HA.out.at j (by rw [mns_len hj]; exact hjl)
      have e1 := e0.1
      have e2 := e0.2
      have hjb : j < 4000000000000 := by omega
      have hji : (j : Int) < (N : Int) := by omega
      clear e0
      go_wp2
      go_roundw
      case rel =>
        refine ⟨j + 1, by go_num, hjl, HB.out.setCell (p := ⟨w.heap.size + 1, j, none⟩) (by show w.heap.size ≤ w.heap.size + 1; omega) _, (Below.heap_setCell _ ⟨w.heap.size + 1, j, none⟩ _ _ (by show w.heap.size ≠ w.heap.size + 1; omega)).trans HBX.out, ?_⟩
        rw [← mns_set hjl]
        exact HA.out.put j (-1)
      case measure => simp [intOf]; omega
    · obtain rfl : j = N := by omega
      have hwk : Wk w.heap.size (w.heap.size + 1) (fun q => q ≠ w.heap.size + 1 ∧ q ≠ w.heap.size) wr u (fun _ => none, []) (.slice none 0 0) := ⟨by rw [← HN.out, ← mns_all]; exact HA.out, Kd.R_nil _ _ _ _ _, pl_nil u⟩
      have hbl := HA.out.lt
      have hA := (walk_calls w.heap.size (w.heap.size + 1) u HU.out Au cu HCU.out HKL.out HUL.out (by omega) (root + 1) root _ (fun q => q ≠ w.heap.size + 1 ∧ q ≠ w.heap.size) (.slice none 0 0) wr (by have := HN.out; omega) (by omega) (by omega) (fun W hW => Kd.C_below HC.out (HB.out.trans hW)) hwk (fun q hq => hq.1) (fun q hq => ⟨by omega, by omega⟩)).mono (R' := fun e w2 => ∃ v', e = .returned v' ∧ Below w.heap.size w w2 ∧ w2.heap[w.heap.size]? = some (.cells #[.slice none 0 0] 31 (0, 0)) ∧ k60.R 60 w2 w.heap.size (fun q => q ≠ w.heap.size + 1 ∧ q ≠ w.heap.size) v' (expo u (root : Nat))) (by
        rintro e w2 ⟨v', rfl, h1, h2, h3⟩
        refine ⟨v', rfl, HB.out.trans (h2.below (by omega) (by omega) (by simp [Value.ownBlock])), (h2.same _ (blk_lt HBX.out) (by omega) (by simp [Value.ownBlock])).trans HBX.out, ?_⟩
        unfold expo
        rw [Int.toNat_natCast]
        exact h1.row)
      rw [← HN.out] at hA
      clear hwk
      go_wp2_with (go_at_call 78; refine hA.mono ?_; clear hA; rintro e w2 ⟨v2, rfl, hb2, hbx2, hR2⟩; obtain ⟨A2, c2, rfl⟩ := Kd.R_slice hR2; have b0 := blk_cell hbx2 0; have f0 := blk_frozen hbx2 0; have HB2 := Lib.hid hb2; have HBX2 := Lib.hid hbx2; have HR2 := Lib.hid hR2; clear hb2 hbx2 hR2)
      have hb3 := blk_set HBX2.out 0 (.slice A2 (expo u (root : Nat)).length c2)
      have q0 := (blk_cell hb3 0).trans rfl
      refine bodyPost_ret (v := .agg #[.slice A2 (expo u (root : Nat)).length c2]) (by simp [results, Tryd.f73, go_sem, q0]) rfl ⟨HB2.out.setCell (p := ⟨w.heap.size, 0, none⟩) (Nat.le_refl _) _, _, rfl, ?_⟩
      exact Kd.R_mono (Kd.R_far (p := ⟨w.heap.size, 0, none⟩) HR2.out (fun q hq => hq.2) _) (fun _ _ => trivial)
theorem expo_len {u : List Nd} (hu : Down u) {r : Nat} (hr : r < u.length) : (expo u (r : Nat)).length ≤ u.length := by
  obtain ⟨g, h, _⟩ := expo_pl hu hr
  exact h.len
set_option maxHeartbeats 16000000 in
set_option maxRecDepth 100000 in
theorem canon_calls (nodes : List Nd) (A : Option Addr) (c : Nat) (w : World) (hC : k60.C w A nodes.length nodes) (hc : nodes.length ≤ c) (hF : Fit nodes) (hfr : ∀ n ∈ nodes, Frm n) (hne : nodes ≠ [])
    (hlen : ∀ x ∈ nodes, x.f2.length ≤ 1073741824) (hroom : (nodes.length + 1) * 40 ≤ 140737488355328) :
    Calls Tryd.prog 68 #[.slice A nodes.length c] w (DPost w (expo (imp [] [] nodes).1 (rtN nodes : Nat))) := by
  have hb0 : Below w.heap.size w (w.alloc (.cells #[.slice none 0 0] 31)) := (Below.refl _ w).alloc (Nat.le_refl _) _
  have hbx0 := heap_alloc_new w (.cells #[.slice none 0 0] 31)
  have hs0 : (w.alloc (.cells #[.slice none 0 0] 31)).heap.size = w.heap.size + 1 := by simp
  have hp := List.length_pos_iff.2 hne
  have htl := imp_tbl hF tbl_nil nodes.length (Nat.le_refl _)
  rw [List.take_length] at htl
  have hl := imp_len nodes [] []
  have hrt : lk (imp [] [] nodes).2 ((nodes.length - 1 : Nat) : Int) = (rtN nodes : Int) ∧ rtN nodes < (imp [] [] nodes).1.length := by
    have h2 := htl.1.at_lt _ (lk_mem (at_ := (imp [] [] nodes).2) (c := ((nodes.length - 1 : Nat) : Int)) (by omega) (by rw [hl]; simp; omega))
    unfold rtN; omega
  have hA := (append_calls (w.heap.size + 1) (fun _ => True) [] nodes none A 0 c (w.alloc (.cells #[.slice none 0 0] 31)) (by omega) (Kd.R_nil _ _ _ _ _) (fun W hW => Kd.C_below hC (hb0.trans ⟨hW.os, hW.tape, hW.output, hW.size, fun j hj => hW.block j (by omega) (by simp [Value.ownBlock])⟩)) hc hF hfr tbl_nil hlen (by simp) (by simp; omega) (fun _ _ => trivial)).mono (R' := fun e w2 => ∃ A2 c2, e = .returned (.tuple #[.slice A2 (imp [] [] nodes).1.length c2, .slice (some ⟨w.heap.size + 1, 0, none⟩) nodes.length nodes.length]) ∧ (imp [] [] nodes).1.length ≤ c2 ∧ k60.C w2 A2 (imp [] [] nodes).1.length (imp [] [] nodes).1 ∧ Below (w.heap.size + 1) (w.alloc (.cells #[.slice none 0 0] 31)) w2 ∧ w2.cell? ⟨w.heap.size + 1, nodes.length - 1, none⟩ = some (.int .i64 (rtN nodes : Nat))) (by
    rintro e w2 ⟨v', rfl, h⟩
    have h1 := h.row
    have h2 := h.arr
    rw [List.take_length] at h1 h2
    rw [hs0] at h2 ⊢
    obtain ⟨A2, c2, rfl, h3, h4⟩ := Kd.R_reads h1
    refine ⟨A2, c2, rfl, h3, h4, ⟨h.grown.os, h.grown.tape, h.grown.output, h.grown.size, fun j hj => h.grown.block j (by omega) (by simp [Value.ownBlock])⟩, ?_⟩
    have h5 := (h2.at (nodes.length - 1) (by rw [padd_len (by rw [hl]; simp)]; omega)).1
    rw [padd_get (by rw [hl]; simp; omega)] at h5
    rw [h5]
    have h6 := hrt.1
    unfold lk at h6
    rw [Int.toNat_natCast] at h6
    rw [h6])
  have hkl : ∀ x ∈ (imp [] [] nodes).1, x.f2.length ≤ 1073741824 := imp_kids nodes [] [] (by simp) hlen
  obtain ⟨U, hU⟩ : ∃ U, U = (imp [] [] nodes).1 := ⟨_, rfl⟩
  rw [← hU] at hA hkl htl hrt ⊢
  have HB0 := Lib.hid hb0
  have HBX0 := Lib.hid hbx0
  have HD := Lib.hid htl.1.down
  have HRT := Lib.hid hrt.2
  have HKL := Lib.hid hkl
  have hUl : U.length ≤ nodes.length := by have := htl.2.1; simpa using this
  obtain ⟨N, hN⟩ : ∃ N, N = nodes.length := ⟨_, rfl⟩
  obtain ⟨R, hR⟩ : ∃ R, R = rtN nodes := ⟨_, rfl⟩
  rw [← hR] at hA HRT ⊢
  rw [← hN] at hA hUl hp hroom hc ⊢
  have hNb : N < 4000000000000 := by omega
  have e1 : (N : Int) - 1 = ((N - 1 : Nat) : Int) := by omega
  have hN1 : N - 1 < N := by omega
  have HS0 := Lib.hid hs0
  clear hb0 hbx0 htl hrt hkl hU hl hC hF hfr hne hlen hN hs0 hR
  go_enter Tryd.func68, Tryd.ntmps68
  go_wp2_with (first
    | (go_at_call 71; refine hA.mono ?_; clear hA; rintro e w2 ⟨A2, c2, rfl, hc2, hC2, hb2, hat2⟩; have hbx2 := (hb2.block w.heap.size (by omega)).trans HBX0.out; have HBX2 := Lib.hid hbx2; have HB2 := Lib.hid (HB0.out.trans (hb2.mono (by omega))); have HC2 := Lib.hid hC2; clear hbx2 hb2 hC2)
    | (go_at_call 73; refine (order_calls U R A2 c2 w2 HC2.out hc2 HD.out HRT.out HKL.out (by omega)).mono ?_; rintro e w3 ⟨hb3, vo, rfl, hR3⟩; obtain ⟨A3, c3, rfl⟩ := Kd.R_slice hR3; have hbx3 := (hb3.block _ (blk_lt HBX2.out)).trans HBX2.out; have b0 := blk_cell hbx3 0; have f0 := blk_frozen hbx3 0; have HBX3 := Lib.hid hbx3; have HB3 := Lib.hid hb3; have HR3 := Lib.hid hR3; clear hbx3 hb3 hR3))
  have hb4 := blk_set HBX3.out 0 (.slice A3 (expo U (R : Nat)).length c3)
  have q0 := (blk_cell hb4 0).trans rfl
  have hsz2 := HB2.out.size
  have hl2 := blk_lt HBX2.out
  refine bodyPost_ret (v := .agg #[.slice A3 (expo U (R : Nat)).length c3]) (by simp [results, Tryd.f68, go_sem, q0]) rfl ⟨(HB2.out.trans (HB3.out.mono hsz2)).setCell (p := ⟨w.heap.size, 0, none⟩) (Nat.le_refl _) _, _, rfl, ?_⟩
  exact Kd.R_lower (Kd.R_mono (Kd.R_far (p := ⟨w.heap.size, 0, none⟩) (Kd.R_bound HR3.out) (fun q hq => by show q ≠ w.heap.size; have := hq.2.1; omega) _) (fun _ _ => trivial)) hsz2
end Go.Proofs.YtopbjginpmdebaaDoor.K
-- the reference's Canon, in the form that the printed texts call it
namespace Go.Proofs.YtopbjginpmdebaaDoor.K
open Go.RowKit Go.Maps Go.Proofs.YtopbjginpmdebaaDoorW.PrintWords Go.Proofs.YtopbjginpmdebaaDoorW.PrintLast Go.Proofs.YtopbjginpmdebaaDoorW.PrintMore
set_option linter.unusedVariables false
set_option linter.unusedSimpArgs false
theorem gr_frm {nodes : List Nd} (h : grB nodes = true) : ∀ n ∈ nodes, Frm n := by
  intro n hn
  obtain ⟨i, hi, rfl⟩ := mem_nth hn
  rcases gr_nd h hi with h1 | h1
  · exact .inl ⟨(lf_iff.1 h1).1, (lf_iff.1 h1).2.1⟩
  · have := (br_iff.1 h1).1
    exact .inr ⟨this.1, this.2.2.1, fun e => by rw [e] at this; simp at this⟩
def exactpplref19_Canon.f (l : List S60) : Option (List S60) := if grB l = true then (if ndOk l = true then some (cn l) else none) else none
theorem exactpplref19_Canon.calls (A : Option Addr) (c : Nat) (l : List S60) (r : List S60) (w : World) (hr : Kd.C k60 w A l.length l) (hc : l.length ≤ c) (h : exactpplref19_Canon.f l = some r) :
    Calls Tryd.prog 68 #[.slice A l.length c] w fun e w' => ∃ v0_ : Value, e = .returned (.agg #[v0_]) ∧ Kd.V k60 60 w' w.heap.size (fun k_ => (w.heap.size ≤ k_)) v0_ r ∧ Below w.heap.size w w' := by
  unfold exactpplref19_Canon.f at h
  by_cases hg : grB l = true
  · rw [if_pos hg] at h
    by_cases hk : ndOk l = true
    · rw [if_pos hk] at h
      obtain rfl := Option.some.inj h
      exact (canon_calls l A c w hr hc (gr_fit hg) (gr_frm hg) (gr_ne hg) (fun x hx => (ndOk_I hk x hx).2.2) (ndOk_room hk)).mono fun e w' ⟨hb, vo, he, hR⟩ => ⟨vo, he, V_of_R hR, hb⟩
    · rw [if_neg hk] at h; cases h
  · rw [if_neg hg] at h; cases h
end Go.Proofs.YtopbjginpmdebaaDoor.K
-- exactpplref19.Join
namespace Go.Proofs.YtopbjginpmdebaaDoor.K
open Go.RowKit Go.Maps Go.Proofs.YtopbjginpmdebaaDoorW.PrintWords Go.Proofs.YtopbjginpmdebaaDoorW.PrintLast Go.Proofs.YtopbjginpmdebaaDoorW.PrintMore
set_option linter.unusedVariables false
set_option linter.unusedSimpArgs false
/-- one diagram more in a table, its root noted -/
def impK (s : List Nd × List Int) (d : S31) : List Nd × List Int := ((imp s.1 [] d.f0).1, s.2 ++ [lk (imp s.1 [] d.f0).2 ((d.f0.length - 1 : Nat) : Int)])
def impKs (ds : List S31) : List Nd × List Int := ds.foldl impK ([], [])
theorem impKs_snoc (ds : List S31) (d : S31) : impKs (ds ++ [d]) = impK (impKs ds) d := by simp [impKs]
def sumL (ds : List S31) : Nat := (ds.map fun d => d.f0.length).sum
theorem sumL_snoc (ds : List S31) (d : S31) : sumL (ds ++ [d]) = sumL ds + d.f0.length := by simp [sumL]
theorem sumL_take_le (ds : List S31) (k : Nat) : sumL (ds.take k) ≤ sumL ds := by
  have : sumL ds = sumL (ds.take k) + sumL (ds.drop k) := by
    conv => lhs; rw [← List.take_append_drop k ds]
    unfold sumL
    rw [List.map_append, List.sum_append]
  omega
theorem impK_tbl {s : List Nd × List Int} (hs : Tbl s.1 s.2) {d : S31} (hf : Fit d.f0) (hne : d.f0 ≠ []) :
    Tbl (impK s d).1 (impK s d).2 ∧ s.1 <+: (impK s d).1 ∧ (impK s d).1.length ≤ s.1.length + d.f0.length := by
  have h := imp_tbl hf (u := s.1) ⟨hs.down, hs.nodup, by simp⟩ d.f0.length (Nat.le_refl _)
  rw [List.take_length] at h
  have hp := List.length_pos_iff.2 hne
  refine ⟨⟨h.1.down, h.1.nodup, fun a ha => ?_⟩, h.2.2, h.2.1⟩
  rcases List.mem_append.1 ha with ha | ha
  · have := hs.at_lt a ha
    have := h.2.2.length_le
    exact ⟨by omega, by show a < ((imp s.1 [] d.f0).1.length : Int); omega⟩
  · rw [List.mem_singleton.1 ha]
    exact h.1.at_lt _ (lk_mem (by omega) (by rw [imp_len]; simp; omega))
theorem impKs_tbl {ds : List S31} (hd : ∀ d ∈ ds, Fit d.f0 ∧ d.f0 ≠ []) : ∀ k, k ≤ ds.length → Tbl (impKs (ds.take k)).1 (impKs (ds.take k)).2 ∧ (impKs (ds.take k)).1.length ≤ sumL (ds.take k) ∧ (impKs (ds.take k)).2.length = k := by
  intro k
  induction k with
  | zero => intro _; simp only [List.take_zero, impKs, List.foldl_nil]; exact ⟨tbl_nil, by simp, rfl⟩
  | succ k ih =>
    intro hk
    obtain ⟨h1, h2, h3⟩ := ih (by omega)
    have hm := hd ds[k] (List.getElem_mem _)
    rw [List.take_succ_eq_append_getElem (by omega), impKs_snoc, sumL_snoc]
    have h4 := impK_tbl h1 hm.1 hm.2
    exact ⟨h4.1, by have := h4.2.2; omega, by simp [impK, h3]⟩
theorem impKs_kids {m : Nat} {ds : List S31} (hd : ∀ d ∈ ds, ∀ x ∈ d.f0, x.f2.length ≤ m) : ∀ k, k ≤ ds.length → ∀ x ∈ (impKs (ds.take k)).1, x.f2.length ≤ m := by
  intro k
  induction k with
  | zero => intro _; simp [impKs]
  | succ k ih =>
    intro hk
    rw [List.take_succ_eq_append_getElem (by omega), impKs_snoc]
    exact imp_kids _ _ _ (ih (by omega)) (hd _ (List.getElem_mem _))
/-- the joined table and its root -/
def jnT (site : Int) (ds : List S31) : List Nd × Int := placeB (impKs ds).1 site (impKs ds).2
/-- between two rounds of Join: the result's cell at block c0, the node at block β -/
structure JnSt (c0 β : Nat) (w W : World) (site : Int) (s : List Nd × List Int) (v vk : Value) : Prop where
  below : Below w.heap.size w W
  row : k60.R 60 W w.heap.size (fun j => j ≠ c0 ∧ j ≠ β ∧ some j ≠ vk.ownBlock) v s.1
  res : W.heap[c0]? = some (.cells #[.slice none 0 0] 31 (0, 0))
  box : W.heap[β]? = some (.cells #[.int .i64 site, .int .i64 0, vk] 60 (0, 0))
  kids : (Kd.int .i64).R 3 W (β + 1) (fun k => β < k) vk s.2
/-- a diagram more is in the table -/
theorem JnSt.app {c0 β : Nat} {w W W2 : World} {site : Int} {s : List Nd × List Int} {v vk v2 : Value} {d : List Nd} {ok : Nat → Prop} (h : JnSt c0 β w W site s v vk) (hc : w.heap.size ≤ c0) (hcβ : c0 < β)
    (a : AppSt W W2 w.heap.size (fun j => j ≠ c0 ∧ j ≠ β ∧ some j ≠ vk.ownBlock) v s.1 d d.length v2) : JnSt c0 β w W2 site ((imp s.1 [] d).1, s.2) v2 vk := by
  have hr := a.row
  rw [List.take_length] at hr
  have hg := a.grown
  have hv : ∀ k, v.ownBlock = some k → w.heap.size ≤ k := Kd.R_base h.row
  refine ⟨h.below.trans ⟨hg.os, hg.tape, hg.output, hg.size, fun j hj => hg.block j (Nat.lt_of_lt_of_le hj h.below.size) (fun e => by have := hv j e.symm; omega)⟩, Kd.R_mono hr (fun j hj => hj.1), ?_, ?_, ?_⟩
  · exact (hg.block _ (blk_lt h.res) (fun e => (h.row.1 _ e.symm).1 rfl)).trans h.res
  · exact (hg.block _ (blk_lt h.box) (fun e => (h.row.1 _ e.symm).2.1 rfl)).trans h.box
  · exact ints_move h.kids (fun q hq => hg.block q (Kd.R_lt h.kids q hq) (fun e => (h.row.1 q e.symm).2.2 hq.symm))
/-- its root is noted -/
theorem JnSt.kid {c0 β : Nat} {w W W5 : World} {site z : Int} {s : List Nd × List Int} {v vk v5 : Value} (h : JnSt c0 β w W site s v vk) (hc : w.heap.size ≤ c0) (hcβ : c0 < β)
    (hR : (Kd.int .i64).R 3 W5 (β + 1) (fun k => β < k) v5 (s.2 ++ [z])) (hg : W.grownBy W5 vk.ownBlock) (hat : v5.ownBlock = vk.ownBlock ∨ ∃ c, v5.ownBlock = some c ∧ W.heap.size ≤ c) :
    JnSt c0 β w (W5.setCell ⟨β, 2, none⟩ v5) site (s.1, s.2 ++ [z]) v v5 := by
  have hkβ : ∀ q, vk.ownBlock = some q → β < q := h.kids.1
  have hbx5 : W5.heap[β]? = some (.cells #[.int .i64 site, .int .i64 0, vk] 60 (0, 0)) := (hg.block β (blk_lt h.box) (fun e => by have := hkβ β e.symm; omega)).trans h.box
  have hrow5 : k60.R 60 W5 w.heap.size (fun j => j ≠ c0 ∧ j ≠ β ∧ some j ≠ v5.ownBlock) v s.1 := by
    refine Kd.R_mono (Kd.R_grown (Kd.R_bound h.row) hg (fun j hj => hj.1.2.2)) (fun j hj => ⟨hj.1.1, hj.1.2.1, fun e => ?_⟩)
    rcases hat with h1 | ⟨c, h1, h2⟩
    · exact hj.1.2.2 (e.trans h1)
    · rw [h1] at e; injection e with e; have := hj.2.2.1; omega
  refine ⟨?_, Kd.R_far (p := ⟨β, 2, none⟩) hrow5 (fun j hj => hj.2.1) _, ?_, blk_set hbx5 2 v5, Kd.R_far (p := ⟨β, 2, none⟩) hR (fun k hk => by show k ≠ β; omega) _⟩
  · exact (h.below.trans ⟨hg.os, hg.tape, hg.output, hg.size, fun j hj => hg.block j (Nat.lt_of_lt_of_le hj h.below.size) (fun e => by have := hkβ j e.symm; omega)⟩).setCell (p := ⟨β, 2, none⟩) (by show w.heap.size ≤ β; omega) _
  · exact (Below.heap_setCell W5 ⟨β, 2, none⟩ v5 c0 (by show c0 ≠ β; omega)).trans ((hg.block c0 (blk_lt h.res) (fun e => by have := hkβ c0 e.symm; omega)).trans h.res)
theorem plR_B {u : List Nd} {site : Int} {ks : List Int} (h : site ≠ -1) : plR u ⟨site, 0, ks⟩ = placeB u site ks := by
  unfold plR placeB
  by_cases hs : sameK ks = true
  · rw [if_pos ⟨h, hs⟩, if_pos hs]
  · rw [if_neg (fun e => hs e.2), if_neg hs]
theorem w64_id' {x : Int} (h : -9223372036854775808 ≤ x) (h2 : x ≤ 9223372036854775807) : wrap64 x = x := by unfold wrap64; omega
set_option maxHeartbeats 32000000 in
set_option maxRecDepth 100000 in
theorem join_calls (site : Int) (ds : List S31) (A : Option Addr) (c : Nat) (w : World) (hC : Kd.C k31 w A ds.length ds) (hc : ds.length ≤ c) (hne : ds ≠ []) (hs : 0 ≤ site) (hg : ∀ d ∈ ds, grB d.f0 = true) (hlen : ds.length ≤ 1000000) (hsum : (sumL ds + 2) * 40 ≤ 140737488355328) :
    Calls Tryd.prog 53 #[.int .i64 site, .slice A ds.length c] w (DPost w (expo (jnT site ds).1 (jnT site ds).2)) := by
  have hpos := List.length_pos_iff.2 hne
  have h0 : JnSt w.heap.size (w.heap.size + 1) w ((w.alloc (.cells #[.slice none 0 0] 31)).alloc (.cells #[.int .i64 site, .int .i64 0, .slice none 0 0] 60)) site ([], []) (.slice none 0 0) (.slice none 0 0) := by
    have e1 : (w.alloc (.cells #[.slice none 0 0] 31)).heap.size = w.heap.size + 1 := by simp
    refine ⟨((Below.refl _ w).alloc (Nat.le_refl _) _).alloc (by rw [e1]; omega) _, Kd.R_nil _ _ _ _ _, (Below.heap_alloc _ _ _ (by rw [e1]; omega)).trans (heap_alloc_new w _), ?_, Kd.R_nil _ _ _ _ _⟩
    have := heap_alloc_new (w.alloc (.cells #[.slice none 0 0] 31)) (.cells #[.int .i64 site, .int .i64 0, .slice none 0 0] 60)
    rwa [e1] at this
  have H0 := Lib.hid h0
  have HC := Lib.hid hC
  have HG := Lib.hid hg
  have HSUM := Lib.hid hsum
  obtain ⟨N, hN⟩ : ∃ N, N = ds.length := ⟨_, rfl⟩
  have HN := Lib.hid hN
  rw [← hN] at hpos hlen hc ⊢
  clear hC hg hsum hN h0 hne
  go_enter Tryd.func53, Tryd.ntmps53
  go_wp2
  go_loopw [5, 7] (fun v i W => ∃ (k : Nat) (vv vk : Value), vv = v ∧ i = .int .i64 k ∧ k ≤ N ∧ JnSt w.heap.size (w.heap.size + 1) w W site (impKs (ds.take k)) vv vk) (fun _ i _ => N - (intOf i).toNat)
  case atStart => exact ⟨0, _, _, rfl, rfl, Nat.zero_le _, by simpa [impKs] using H0.out⟩
  case round =>
    obtain ⟨k, vv, vk, rfl, rfl, hk, hst⟩ := hrel
    obtain ⟨s, hse⟩ : ∃ s, s = impKs (ds.take k) := ⟨_, rfl⟩
    rw [← hse] at hst
    obtain ⟨hT, hTl, hTn⟩ := impKs_tbl (ds := ds) (fun d hd => ⟨gr_fit (HG.out d hd), gr_ne (HG.out d hd)⟩) k (by have := HN.out; omega)
    have hTk := impKs_kids (m := 16) (ds := ds) (fun d hd => gr_kids (HG.out d hd)) k (by have := HN.out; omega)
    rw [← hse] at hT hTl hTn hTk
    have hsl := sumL_take_le ds k
    obtain ⟨Av, cv, rfl⟩ := Kd.R_slice hst.row
    obtain ⟨Ak, ck, rfl⟩ := Kd.R_slice hst.kids
    have HST := Lib.hid hst
    have HSE := Lib.hid hse
    have HT := Lib.hid hT
    have HTL := Lib.hid hTl
    have HTN := Lib.hid hTn
    have HTK := Lib.hid hTk
    have HSL := Lib.hid hsl
    have hβ := blk_lt hst.box
    clear hst hse hT hTl hTn hTk hsl
    by_cases hlt : k < N
    · have hkd : k < ds.length := by have := HN.out; omega
      obtain ⟨ad, A0, c0, rfl, d0, l0, g0⟩ := at_T31 HC.out (k : Int) (by omega) (by omega)
      rw [Int.toNat_natCast] at d0
      have hrd : rd_T31 ds (k : Int) = ds[k] := by unfold rd_T31; rw [Int.toNat_natCast, List.getD_eq_getElem?_getD, List.getElem?_eq_getElem hkd]; rfl
      rw [hrd] at d0 l0 g0
      obtain ⟨d, hd⟩ : ∃ d, d = ds[k] := ⟨_, rfl⟩
      have hdm : d ∈ ds := by rw [hd]; exact List.getElem_mem hkd
      rw [← hd] at d0 l0 g0
      replace d0 := pw_cell_below HST.out.below d0
      have hgd := HG.out d hdm
      have hdl : d.f0.length ≤ sumL ds := by
        have : ds.take (k + 1) = ds.take k ++ [d] := by rw [List.take_succ_eq_append_getElem hkd, ← hd]
        have h1 := sumL_take_le ds (k + 1)
        rw [this, sumL_snoc] at h1
        omega
      have hsuml : sumL (ds.take k) + d.f0.length ≤ sumL ds := by
        have : ds.take (k + 1) = ds.take k ++ [d] := by rw [List.take_succ_eq_append_getElem hkd, ← hd]
        have h1 := sumL_take_le ds (k + 1)
        rwa [this, sumL_snoc] at h1
      have hkb : k < 4000000000000 := by omega
      have hki : (k : Int) < (N : Int) := by omega
      have hwB := HST.out.below.size
      have hvB : ∀ q, (Value.slice Av s.1.length cv).ownBlock = some q → w.heap.size ≤ q := Kd.R_base HST.out.row
      have hA := (append_calls w.heap.size (fun j => j ≠ w.heap.size ∧ j ≠ w.heap.size + 1 ∧ some j ≠ (Value.slice Ak s.2.length ck).ownBlock) s.1 d.f0 Av A0 cv c0 wr hwB HST.out.row (fun W hW => Kd.C_below g0 (HST.out.below.trans ⟨hW.os, hW.tape, hW.output, hW.size, fun j hj => hW.block j (Nat.lt_of_lt_of_le hj hwB) (fun e => by have := hvB j e.symm; omega)⟩)) l0 (gr_fit hgd) (gr_frm hgd) ⟨HT.out.down, HT.out.nodup, by simp⟩ (fun x hx => Nat.le_trans (gr_kids hgd x hx) (by decide)) (fun x hx => Nat.le_trans (HTK.out x hx) (by decide)) (by have := HTL.out; have := HSL.out; have := HSUM.out; omega) (fun j hj => ⟨by omega, by omega, fun e => by have := Kd.R_lt HST.out.kids j e.symm; omega⟩)).mono (R' := fun e w2 => ∃ v', e = .returned (.tuple #[v', .slice (some ⟨wr.heap.size, 0, none⟩) d.f0.length d.f0.length]) ∧ JnSt w.heap.size (w.heap.size + 1) w w2 site ((imp s.1 [] d.f0).1, s.2) v' (.slice Ak s.2.length ck) ∧ w2.cell? ⟨wr.heap.size, d.f0.length - 1, none⟩ = some (.int .i64 (lk (imp s.1 [] d.f0).2 ((d.f0.length - 1 : Nat) : Int)))) (by
        rintro e w2 ⟨v', rfl, h1⟩
        refine ⟨v', rfl, HST.out.app (ok := fun _ => True) (Nat.le_refl _) (by omega) h1, ?_⟩
        have h2 := h1.arr
        rw [List.take_length] at h2
        have hp := gr_pos hgd
        have hl := imp_len d.f0 s.1 []
        have h3 := (h2.at (d.f0.length - 1) (by rw [padd_len (by rw [hl]; simp)]; omega)).1
        rw [padd_get (by rw [hl]; simp; omega)] at h3
        rw [h3]; unfold lk; rw [Int.toNat_natCast])
      obtain ⟨z, hz⟩ : ∃ z, z = lk (imp s.1 [] d.f0).2 ((d.f0.length - 1 : Nat) : Int) := ⟨_, rfl⟩
      obtain ⟨U, hU⟩ : ∃ U, U = (imp s.1 [] d.f0).1 := ⟨_, rfl⟩
      rw [← hz, ← hU] at hA
      have HZ := Lib.hid hz
      have HU := Lib.hid hU
      have HD := Lib.hid hd
      have hp := gr_pos hgd
      obtain ⟨D, hD⟩ : ∃ D, D = d.f0.length := ⟨_, rfl⟩
      rw [← hD] at hA d0 l0 hdl hsuml hp
      obtain ⟨E, rfl⟩ : ∃ E, D = E + 1 := ⟨D - 1, by omega⟩
      rw [Nat.add_sub_cancel] at hA
      have hDb : E < 4000000000000 := by have := HSUM.out; omega
      have hE1 : (E : Int) < (E : Int) + 1 := by omega
      have e3 : IntKind.i64.wrap (E : Int) = (E : Int) := (i64_w _).trans (w64_id' (by omega) (by omega))
      clear hz hU hd hrd g0 hD hgd hdm hvB
      go_wp2_with (go_at_call 71; refine hA.mono ?_; clear hA; rintro e w2 ⟨v2, rfl, hst2, p0⟩; obtain ⟨A2, c2, rfl⟩ := Kd.R_slice hst2.row; have q0 := ((blk_cell hst2.box 2).trans rfl : w2.cell? ⟨w.heap.size + 1, 2, none⟩ = some (.slice Ak s.2.length ck)); have fq0 := blk_frozen hst2.box 2; have hm2 := blk_lt hst2.box; have HST2 := Lib.hid hst2; clear hst2)
      have HR2 := Lib.hid HST2.out.kids
      have hkl : s.2.length ≤ 1000000 := by have := HTN.out; omega
      go_region_law (((refine Kd.R_append_step (Kd.int .i64) (w0 := w2) (W := w2.drew) (w.heap.size + 1 + 1) (by rfl) (.tmp 29) (.tmp 36) 22 3 (.int .i64 0) 8 rfl Tryd.underlying22 info3 rfl (by decide) (by decide) (.slice Ak s.2.length ck) s.2 z [.int .i64 z] (fun k => w.heap.size + 1 < k) (fun _ => False) (by rfl) (by rfl) rfl (fun _ h => h.elim) (fun k hk => Nat.lt_of_lt_of_le hm2 hk) HR2.out (Below.refl _ _).drew hm2 (by omega) ?_; intro v5 w5 hR5 hB5 hg5 hat5; obtain ⟨A5, c5, rfl⟩ := Kd.R_slice hR5; have hbx5 := (hB5.block (w.heap.size + 1) (Nat.lt_succ_self _)).trans HST2.out.box; have q1 := blk_cell hbx5 2; have q2 := blk_frozen hbx5 2)))
      all_goals
        have hk5 := HST2.out.kid (Nat.le_refl _) (by omega) hR5 ⟨hg5.os, hg5.tape, hg5.output, hg5.size, hg5.block⟩ hat5
        rw [List.length_append, List.length_singleton] at hk5 hR5
        have HK5 := Lib.hid hk5
        clear hR5 hB5 hg5 hat5 hbx5 hk5
        go_wp2
        go_roundw
        case rel =>
          refine ⟨k + 1, _, .slice A5 (s.2.length + 1) c5, rfl, by go_num, hlt, ?_⟩
          have e2 : impKs (ds.take (k + 1)) = (U, s.2 ++ [z]) := by
            rw [List.take_succ_eq_append_getElem hkd, impKs_snoc, ← HSE.out, ← HD.out]
            unfold impK
            rw [HU.out, HZ.out]
          rw [e2]
          exact HK5.out
        case measure => simp [intOf]; omega
    · have hke : k = N := by omega
      have htk : ds.take k = ds := List.take_of_length_le (by have := HN.out; omega)
      have hse := HSE.out
      rw [htk] at hse
      have hrn : s.2 ≠ [] := by intro e; have := HTN.out; rw [e] at this; simp at this; omega
      have hpl := plR_B (u := s.1) (site := site) (ks := s.2) (by omega)
      have hjt : jnT site ds = placeB s.1 site s.2 := by unfold jnT; rw [← hse]
      have hlt2 := placeB_lt (u := s.1) (s := site) HT.out.at_lt hrn
      have hdn := placeB_down (u := s.1) (s := site) HT.out.down HT.out.at_lt
      have hpk : ∀ x ∈ (placeB s.1 site s.2).1, x.f2.length ≤ 1073741824 := by
        unfold placeB
        split
        · exact fun x hx => Nat.le_trans (HTK.out x hx) (by decide)
        · exact place0_kids (fun x hx => Nat.le_trans (HTK.out x hx) (by decide)) (by have := HTN.out; show s.2.length ≤ _; omega)
      have hpn := placeB_len s.1 site s.2
      have hsb : s.1.length ≤ sumL ds := Nat.le_trans HTL.out HSL.out
      have hA := (place_calls w.heap.size (fun j => j ≠ w.heap.size ∧ j ≠ w.heap.size + 1) (fun j => w.heap.size + 1 < j ∧ some j = (Value.slice Ak s.2.length ck).ownBlock) s.1 ⟨site, 0, s.2⟩ Av Ak cv ck wr HST.out.below.size (Kd.R_mono HST.out.row (fun j hj => ⟨hj.1, hj.2.1⟩)) (Kd.R_lower (Kd.R_mono (Kd.R_tight rfl HST.out.kids) (fun q hq => ⟨HST.out.kids.1 q hq.symm, hq⟩)) (by omega)) (fun j hj => ⟨⟨by omega, by omega⟩, fun e => (HST.out.row.1 j e.symm).2.2 hj.2⟩) (fun _ => hrn) (by have := HTN.out; show s.2.length ≤ _; omega) (by have := HSUM.out; omega) (fun x hx => Nat.le_trans (HTK.out x hx) (by decide)) (fun j hj => ⟨by omega, by omega⟩)).mono (R' := fun e w2 => ∃ A' c', e = .returned (.tuple #[.slice A' (placeB s.1 site s.2).1.length c', .int .i64 (placeB s.1 site s.2).2]) ∧ (placeB s.1 site s.2).1.length ≤ c' ∧ k60.C w2 A' (placeB s.1 site s.2).1.length (placeB s.1 site s.2).1 ∧ Below w.heap.size w w2 ∧ w2.heap[w.heap.size]? = some (.cells #[.slice none 0 0] 31 (0, 0))) (by
        rintro e w2 ⟨v', rfl, h1, h2, _⟩
        rw [hpl] at h1 ⊢
        obtain ⟨A', c', rfl, h3, h4⟩ := Kd.R_reads h1
        have hvB : ∀ q, (Value.slice Av s.1.length cv).ownBlock = some q → w.heap.size ≤ q := Kd.R_base HST.out.row
        refine ⟨A', c', rfl, h3, h4, HST.out.below.trans ⟨h2.os, h2.tape, h2.output, h2.size, fun j hj => h2.block j (Nat.lt_of_lt_of_le hj HST.out.below.size) (fun e => by have := hvB j e.symm; omega)⟩, ?_⟩
        exact (h2.block _ (blk_lt HST.out.res) (fun e => (HST.out.row.1 _ e.symm).1 rfl)).trans HST.out.res)
      dsimp only at hA
      obtain ⟨U, hU⟩ : ∃ U, U = (placeB s.1 site s.2).1 := ⟨_, rfl⟩
      obtain ⟨R, hR⟩ : ∃ R : Nat, (placeB s.1 site s.2).2 = (R : Int) := ⟨(placeB s.1 site s.2).2.toNat, by omega⟩
      rw [hR] at hA hlt2
      rw [← hU] at hA hlt2 hdn hpk hpn
      have hjt1 : (jnT site ds).1 = U := by rw [hjt, hU]
      have hjt2 : (jnT site ds).2 = (R : Int) := by rw [hjt, hR]
      have HJ1 := Lib.hid hjt1
      have HJ2 := Lib.hid hjt2
      clear hjt1 hjt2
      have b0 : wr.cell? ⟨w.heap.size + 1, 0, none⟩ = some (.int .i64 site) := (blk_cell HST.out.box 0).trans rfl
      have b1 : wr.cell? ⟨w.heap.size + 1, 1, none⟩ = some (.int .i64 0) := (blk_cell HST.out.box 1).trans rfl
      have b2 : wr.cell? ⟨w.heap.size + 1, 2, none⟩ = some (.slice Ak s.2.length ck) := (blk_cell HST.out.box 2).trans rfl
      have HDN := Lib.hid hdn
      have HPK := Lib.hid hpk
      have HLT := Lib.hid hlt2
      have HPN := Lib.hid hpn
      have HSB := Lib.hid hsb
      clear hdn hpk hlt2 hpn hsb hpl hjt hse htk hrn hU hR
      go_wp2_with (first
        | (go_at_call 72; refine hA.mono ?_; clear hA; rintro e w2 ⟨A2, c2, rfl, hc2, hC2, hb2, hr2⟩; have HC2 := Lib.hid hC2; have HB2 := Lib.hid hb2; have HRS := Lib.hid hr2; clear hC2 hb2 hr2)
        | (go_at_call 73; refine (order_calls U R A2 c2 w2 HC2.out hc2 HDN.out (by have := HLT.out; omega) HPK.out (by have := HPN.out; have := HSB.out; have := HSUM.out; omega)).mono ?_; rintro e w3 ⟨hb3, vo, rfl, hR3⟩; obtain ⟨A3, c3, rfl⟩ := Kd.R_slice hR3; have hbx3 := (hb3.block _ (blk_lt HRS.out)).trans HRS.out; have b0 := blk_cell hbx3 0; have f0 := blk_frozen hbx3 0; have HBX3 := Lib.hid hbx3; have HB3 := Lib.hid hb3; have HR3 := Lib.hid hR3; clear hbx3 hb3 hR3))
      have hb4 := blk_set HBX3.out 0 (.slice A3 (expo U (R : Nat)).length c3)
      have q0 := (blk_cell hb4 0).trans rfl
      have hsz2 := HB2.out.size
      have hl2 := blk_lt HRS.out
      refine bodyPost_ret (v := .agg #[.slice A3 (expo U (R : Nat)).length c3]) (by simp [results, Tryd.f53, go_sem, q0]) rfl ⟨(HB2.out.trans (HB3.out.mono hsz2)).setCell (p := ⟨w.heap.size, 0, none⟩) (Nat.le_refl _) _, _, rfl, ?_⟩
      rw [HJ1.out, HJ2.out]
      exact Kd.R_lower (Kd.R_mono (Kd.R_far (p := ⟨w.heap.size, 0, none⟩) (Kd.R_bound HR3.out) (fun q hq => by show q ≠ w.heap.size; have := hq.2.1; omega) _) (fun _ _ => trivial)) hsz2
end Go.Proofs.YtopbjginpmdebaaDoor.K
-- tables of several diagrams: what Join and Branch make is canonical
namespace Go.Proofs.YtopbjginpmdebaaDoor.K
open Go.RowKit Go.Maps Go.Proofs.YtopbjginpmdebaaDoorW.PrintWords Go.Proofs.YtopbjginpmdebaaDoorW.PrintLast Go.Proofs.YtopbjginpmdebaaDoorW.PrintMore
set_option linter.unusedVariables false
set_option linter.unusedSimpArgs false
/-- what holds of all branches' sites -/
def AllF (Q : Int → Prop) (u : List Nd) : Prop := ∀ n ∈ u, 0 ≤ n.f0 → Q n.f0
theorem place0_all {Q : Int → Prop} {u : List Nd} {n : Nd} (h : AllF Q u) (hn : 0 ≤ n.f0 → Q n.f0) : AllF Q (place0 u n).1 := by
  unfold place0
  split
  · exact h
  · intro m hm
    rcases List.mem_append.1 hm with h1 | h1
    · exact h m h1
    · rw [List.mem_singleton.1 h1]; exact hn
theorem placeB_all {Q : Int → Prop} {u : List Nd} {s : Int} {ks : List Int} (h : AllF Q u) (hn : Q s) : AllF Q (placeB u s ks).1 := by
  unfold placeB
  split
  · exact h
  · exact place0_all h (fun _ => hn)
theorem imp_all {Q : Int → Prop} : ∀ (l u : List Nd) (at_ : List Int), AllF Q u → AllF Q l → AllF Q (imp u at_ l).1
  | [], u, at_, h, _ => h
  | n :: l, u, at_, h, hl => by
    simp only [imp]
    refine imp_all l _ _ ?_ (fun m hm => hl m (List.mem_cons_of_mem _ hm))
    unfold place1
    split
    · exact place0_all h (fun h0 => by simp only at h0; omega)
    · rename_i h0
      exact placeB_all h (hl n List.mem_cons_self (by omega))
theorem expo_all {Q : Int → Prop} {u : List Nd} (hu : Down u) {r : Nat} (hr : r < u.length) (h : AllF Q u) : AllF Q (expo u (r : Nat)) := by
  obtain ⟨g, hP, _, _⟩ := expo_pl hu hr
  intro n hn
  obtain ⟨a, ha, rfl⟩ := mem_nth hn
  obtain ⟨i, hi⟩ := hP.all a ha
  obtain ⟨i0, _, i2, _, i4, _⟩ := hP.node i _ hi
  simp only at i4
  rw [i4]
  exact h (nth u i) (nth_mem i0 i2)
/-- a branch more -/
theorem Tb.branch {sh : Int → Nat} {u : List Nd} (h : Tb sh u) {s : Int} {ks : List Int} (hs : 0 ≤ s ∧ s < 64) (hne : ks ≠ []) (hl : ks.length = sh s) (hl2 : ks.length ≤ 16) (hk : ∀ k ∈ ks, 0 ≤ k ∧ k < (u.length : Int)) (ho : ∀ k ∈ ks, (nth u k).f0 < 0 ∨ s < (nth u k).f0) :
    Tb sh (placeB u s ks).1 := by
  have hr := h.red.placeB hs.1 hk hne
  by_cases hq : sameK ks = true
  · have e : placeB u s ks = (u, ks.headD 0) := by unfold placeB; rw [if_pos hq]
    rw [e]; exact h
  · have e : placeB u s ks = K.place0 u ⟨s, 0, ks⟩ := by unfold placeB; rw [if_neg hq]
    rw [e] at hr ⊢
    exact h.place0 hk hr ho (.inr ⟨hs.1, hs.2, hl, hl2⟩)
/-- the node that stands for a branch is a leaf or no higher -/
theorem placeB_top {u : List Nd} {s : Int} {ks : List Int} (hne : ks ≠ []) (ho : ∀ k ∈ ks, (nth u k).f0 < 0 ∨ s < (nth u k).f0) : (nth (placeB u s ks).1 (placeB u s ks).2).f0 < 0 ∨ s ≤ (nth (placeB u s ks).1 (placeB u s ks).2).f0 := by
  by_cases hq : sameK ks = true
  · have e : placeB u s ks = (u, ks.headD 0) := by unfold placeB; rw [if_pos hq]
    rw [e]
    rcases ho _ (sameK_mem hne) with h | h
    · exact .inl h
    · exact .inr (by show s ≤ (nth u (ks.headD 0)).f0; omega)
  · have e : placeB u s ks = K.place0 u ⟨s, 0, ks⟩ := by unfold placeB; rw [if_neg hq]
    rw [e, place0_nth]
    exact .inr (Int.le_refl _)
/-- diagrams of one shape in one table; their roots are leaves or higher than s -/
theorem impKs_tb {sh : Int → Nat} {s : Int} {ds : List S31} (hd : ∀ d ∈ ds, GrS sh d.f0 ∧ d.f0 ≠ [] ∧ AllF (fun x => s < x) d.f0) : ∀ k, k ≤ ds.length → Tb sh (impKs (ds.take k)).1 ∧ (∀ a ∈ (impKs (ds.take k)).2, (0 ≤ a ∧ a < ((impKs (ds.take k)).1.length : Int)) ∧ ((nth (impKs (ds.take k)).1 a).f0 < 0 ∨ s < (nth (impKs (ds.take k)).1 a).f0)) := by
  intro k
  induction k with
  | zero => intro _; simp only [List.take_zero, impKs, List.foldl_nil]; exact ⟨tb_nil sh, by simp⟩
  | succ k ih =>
    intro hk
    obtain ⟨h1, h2⟩ := ih (by omega)
    obtain ⟨g1, g2, g3⟩ := hd ds[k] (List.getElem_mem _)
    rw [List.take_succ_eq_append_getElem (by omega), impKs_snoc]
    generalize impKs (ds.take k) = S at h1 h2 ⊢
    generalize ds[k] = d at g1 g2 g3
    have hp := List.length_pos_iff.2 g2
    have hi := imp_tb h1 g1 d.f0.length (Nat.le_refl _)
    have hb := imp_tbl g1.fit h1.tbl d.f0.length (Nat.le_refl _)
    rw [List.take_length] at hi hb
    refine ⟨hi.1, fun a ha => ?_⟩
    rcases List.mem_append.1 ha with ha | ha
    · obtain ⟨h3, h4⟩ := h2 a ha
      have := hb.2.2.length_le
      refine ⟨⟨h3.1, by show a < ((imp S.1 [] d.f0).1.length : Int); omega⟩, ?_⟩
      show (nth (imp S.1 [] d.f0).1 a).f0 < 0 ∨ s < (nth (imp S.1 [] d.f0).1 a).f0
      rw [nth_prefix hb.2.2 h3.1 h3.2]
      exact h4
    · rw [List.mem_singleton.1 ha]
      refine ⟨hb.1.at_lt _ (lk_mem (by omega) (by rw [imp_len]; simp; omega)), ?_⟩
      rcases hi.2 (d.f0.length - 1) (by omega) with h5 | h5
      · exact .inl h5
      · have hm : nth d.f0 ((d.f0.length - 1 : Nat) : Int) ∈ d.f0 := by rw [nth_lt (by omega)]; exact List.getElem_mem _
        have := g3 _ hm h5.1
        exact .inr (by show s < (nth (imp S.1 [] d.f0).1 _).f0; omega)
theorem impKs_all {Q : Int → Prop} {ds : List S31} (hd : ∀ d ∈ ds, AllF Q d.f0) : ∀ k, k ≤ ds.length → AllF Q (impKs (ds.take k)).1 := by
  intro k
  induction k with
  | zero => intro _; simp [impKs, AllF]
  | succ k ih =>
    intro hk
    rw [List.take_succ_eq_append_getElem (by omega), impKs_snoc]
    exact imp_all _ _ _ (ih (by omega)) (hd _ (List.getElem_mem _))
/-- what Join makes -/
def jn (s : Int) (ds : List S31) : List Nd := expo (jnT s ds).1 (jnT s ds).2
theorem jn_tb {sh : Int → Nat} {s : Int} {ds : List S31} (hd : ∀ d ∈ ds, GrS sh d.f0 ∧ d.f0 ≠ [] ∧ AllF (fun x => s < x) d.f0) (hs : 0 ≤ s ∧ s < 64) (hne : ds ≠ []) (hl : ds.length = sh s) (hl2 : ds.length ≤ 16) :
    Tb sh (jnT s ds).1 ∧ (0 ≤ (jnT s ds).2 ∧ (jnT s ds).2 < ((jnT s ds).1.length : Int)) ∧ (jnT s ds).1.length ≤ sumL ds + 1 := by
  have h := impKs_tb hd ds.length (Nat.le_refl _)
  have hb := impKs_tbl (ds := ds) (fun d hd' => ⟨(hd d hd').1.fit, (hd d hd').2.1⟩) ds.length (Nat.le_refl _)
  rw [List.take_length] at h hb
  have hrn : (impKs ds).2 ≠ [] := by intro e; have := hb.2.2; rw [e] at this; simp at this; exact hne (List.length_eq_zero_iff.1 this.symm)
  unfold jnT
  refine ⟨h.1.branch hs hrn (by rw [hb.2.2]; exact hl) (by rw [hb.2.2]; exact hl2) (fun k hk => (h.2 k hk).1) (fun k hk => (h.2 k hk).2), placeB_lt (fun k hk => (h.2 k hk).1) hrn, ?_⟩
  have := placeB_len (impKs ds).1 s (impKs ds).2
  have := hb.2.1
  omega
theorem jn_ok {sh : Int → Nat} {s : Int} {ds : List S31} (hd : ∀ d ∈ ds, GrS sh d.f0 ∧ d.f0 ≠ [] ∧ AllF (fun x => s < x) d.f0) (hs : 0 ≤ s ∧ s < 64) (hne : ds ≠ []) (hl : ds.length = sh s) (hl2 : ds.length ≤ 16) :
    GrS sh (jn s ds) ∧ grB (jn s ds) = true ∧ Can (jn s ds) ∧ (jn s ds).length ≤ sumL ds + 1 := by
  obtain ⟨h1, h2, h3⟩ := jn_tb hd hs hne hl hl2
  obtain ⟨r, hr⟩ : ∃ r : Nat, (jnT s ds).2 = (r : Int) := ⟨(jnT s ds).2.toNat, by omega⟩
  unfold jn
  rw [hr] at h2 ⊢
  have hr' : r < (jnT s ds).1.length := by omega
  have hc := h1.can hr'
  exact ⟨(h1.expo hr').grs, hc.1, hc.2, Nat.le_trans (expo_len h1.red.down hr') h3⟩
theorem jn_all {Q : Int → Prop} {s : Int} {ds : List S31} (hd : ∀ d ∈ ds, AllF Q d.f0) (hq : Q s) (hdn : Down (jnT s ds).1) (hr : 0 ≤ (jnT s ds).2 ∧ (jnT s ds).2 < ((jnT s ds).1.length : Int)) : AllF Q (jn s ds) := by
  have h := impKs_all hd ds.length (Nat.le_refl _)
  rw [List.take_length] at h
  obtain ⟨r, hr2⟩ : ∃ r : Nat, (jnT s ds).2 = (r : Int) := ⟨(jnT s ds).2.toNat, by omega⟩
  unfold jn
  rw [hr2] at hr ⊢
  exact expo_all hdn (by omega) (placeB_all h hq)
/-- the reference's Join, in the form that the printed texts call it -/
def exactpplref19_Join.f (s : Int) (ds : List S31) : Option (List S60) := if 0 ≤ s ∧ ds ≠ [] ∧ ds.length ≤ 1000000 ∧ (sumL ds + 2) * 40 ≤ 140737488355328 then (if (ds.all fun d => grB d.f0) = true then some (jn s ds) else none) else none
theorem exactpplref19_Join.calls (s : Int) (A : Option Addr) (c : Nat) (ds : List S31) (r : List S60) (w : World) (hr : Kd.C k31 w A ds.length ds) (hc : ds.length ≤ c) (h : exactpplref19_Join.f s ds = some r) :
    Calls Tryd.prog 53 #[.int .i64 s, .slice A ds.length c] w fun e w' => ∃ v0_ : Value, e = .returned (.agg #[v0_]) ∧ Kd.V k60 60 w' w.heap.size (fun k_ => (w.heap.size ≤ k_)) v0_ r ∧ Below w.heap.size w w' := by
  unfold exactpplref19_Join.f at h
  by_cases h1 : 0 ≤ s ∧ ds ≠ [] ∧ ds.length ≤ 1000000 ∧ (sumL ds + 2) * 40 ≤ 140737488355328
  · rw [if_pos h1] at h
    by_cases h2 : (ds.all fun d => grB d.f0) = true
    · rw [if_pos h2] at h
      obtain rfl := Option.some.inj h
      exact (join_calls s ds A c w hr hc h1.2.1 h1.1 (fun d hd => List.all_eq_true.1 h2 d hd) h1.2.2.1 h1.2.2.2).mono fun e w' ⟨hb, vo, he, hR⟩ => ⟨vo, he, V_of_R hR, hb⟩
    · rw [if_neg h2] at h; cases h
  · rw [if_neg h1] at h; cases h
end Go.Proofs.YtopbjginpmdebaaDoor.K
namespace Go.Proofs.YtopbjginpmdebaaDoor.K
open Go.RowKit Go.Proofs.YtopbjginpmdebaaDoorW.PrintWords Go.Proofs.YtopbjginpmdebaaDoorW.PrintLast Go.Proofs.YtopbjginpmdebaaDoorW.PrintMore
attribute [local go_sem] max2_int min2_int max_two min_two max_three min_three max_four min_four   -- for this text's walks alone
set_option linter.unusedVariables false
set_option linter.unusedSimpArgs false

/-! ### exactpplmake_Src_Diagram: function 22 -/
mutual
def exactpplmake_Src_Diagram.j0 : Nat → Int → Int → Bool → List Int → Int → Int → Option ((List (S60)) × Int × Int)
 | 0, _, _, _, _, _, _ => none
 | k + 1, x1, x2, x16, x1000, x1001, x1002 => if x16 = true then ((exactpplmake_Src_Range.f x1000 x1001 x1002 (-2) 3).bind fun bt339 => ((exactpplref19_Const.f bt339.1).bind fun t342 => (some (t342, bt339.2.1, bt339.2.2)))) else ((exactpplmake_Src_N.f x1000 x1001 x1002 4).bind fun bt345 => (if bt345.1 = 0 then ((exactpplmake_Src_Diagram.f k x1000 bt345.2.1 bt345.2.2 (wrap64 (x1 + 1)) x2).bind fun bt348 => (some (bt348.1, bt348.2.1, bt348.2.2))) else (exactpplmake_Src_Diagram.l0 k x1 x2 ([] : List (S31)) 0 x1000 bt345.2.1 bt345.2.2)))
def exactpplmake_Src_Diagram.l0 : Nat → Int → Int → List (S31) → Int → List Int → Int → Int → Option ((List (S60)) × Int × Int)
 | 0, _, _, _, _, _, _, _ => none
 | k + 1, x1, x2, x7, x8, x1000, x1001, x1002 => (exactpplmake_Width.f x1).bind fun t353 => (if x8 < t353 then ((exactpplmake_Src_Diagram.f k x1000 x1001 x1002 (wrap64 (x1 + 1)) x2).bind fun bt354 => (if x7.length < 5864062014805 then (exactpplmake_Src_Diagram.l0 k x1 x2 (x7 ++ [(⟨bt354.1⟩ : S31)]) (wrap64 (x8 + 1)) x1000 bt354.2.1 bt354.2.2) else (none))) else ((exactpplref19_Join.f x1 x7).bind fun t362 => (some (t362, x1001, x1002))))
def exactpplmake_Src_Diagram.f : Nat → List Int → Int → Int → Int → Int → Option ((List (S60)) × Int × Int)
 | 0, _, _, _, _, _ => none
 | k + 1, s0_0, s0_1, s0_2, a1, a2 => if a1 > a2 then (exactpplmake_Src_Diagram.j0 k a1 a2 true s0_0 s0_1 s0_2) else ((exactpplmake_Src_N.f s0_0 s0_1 s0_2 5).bind fun bt336 => (exactpplmake_Src_Diagram.j0 k a1 a2 (bt336.1 == 0) s0_0 bt336.2.1 bt336.2.2))
end
theorem exactpplmake_Src_Diagram.mono_l : ∀ k, (∀ y0 y1 y2 y3 y4, LeO (exactpplmake_Src_Diagram.f k y0 y1 y2 y3 y4) (exactpplmake_Src_Diagram.f (k + 1) y0 y1 y2 y3 y4)) ∧ (∀ y0 y1 y2 y3 y4 y5, LeO (exactpplmake_Src_Diagram.j0 k y0 y1 y2 y3 y4 y5) (exactpplmake_Src_Diagram.j0 (k + 1) y0 y1 y2 y3 y4 y5)) ∧ (∀ y0 y1 y2 y3 y4 y5 y6, LeO (exactpplmake_Src_Diagram.l0 k y0 y1 y2 y3 y4 y5 y6) (exactpplmake_Src_Diagram.l0 (k + 1) y0 y1 y2 y3 y4 y5 y6))
 | 0 => ⟨fun _ _ _ _ _ r h => by simp [exactpplmake_Src_Diagram.f] at h, fun _ _ _ _ _ _ r h => by simp [exactpplmake_Src_Diagram.j0] at h, fun _ _ _ _ _ _ _ r h => by simp [exactpplmake_Src_Diagram.l0] at h⟩
 | k + 1 => by
  obtain ⟨ih0, ih1, ih2⟩ := exactpplmake_Src_Diagram.mono_l k
  refine ⟨?_, ?_, ?_⟩
  ·intro y0 y1 y2 y3 y4
   unfold exactpplmake_Src_Diagram.f
   repeat' first
   | (with_reducible exact ih0 _ _ _ _ _)
   | (with_reducible exact ih1 _ _ _ _ _ _)
   | (with_reducible exact ih2 _ _ _ _ _ _ _)
   | (with_reducible exact LeO.refl _)
   | (with_reducible exact LeO.none _)
   | (with_reducible refine LeO.ite ?_ ?_)
   | (with_reducible refine LeO.bind ?_ (fun _ => ?_))
   | exact ih0 _ _ _ _ _
   | exact ih1 _ _ _ _ _ _
   | exact ih2 _ _ _ _ _ _ _
   | exact LeO.none _
   | refine LeO.ite ?_ ?_
   | refine LeO.bind ?_ (fun _ => ?_)
  ·intro y0 y1 y2 y3 y4 y5
   unfold exactpplmake_Src_Diagram.j0
   repeat' first
   | (with_reducible exact ih0 _ _ _ _ _)
   | (with_reducible exact ih1 _ _ _ _ _ _)
   | (with_reducible exact ih2 _ _ _ _ _ _ _)
   | (with_reducible exact LeO.refl _)
   | (with_reducible exact LeO.none _)
   | (with_reducible refine LeO.ite ?_ ?_)
   | (with_reducible refine LeO.bind ?_ (fun _ => ?_))
   | exact ih0 _ _ _ _ _
   | exact ih1 _ _ _ _ _ _
   | exact ih2 _ _ _ _ _ _ _
   | exact LeO.none _
   | refine LeO.ite ?_ ?_
   | refine LeO.bind ?_ (fun _ => ?_)
  ·intro y0 y1 y2 y3 y4 y5 y6
   unfold exactpplmake_Src_Diagram.l0
   repeat' first
   | (with_reducible exact ih0 _ _ _ _ _)
   | (with_reducible exact ih1 _ _ _ _ _ _)
   | (with_reducible exact ih2 _ _ _ _ _ _ _)
   | (with_reducible exact LeO.refl _)
   | (with_reducible exact LeO.none _)
   | (with_reducible refine LeO.ite ?_ ?_)
   | (with_reducible refine LeO.bind ?_ (fun _ => ?_))
   | exact ih0 _ _ _ _ _
   | exact ih1 _ _ _ _ _ _
   | exact ih2 _ _ _ _ _ _ _
   | exact LeO.none _
   | refine LeO.ite ?_ ?_
   | refine LeO.bind ?_ (fun _ => ?_)
theorem exactpplmake_Src_Diagram.mono : ∀ a0 a1 a2 a3 a4 k, LeO (exactpplmake_Src_Diagram.f k a0 a1 a2 a3 a4) (exactpplmake_Src_Diagram.f (k + 1) a0 a1 a2 a3 a4) := by
 intro a0 a1 a2 a3 a4 k
 obtain ⟨ih0, ih1, ih2⟩ := exactpplmake_Src_Diagram.mono_l k
 exact ih0 a0 a1 a2 a3 a4
set_option maxHeartbeats 8000000 in
set_option maxRecDepth 100000 in
theorem exactpplmake_Src_Diagram.calls (k : Nat) : ∀ (g : Nat) (s0_0 : List Int) (s0_1 : Int) (s0_2 : Int) (a1 : Int) (a2 : Int) (r1 : List (S60)) (r2 : Int) (r3 : Int) (w0 w : World) (hI : IsS58 w0 w g s0_0 s0_1 s0_2) (hB : Below w0.heap.size w0 w) (h : exactpplmake_Src_Diagram.f k s0_0 s0_1 s0_2 a1 a2 = some (r1, r2, r3)),
  Calls Tryd.prog 22 #[.pointer (some ⟨g, 0, none⟩), .int .i64 a1, .int .i64 a2] w fun e w' => ∃ v0_ : Value, e = .returned (.agg #[v0_]) ∧ Kd.V k60 60 w' w.heap.size (fun k_ => (w.heap.size ≤ k_)) v0_ r1 ∧ IsS58 w0 w' g s0_0 r2 r3 ∧ Below w0.heap.size w0 w' ∧ KeepBut w w' g none := by
 induction k using Nat.strongRecOn with
 | _ k ih =>
 intro g s0_0 s0_1 s0_2 a1 a2 r1 r2 r3 w0 w hI hB h
 cases k with
 | zero => exact absurd h (by simp [exactpplmake_Src_Diagram.f])
 | succ k =>
 simp only [exactpplmake_Src_Diagram.f] at h
 have hu31 := Tryd.underlying31
 have HI0 := Aside0.mk hI
 have HK := Aside0.mk (KeepBut.refl w g none)
 have HL := Aside0.mk hB.size
 clear hI
 have HW0 := Aside0.mk hB.size
 have HB := Aside0.mk hB
 clear hB
 have H : (if a1 > a2 then (exactpplmake_Src_Diagram.j0 k a1 a2 true s0_0 s0_1 s0_2) else ((exactpplmake_Src_N.f s0_0 s0_1 s0_2 5).bind fun bt336 => (exactpplmake_Src_Diagram.j0 k a1 a2 (bt336.1 == 0) s0_0 bt336.2.1 bt336.2.2))) = some (r1, r2, r3) := h
 clear h
 have HC4 := Aside0.mk H
 clear H
 go_enter Tryd.func22, Tryd.ntmps22
 go_upto_region 1 with (first | ((with_reducible refine gate_dst (N := 6) rfl ?_); refine box_event ?hg (N := 6) ?hd (cs := #[.slice none 0 0]) (t := 31) ?hr ?_; (case hd => rfl); (case hg => rfl); (case hr => first | (go_simp; done) | (go_simp; rfl)); intro gb335 hg w5 hbox hb; have BK335 := Aside0.mk (hbox); have GW335 := Aside0.mk ((by rw [hg]; exact (keep_size (w := w) (g := g) (row := none) (by repeat (first | (with_reducible first | exact HK.out | apply KeepBut.set_ | apply keep_drewN | apply keep_drew | apply keep_alloc) | exact HK.out))) : w.heap.size ≤ gb335)); have GE335 := Aside0.mk ((Nat.le_trans HW0.out (by rw [hg]; exact (keep_size (w := w) (g := g) (row := none) (by repeat (first | (with_reducible first | exact HK.out | apply KeepBut.set_ | apply keep_drewN | apply keep_drew | apply keep_alloc) | exact HK.out))) : w.heap.size ≤ gb335) : w0.heap.size ≤ gb335)); have NB0_335 := Aside0.mk ((by rw [hg]; exact Nat.ne_of_lt (IsS58.lt (show IsS58 w0 _ g s0_0 s0_1 s0_2 from si_)) : g ≠ gb335)); have NB335_0 := Aside0.mk ((by rw [hg]; exact Nat.ne_of_gt (IsS58.lt (show IsS58 w0 _ g s0_0 s0_1 s0_2 from si_)) : gb335 ≠ g)); replace HI0 := Aside0.mk (IsS58.below si_ hb); replace HK := Aside0.mk (KeepBut.trans (by repeat (first | (with_reducible first | exact HK.out | apply KeepBut.set_ | apply keep_drewN | apply keep_drew | apply keep_alloc) | exact HK.out)) (KeepBut.of_below hb g none) (.inl rfl)); replace HB := Aside0.mk (below_step bl_ hb); clear hb hbox hg))
 (try simp only [Act.put, List.setIfInBounds_toArray, List.set_cons_zero, List.set_cons_succ])
 go_cut [16] (fun v16 wc => ∃ (kq : Nat) (x16_3 : Bool) (x1001_3 : Int) (x1002_3 : Int), v16 = .bool x16_3 ∧ Aside0 (exactpplmake_Src_Diagram.j0 kq a1 a2 x16_3 s0_0 x1001_3 x1002_3 = some (r1, r2, r3)) ∧ Aside0 (kq ≤ k) ∧ Aside0 (wc.heap[gb335]? = some (.cells #[(.slice none 0 0)] 31 (0, 0))) ∧ Aside0 (IsS58 w0 wc g s0_0 x1001_3 x1002_3) ∧ Aside0 (KeepBut w wc g none) ∧ Aside0 (Below w0.heap.size w0 wc))
 case first =>
  have H := HC4.out
  clear HC4
  by_cases c6 : a1 > a2
  ·rw [if_pos c6] at H
   have c6b0 : decide (a2 < a1) = true := decide_eq_true c6
   clear c6
   (first | rw [c6b0] | (simp only [i64_w, i32_w]; rw [c6b0]) | skip)
   have H' := Aside0.mk H
   clear H
   go_wp2
   go_meet
   case rel => exact ⟨_, (true), (s0_1), (s0_2), rs_, H', ⟨by first | omega | exact Nat.le_refl _⟩, ⟨bk_⟩, ⟨si_⟩, ⟨by repeat (first | (with_reducible first | exact HK.out | apply KeepBut.set_ | apply keep_drewN | apply keep_drew | apply keep_alloc | refine keep_far ?_ GW335.out _) | exact HK.out)⟩, ⟨bl_⟩⟩
  ·rw [if_neg c6] at H
   have c6b0 : decide (a2 < a1) = false := decide_eq_false c6
   clear c6
   (first | rw [c6b0] | (simp only [i64_w, i32_w]; rw [c6b0]) | skip)
   replace H := Option.bind_eq_some_iff.mp H
   obtain ⟨⟨t336, t337, t338⟩, A70, H⟩ := H
   replace H : (exactpplmake_Src_Diagram.j0 k a1 a2 (t336 == 0) s0_0 t337 t338) = some (r1, r2, r3) := H
   have A7 := Aside0.mk A70
   clear A70
   have H' := Aside0.mk H
   clear H
   go_wp2_with (first | (go_at_call 23; (with_reducible refine (exactpplmake_Src_N.calls g s0_0 s0_1 s0_2 5 t336 t337 t338 w0 _ ?side1 ?side2 A7.out).mono ?_); (case side1 => repeat (first | (with_reducible first | exact HI0.out | apply IsS58.alloc | apply IsS58.drewN | apply IsS58.drew | apply IsS58.set_1 | apply IsS58.set_2 | refine IsS58.far ?_ NB0_335.out _) | exact HI0.out)); (case side2 => repeat (first | (with_reducible first | exact HB.out | apply below_alloc | apply pw_below_drewN | apply below_drew1 | refine below_set ?_ (IsS58.ge HI0.out) | refine below_set ?_ GE335.out) | exact HB.out)); rintro e w8 ⟨rfl, hi, hb, hk⟩; replace BK335 := Aside0.mk (KeepBut.blk hk (g' := gb335) (o := .cells #[.slice none 0 0] 31 (0, 0)) bk_ NB335_0.out (by simp)); replace HK := Aside0.mk (KeepBut.trans (by repeat (first | (with_reducible first | exact HK.out | apply KeepBut.set_ | apply keep_drewN | apply keep_drew | apply keep_alloc | refine keep_far ?_ GW335.out _) | exact HK.out)) hk (.inl rfl)); replace HB := Aside0.mk (hb); replace HI0 := Aside0.mk (hi); (try clear hb); (try clear hb2); (try clear hk); (try clear hi)))
   go_meet
   case rel => exact ⟨_, ((t336 == 0)), (t337), (t338), rs_, H', ⟨by first | omega | exact Nat.le_refl _⟩, ⟨bk_⟩, ⟨si_⟩, ⟨by repeat (first | (with_reducible first | exact HK.out | apply KeepBut.set_ | apply keep_drewN | apply keep_drew | apply keep_alloc | refine keep_far ?_ GW335.out _) | exact HK.out)⟩, ⟨bl_⟩⟩
 case rest =>
  clear HC4
  try clear c2
  try clear p2
  try clear c6
  try clear c6b0
  obtain ⟨kq, x16_3, x1001_3, x1002_3, rfl, HA, HJ3, BK335, HI0, HK, HB⟩ := hcut
  cases kq with
  | zero => exact absurd HA.out (by simp [exactpplmake_Src_Diagram.j0])
  | succ kj3 =>
   have H := HA.out
   clear HA
   simp only [exactpplmake_Src_Diagram.j0] at H
   by_cases c9 : x16_3 = true
   ·subst c9
    have H1 : ((exactpplmake_Src_Range.f s0_0 x1001_3 x1002_3 (-2) 3).bind fun bt339 => ((exactpplref19_Const.f bt339.1).bind fun t342 => (some (t342, bt339.2.1, bt339.2.2)))) = some (r1, r2, r3) := by rw [if_pos rfl] at H; exact H
    clear H
    have H := H1
    clear H1
    replace H := Option.bind_eq_some_iff.mp H
    obtain ⟨⟨t339, t340, t341⟩, A100, H⟩ := H
    replace H : ((exactpplref19_Const.f t339).bind fun t342 => (some (t342, t340, t341))) = some (r1, r2, r3) := H
    have A10 := Aside0.mk A100
    clear A100
    replace H := Option.bind_eq_some_iff.mp H
    obtain ⟨t342, A110, H⟩ := H
    replace H : (some (t342, t340, t341)) = some (r1, r2, r3) := H
    have A11 := Aside0.mk A110
    clear A110
    simp only [Option.some.injEq, Prod.mk.injEq] at H
    obtain ⟨rfl, rfl, rfl⟩ := H
    go_wp2_with (first | ((with_reducible refine gate_callee (f := 25) rfl ?_); refine goesL_ (some 18) rfl rfl Tryd.func25 (by kernel_rfl) rfl #[.pointer (some ⟨g, 0, none⟩), .int .i64 (-2), .int .i64 3] rfl (by (try simp only [List.map_toArray, List.map_cons, List.map_nil]); first | done | rfl | (simp only [List.length_drop, List.length_take]; rfl)) ?_; (with_reducible refine (exactpplmake_Src_Range.calls g s0_0 x1001_3 x1002_3 (-2) 3 t339 t340 t341 w0 _ ?side1 ?side2 A10.out).mono ?_); (case side1 => repeat (first | (with_reducible first | exact HI0.out | apply IsS58.alloc | apply IsS58.drewN | apply IsS58.drew | apply IsS58.set_1 | apply IsS58.set_2 | refine IsS58.far ?_ NB0_335.out _) | exact HI0.out)); (case side2 => repeat (first | (with_reducible first | exact HB.out | apply below_alloc | apply pw_below_drewN | apply below_drew1 | refine below_set ?_ (IsS58.ge HI0.out) | refine below_set ?_ GE335.out) | exact HB.out)); rintro e w12 ⟨rfl, hi, hb, hk⟩; refine ⟨_, rfl, ?_⟩; replace BK335 := Aside0.mk (KeepBut.blk hk (g' := gb335) (o := .cells #[.slice none 0 0] 31 (0, 0)) bk_ NB335_0.out (by simp)); replace HK := Aside0.mk (KeepBut.trans (by repeat (first | (with_reducible first | exact HK.out | apply KeepBut.set_ | apply keep_drewN | apply keep_drew | apply keep_alloc | refine keep_far ?_ GW335.out _) | exact HK.out)) hk (.inl rfl)); replace HB := Aside0.mk (hb); replace HI0 := Aside0.mk (hi); (try clear hb); (try clear hb2); (try clear hk); (try clear hi)) | ((with_reducible refine gate_callee (f := 33) rfl ?_); refine goesL_ (some 19) rfl rfl Tryd.func33 (by kernel_rfl) rfl #[.int .i64 t339] rfl (by (try simp only [List.map_toArray, List.map_cons, List.map_nil]); first | done | rfl | (simp only [List.length_drop, List.length_take]; rfl)) ?_; (with_reducible refine (exactpplref19_Const.calls t339 t342 _ A11.out).mono ?_); rintro e w13 ⟨v343, rfl, ho0, hb⟩; refine ⟨_, rfl, ?_⟩; have HO344 := Aside0.mk (Kd.N_lower (Kd.N_mono (ok' := fun k_ => (w.heap.size ≤ k_) ∧ k_ ≠ gb335 ∧ k_ ≠ g) (Kd.S_N (Kd.S_bound ho0)) (fun k_ hk_ => ⟨(Nat.le_trans (keep_size (w := w) (g := g) (row := none) (by repeat (first | (with_reducible first | exact HK.out | apply KeepBut.set_ | apply keep_drewN | apply keep_drew | apply keep_alloc | refine keep_far ?_ GW335.out _) | exact HK.out))) hk_.2.1), (Kd.freshB (g := gb335) (o := .cells #[.slice none 0 0] 31 (0, 0)) bk_ k_ hk_.2.1), (IsS58.fresh si_ k_ hk_.2.1)⟩)) (keep_size (w := w) (g := g) (row := none) (by repeat (first | (with_reducible first | exact HK.out | apply KeepBut.set_ | apply keep_drewN | apply keep_drew | apply keep_alloc | refine keep_far ?_ GW335.out _) | exact HK.out)))); replace BK335 := Aside0.mk (blk_below (g := gb335) (o := .cells #[.slice none 0 0] 31 (0, 0)) bk_ hb); replace HI0 := Aside0.mk (IsS58.below si_ hb); replace HK := Aside0.mk (KeepBut.trans (by repeat (first | (with_reducible first | exact HK.out | apply KeepBut.set_ | apply keep_drewN | apply keep_drew | apply keep_alloc | refine keep_far ?_ GW335.out _) | exact HK.out)) (KeepBut.of_below hb g none) (.inl rfl)); replace HB := Aside0.mk (below_step bl_ hb); (try clear hb); (try clear hb2); (try clear hk); (try clear hi); (try clear ho0); obtain ⟨Ao14, co14, eo14⟩ := Kd.N_slice HO344.out; subst eo14; have hnb15 := NB335_0.out; have hnc15 := NB0_335.out; obtain ⟨hcz16_0, hfz16_0⟩ := cf1_ BK335.out))
    refine bodyPost_ret (results_cell_row rfl _ _ gb335 31 #[.slice Ao14 t342.length co14] (0, 0) _ rfl (by (with_reducible repeat (first | refine blk_drewN ?_ _ | refine blk_drew ?_ | refine blk_alloc ?_ _)); refine blk_put (cs := #[.slice none 0 0]) ?_ 0 _ rfl; (with_reducible repeat (first | refine blk_drewN ?_ _ | refine blk_drew ?_ | refine blk_alloc ?_ _)); exact BK335.out) Tryd.underlying31 rfl (by kernel_rfl)) rfl ?_
    exact ⟨_, re_, Kd.N_V (by (with_reducible repeat (first | apply Kd.N_alloc | apply Kd.N_drewN | apply Kd.N_drew)); exact Kd.N_mono (Kd.N_far (p := ⟨gb335, 0, none⟩) (Kd.N_mono HO344.out (fun k_ hk => (⟨hk, by first | exact hk.2.1 | exact hk.1 | exact hk.2 | exact hk.1.1 | exact hk.1.2⟩ : _ ∧ k_ ≠ gb335))) (fun _ hk => hk.2) (.slice Ao14 t342.length co14)) (fun _ hk => hk.1.1)), si_, bl_, by repeat (first | (with_reducible first | exact HK.out | apply KeepBut.set_ | apply keep_drewN | apply keep_drew | apply keep_alloc | refine keep_far ?_ GW335.out _) | exact HK.out)⟩
   ·replace c9 := Bool.eq_false_iff.mpr c9
    subst c9
    have H1 : ((exactpplmake_Src_N.f s0_0 x1001_3 x1002_3 4).bind fun bt345 => (if bt345.1 = 0 then ((exactpplmake_Src_Diagram.f kj3 s0_0 bt345.2.1 bt345.2.2 (wrap64 (a1 + 1)) a2).bind fun bt348 => (some (bt348.1, bt348.2.1, bt348.2.2))) else (exactpplmake_Src_Diagram.l0 kj3 a1 a2 ([] : List (S31)) 0 s0_0 bt345.2.1 bt345.2.2))) = some (r1, r2, r3) := by rw [if_neg (show ¬ (false = true) by decide)] at H; exact H
    clear H
    have H := H1
    clear H1
    replace H := Option.bind_eq_some_iff.mp H
    obtain ⟨⟨t345, t346, t347⟩, A170, H⟩ := H
    replace H : (if t345 = 0 then ((exactpplmake_Src_Diagram.f kj3 s0_0 t346 t347 (wrap64 (a1 + 1)) a2).bind fun bt348 => (some (bt348.1, bt348.2.1, bt348.2.2))) else (exactpplmake_Src_Diagram.l0 kj3 a1 a2 ([] : List (S31)) 0 s0_0 t346 t347)) = some (r1, r2, r3) := H
    have A17 := Aside0.mk A170
    clear A170
    by_cases c18 : t345 = 0
    ·rw [if_pos c18] at H
     have c18b0 : (t345 == 0) = true := beq_iff_eq.mpr c18
     have c18b1 : (t345 != 0) = false := bne_eq_false_iff_eq.mpr c18
     clear c18
     replace H := Option.bind_eq_some_iff.mp H
     obtain ⟨⟨t348, t351, t352⟩, A190, H⟩ := H
     replace H : (some (t348, t351, t352)) = some (r1, r2, r3) := H
     have A19 := Aside0.mk A190
     clear A190
     simp only [Option.some.injEq, Prod.mk.injEq] at H
     obtain ⟨rfl, rfl, rfl⟩ := H
     go_wp2_with (first | ((with_reducible refine gate_callee (f := 23) rfl ?_); refine goesL_ (some 21) rfl rfl Tryd.func23 (by kernel_rfl) rfl #[.pointer (some ⟨g, 0, none⟩), .int .i64 4] rfl (by (try simp only [List.map_toArray, List.map_cons, List.map_nil]); first | done | rfl | (simp only [List.length_drop, List.length_take]; rfl)) ?_; (with_reducible refine (exactpplmake_Src_N.calls g s0_0 x1001_3 x1002_3 4 t345 t346 t347 w0 _ ?side1 ?side2 A17.out).mono ?_); (case side1 => repeat (first | (with_reducible first | exact HI0.out | apply IsS58.alloc | apply IsS58.drewN | apply IsS58.drew | apply IsS58.set_1 | apply IsS58.set_2 | refine IsS58.far ?_ NB0_335.out _) | exact HI0.out)); (case side2 => repeat (first | (with_reducible first | exact HB.out | apply below_alloc | apply pw_below_drewN | apply below_drew1 | refine below_set ?_ (IsS58.ge HI0.out) | refine below_set ?_ GE335.out) | exact HB.out)); rintro e w20 ⟨rfl, hi, hb, hk⟩; refine ⟨_, rfl, ?_⟩; replace BK335 := Aside0.mk (KeepBut.blk hk (g' := gb335) (o := .cells #[.slice none 0 0] 31 (0, 0)) bk_ NB335_0.out (by simp)); replace HK := Aside0.mk (KeepBut.trans (by repeat (first | (with_reducible first | exact HK.out | apply KeepBut.set_ | apply keep_drewN | apply keep_drew | apply keep_alloc | refine keep_far ?_ GW335.out _) | exact HK.out)) hk (.inl rfl)); replace HB := Aside0.mk (hb); replace HI0 := Aside0.mk (hi); (try clear hb); (try clear hb2); (try clear hk); (try clear hi)) | ((with_reducible refine gate_callee (f := 22) rfl ?_); refine goesL_ (some 27) rfl rfl Tryd.func22 (by kernel_rfl) rfl #[.pointer (some ⟨g, 0, none⟩), .int .i64 (wrap64 (a1 + 1)), .int .i64 a2] rfl (by (try simp only [List.map_toArray, List.map_cons, List.map_nil]); first | done | rfl | (simp only [List.length_drop, List.length_take]; rfl)) ?_; (with_reducible refine (ih kj3 (by have := HJ3.out; omega) g s0_0 t346 t347 (wrap64 (a1 + 1)) a2 t348 t351 t352 w0 _ ?side1 ?side2 A19.out).mono ?_); (case side1 => repeat (first | (with_reducible first | exact HI0.out | apply IsS58.alloc | apply IsS58.drewN | apply IsS58.drew | apply IsS58.set_1 | apply IsS58.set_2 | refine IsS58.far ?_ NB0_335.out _) | exact HI0.out)); (case side2 => repeat (first | (with_reducible first | exact HB.out | apply below_alloc | apply pw_below_drewN | apply below_drew1 | refine below_set ?_ (IsS58.ge HI0.out) | refine below_set ?_ GE335.out) | exact HB.out)); rintro e w21 ⟨v349, rfl, ho0, hi, hb, hk⟩; refine ⟨_, rfl, ?_⟩; have HO350 := Aside0.mk (Kd.V_lower (Kd.V_mono (ok' := fun k_ => (w.heap.size ≤ k_) ∧ k_ ≠ gb335 ∧ k_ ≠ g) ho0 (fun k_ hk_ => ⟨(Nat.le_trans (keep_size (w := w) (g := g) (row := none) (by repeat (first | (with_reducible first | exact HK.out | apply KeepBut.set_ | apply keep_drewN | apply keep_drew | apply keep_alloc | refine keep_far ?_ GW335.out _) | exact HK.out))) hk_), (Kd.freshB (g := gb335) (o := .cells #[.slice none 0 0] 31 (0, 0)) bk_ k_ hk_), (IsS58.fresh si_ k_ hk_)⟩)) (keep_size (w := w) (g := g) (row := none) (by repeat (first | (with_reducible first | exact HK.out | apply KeepBut.set_ | apply keep_drewN | apply keep_drew | apply keep_alloc | refine keep_far ?_ GW335.out _) | exact HK.out)))); replace BK335 := Aside0.mk (KeepBut.blk hk (g' := gb335) (o := .cells #[.slice none 0 0] 31 (0, 0)) bk_ NB335_0.out (by simp)); replace HK := Aside0.mk (KeepBut.trans (by repeat (first | (with_reducible first | exact HK.out | apply KeepBut.set_ | apply keep_drewN | apply keep_drew | apply keep_alloc | refine keep_far ?_ GW335.out _) | exact HK.out)) hk (.inl rfl)); replace HB := Aside0.mk (hb); replace HI0 := Aside0.mk (hi); (try clear hb); (try clear hb2); (try clear hk); (try clear hi); (try clear ho0); obtain ⟨Ao22, co22, eo22⟩ := Kd.V_slice HO350.out; subst eo22; have hnb23 := NB335_0.out; have hnc23 := NB0_335.out; obtain ⟨hcz24_0, hfz24_0⟩ := cf1_ BK335.out))
     refine bodyPost_ret (results_cell_row rfl _ _ gb335 31 #[.slice Ao22 t348.length co22] (0, 0) _ rfl (by (with_reducible repeat (first | refine blk_drewN ?_ _ | refine blk_drew ?_ | refine blk_alloc ?_ _)); refine blk_put (cs := #[.slice none 0 0]) ?_ 0 _ rfl; (with_reducible repeat (first | refine blk_drewN ?_ _ | refine blk_drew ?_ | refine blk_alloc ?_ _)); exact BK335.out) Tryd.underlying31 rfl (by kernel_rfl)) rfl ?_
     exact ⟨_, re_, by (with_reducible repeat (first | apply Kd.V_alloc | apply Kd.V_drewN | apply Kd.V_drew)); exact Kd.V_mono (Kd.V_far (p := ⟨gb335, 0, none⟩) (Kd.V_mono HO350.out (fun k_ hk => (⟨hk, by first | exact hk.2.1 | exact hk.1 | exact hk.2 | exact hk.1.1 | exact hk.1.2⟩ : _ ∧ k_ ≠ gb335))) (fun _ hk => hk.2) (.slice Ao22 t348.length co22)) (fun _ hk => hk.1.1), si_, bl_, by repeat (first | (with_reducible first | exact HK.out | apply KeepBut.set_ | apply keep_drewN | apply keep_drew | apply keep_alloc | refine keep_far ?_ GW335.out _) | exact HK.out)⟩
    ·rw [if_neg c18] at H
     have c18b0 : (t345 == 0) = false := beq_eq_false_iff_ne.mpr c18
     have c18b1 : (t345 != 0) = true := bne_iff_ne.mpr c18
     have H' := Aside0.mk H
     clear H
     go_wp2_with (first | ((with_reducible refine gate_callee (f := 23) rfl ?_); refine goesL_ (some 21) rfl rfl Tryd.func23 (by kernel_rfl) rfl #[.pointer (some ⟨g, 0, none⟩), .int .i64 4] rfl (by (try simp only [List.map_toArray, List.map_cons, List.map_nil]); first | done | rfl | (simp only [List.length_drop, List.length_take]; rfl)) ?_; (with_reducible refine (exactpplmake_Src_N.calls g s0_0 x1001_3 x1002_3 4 t345 t346 t347 w0 _ ?side1 ?side2 A17.out).mono ?_); (case side1 => repeat (first | (with_reducible first | exact HI0.out | apply IsS58.alloc | apply IsS58.drewN | apply IsS58.drew | apply IsS58.set_1 | apply IsS58.set_2 | refine IsS58.far ?_ NB0_335.out _) | exact HI0.out)); (case side2 => repeat (first | (with_reducible first | exact HB.out | apply below_alloc | apply pw_below_drewN | apply below_drew1 | refine below_set ?_ (IsS58.ge HI0.out) | refine below_set ?_ GE335.out) | exact HB.out)); rintro e w25 ⟨rfl, hi, hb, hk⟩; refine ⟨_, rfl, ?_⟩; replace BK335 := Aside0.mk (KeepBut.blk hk (g' := gb335) (o := .cells #[.slice none 0 0] 31 (0, 0)) bk_ NB335_0.out (by simp)); replace HK := Aside0.mk (KeepBut.trans (by repeat (first | (with_reducible first | exact HK.out | apply KeepBut.set_ | apply keep_drewN | apply keep_drew | apply keep_alloc | refine keep_far ?_ GW335.out _) | exact HK.out)) hk (.inl rfl)); replace HB := Aside0.mk (hb); replace HI0 := Aside0.mk (hi); (try clear hb); (try clear hb2); (try clear hk); (try clear hi)))
     go_loopg [7, 8] kj3 (fun kq v7 v8 w' => ∃ (x7_2 : List (S31)) (x8_2 : Int) (x1001_2 : Int) (x1002_2 : Int), v8 = .int .i64 x8_2 ∧ Aside0 (exactpplmake_Src_Diagram.l0 kq a1 a2 x7_2 x8_2 s0_0 x1001_2 x1002_2 = some (r1, r2, r3)) ∧ Aside0 (kq ≤ kj3) ∧ Aside0 (Kd.N k31 31 w' w.heap.size (fun k_ => (w.heap.size ≤ k_) ∧ k_ ≠ gb335 ∧ k_ ≠ g) v7 x7_2) ∧ Aside0 (w'.heap[gb335]? = some (.cells #[(.slice none 0 0)] 31 (0, 0))) ∧ Aside0 (IsS58 w0 w' g s0_0 x1001_2 x1002_2) ∧ Aside0 (KeepBut w w' g none) ∧ Aside0 (Below w0.heap.size w0 w'))
     case atStart => exact ⟨(([] : List (S31))), (0), (t346), (t347), rs_, H', ⟨Nat.le_refl _⟩, ⟨by first | exact Kd.R_nil _ _ _ _ _ | exact Kd.N_nil _ _ _ _ _ | exact Kd.V_nil _ _ _ _ _ | exact Kd.Q_nil _ _ _ _ _ | exact Kd.S_nil _ _ _ _ _⟩, ⟨bk_⟩, ⟨si_⟩, ⟨by repeat (first | (with_reducible first | exact HK.out | apply KeepBut.set_ | apply keep_drewN | apply keep_drew | apply keep_alloc | refine keep_far ?_ GW335.out _) | exact HK.out)⟩, ⟨bl_⟩⟩
     case round =>
      clear H'
      try clear c1
      try clear c2
      try clear p2
      try clear c3
      try clear c6
      try clear c6b0
      try clear p6
      try clear c9
      try clear c15
      try clear c18
      try clear c18b0
      try clear c18b1
      try clear c22
      try clear c23
      try clear c25
      try clear hcz16_0 hfz16_0
      try clear hcz24_0 hfz24_0
      try clear p2
      obtain ⟨x7_2, x8_2, x1001_2, x1002_2, rfl, HA, HK2, HO_7, BK335, HI0, HK, HB⟩ := hrel
      cases gk with
      | zero => exact absurd HA.out (by simp [exactpplmake_Src_Diagram.l0])
      | succ k2 =>
       have H := HA.out
       clear HA
       simp only [exactpplmake_Src_Diagram.l0] at H
       replace H := Option.bind_eq_some_iff.mp H
       obtain ⟨t353, A260, H⟩ := H
       replace H : (if x8_2 < t353 then ((exactpplmake_Src_Diagram.f k2 s0_0 x1001_2 x1002_2 (wrap64 (a1 + 1)) a2).bind fun bt354 => (if x7_2.length < 5864062014805 then (exactpplmake_Src_Diagram.l0 k2 a1 a2 (x7_2 ++ [(⟨bt354.1⟩ : S31)]) (wrap64 (x8_2 + 1)) s0_0 bt354.2.1 bt354.2.2) else (none))) else ((exactpplref19_Join.f a1 x7_2).bind fun t362 => (some (t362, x1001_2, x1002_2)))) = some (r1, r2, r3) := H
       have A26 := Aside0.mk A260
       clear A260
       by_cases c27 : x8_2 < t353
       ·rw [if_pos c27] at H
        have c27b0 : decide (x8_2 < t353) = true := decide_eq_true c27
        clear c27
        replace H := Option.bind_eq_some_iff.mp H
        obtain ⟨⟨t354, t357, t358⟩, A280, H⟩ := H
        replace H : (if x7_2.length < 5864062014805 then (exactpplmake_Src_Diagram.l0 k2 a1 a2 (x7_2 ++ [(⟨t354⟩ : S31)]) (wrap64 (x8_2 + 1)) s0_0 t357 t358) else (none)) = some (r1, r2, r3) := H
        have A28 := Aside0.mk A280
        clear A280
        by_cases c29 : x7_2.length < 5864062014805
        ·rw [if_pos c29] at H
         have LMc29 := Aside0.mk c29
         clear c29
         obtain ⟨y359, hy359⟩ : ∃ y_ : List (S31), y_ = (x7_2 ++ [(⟨t354⟩ : S31)]) := ⟨_, rfl⟩
         replace H : (exactpplmake_Src_Diagram.l0 k2 a1 a2 y359 (wrap64 (x8_2 + 1)) s0_0 t357 t358) = some (r1, r2, r3) := by first | (rw [hy359]; with_reducible exact H) | (have H2_ := (Option.bind_some _ _).symm.trans H; rw [hy359]; with_reducible exact H2_) | (have H2_ := (Option.bind_some _ _).symm.trans H; with_reducible exact H2_) | with_reducible exact H | (rw [hy359]; exact H) | exact H
         have Ny359 := Aside0.mk hy359
         clear hy359
         have H' := Aside0.mk H
         clear H
         go_wp2_with (first | ((with_reducible refine gate_callee (f := 42) rfl ?_); refine goesL_ (some 30) rfl rfl Tryd.func42 (by kernel_rfl) rfl #[.int .i64 a1] rfl (by (try simp only [List.map_toArray, List.map_cons, List.map_nil]); first | done | rfl | (simp only [List.length_drop, List.length_take]; rfl)) ?_; (with_reducible refine (exactpplmake_Width.calls a1 t353 _ A26.out).mono ?_); rintro e w' ⟨rfl, ⟨nd, rfl⟩⟩; refine ⟨_, rfl, ?_⟩) | ((with_reducible refine gate_callee (f := 22) rfl ?_); refine goesL_ (some 39) rfl rfl Tryd.func22 (by kernel_rfl) rfl #[.pointer (some ⟨g, 0, none⟩), .int .i64 (wrap64 (a1 + 1)), .int .i64 a2] rfl (by (try simp only [List.map_toArray, List.map_cons, List.map_nil]); first | done | rfl | (simp only [List.length_drop, List.length_take]; rfl)) ?_; (with_reducible refine (ih k2 (by have := HJ3.out; have := HK2.out; omega) g s0_0 x1001_2 x1002_2 (wrap64 (a1 + 1)) a2 t354 t357 t358 w0 _ ?side1 ?side2 A28.out).mono ?_); (case side1 => repeat (first | (with_reducible first | exact HI0.out | apply IsS58.alloc | apply IsS58.drewN | apply IsS58.drew | apply IsS58.set_1 | apply IsS58.set_2 | refine IsS58.far ?_ NB0_335.out _) | exact HI0.out)); (case side2 => repeat (first | (with_reducible first | exact HB.out | apply below_alloc | apply pw_below_drewN | apply below_drew1 | refine below_set ?_ (IsS58.ge HI0.out) | refine below_set ?_ GE335.out) | exact HB.out)); rintro e w30 ⟨v355, rfl, ho0, hi, hb, hk⟩; refine ⟨_, rfl, ?_⟩; have HO356 := Aside0.mk (Kd.V_lower (Kd.V_mono (ok' := fun k_ => (w.heap.size ≤ k_) ∧ some k_ ≠ (u7 : Value).ownBlock ∧ k_ ≠ gb335 ∧ k_ ≠ g) ho0 (fun k_ hk_ => ⟨(Nat.le_trans (keep_size (w := w) (g := g) (row := none) (by repeat (first | (with_reducible first | exact HK.out | apply KeepBut.set_ | apply keep_drewN | apply keep_drew | apply keep_alloc | refine keep_far ?_ GW335.out _) | exact HK.out))) hk_), (Kd.fresh' (Kd.N_lt (pN_ HO_7.out)) k_ hk_), (Kd.freshB (g := gb335) (o := .cells #[.slice none 0 0] 31 (0, 0)) bk_ k_ hk_), (IsS58.fresh si_ k_ hk_)⟩)) (keep_size (w := w) (g := g) (row := none) (by repeat (first | (with_reducible first | exact HK.out | apply KeepBut.set_ | apply keep_drewN | apply keep_drew | apply keep_alloc | refine keep_far ?_ GW335.out _) | exact HK.out)))); replace HO_7 := Aside0.mk (Kd.N_mono (Kd.N_keep (Kd.N_mono (ok := fun k_ => (((w.heap.size ≤ k_)) ∧ (k_ ≠ gb335 ∧ k_ ≠ g))) (pN_ HO_7.out) (fun k_ hk_ => (⟨hk_, hk_.2.2⟩ : _ ∧ k_ ≠ g))) hk (fun _ h => h.2)) (fun _ h => h.1)); replace BK335 := Aside0.mk (KeepBut.blk hk (g' := gb335) (o := .cells #[.slice none 0 0] 31 (0, 0)) bk_ NB335_0.out (by simp)); replace HK := Aside0.mk (KeepBut.trans (by repeat (first | (with_reducible first | exact HK.out | apply KeepBut.set_ | apply keep_drewN | apply keep_drew | apply keep_alloc | refine keep_far ?_ GW335.out _) | exact HK.out)) hk (.inl rfl)); replace HB := Aside0.mk (hb); replace HI0 := Aside0.mk (hi); (try clear hb); (try clear hb2); (try clear hk); (try clear hi); (try clear ho0); obtain ⟨Ao32, co32, eo32⟩ := Kd.V_slice HO356.out; subst eo32) | ((with_reducible refine gate_builtin (b := .append) (xs := #[.tmp 34, .tmp 40]) rfl ?_); at_builtin; refine Kd.N_append k31 w.heap.size rfl (.tmp 34) (.tmp 40) 48 31 (.agg #[(.slice none 0 0)]) 24 rfl Tryd.underlying48 info31 rfl (by decide) (by omega) u7 x7_2 (⟨t354⟩ : S31) [.slice Ao32 t354.length co32] (fun k_ => (w.heap.size ≤ k_) ∧ k_ ≠ gb335 ∧ k_ ≠ g) (fun k_ => ((fun k_ => (w.heap.size ≤ k_) ∧ k_ ≠ gb335 ∧ k_ ≠ g)) k_ ∧ some k_ ≠ (u7 : Value).ownBlock) rfl rfl ?aP (fun _ hk => hk) ?aF ?aO (Below.refl _ _) ?aS ?aL ?_; (case aP => exact (k31_mkF _ _ (⟨t354⟩ : S31) (Kd.V_reads' (Kd.V_mono (ok' := (fun k_ => ((fun k_ => (w.heap.size ≤ k_) ∧ k_ ≠ gb335 ∧ k_ ≠ g)) k_ ∧ some k_ ≠ (u7 : Value).ownBlock)) (HO356.out) (fun k_ hk => ⟨⟨hk.1, ⟨hk.2.2.1, hk.2.2.2⟩⟩, hk.2.1⟩))).2.1 (Kd.V_F (Kd.V_mono (ok' := (fun k_ => ((fun k_ => (w.heap.size ≤ k_) ∧ k_ ≠ gb335 ∧ k_ ≠ g)) k_ ∧ some k_ ≠ (u7 : Value).ownBlock)) (HO356.out) (fun k_ hk => ⟨⟨hk.1, ⟨hk.2.2.1, hk.2.2.2⟩⟩, hk.2.1⟩))))); (case aF => exact (fun k_ hk => ⟨(Nat.le_trans (keep_size (w := w) (g := g) (row := none) (by repeat (first | (with_reducible first | exact HK.out | apply KeepBut.set_ | apply keep_drewN | apply keep_drew | apply keep_alloc | refine keep_far ?_ GW335.out _) | exact HK.out))) hk), Kd.freshB (g := gb335) (o := .cells #[.slice none 0 0] 31 (0, 0)) bk_ k_ hk, IsS58.fresh si_ k_ hk⟩)); (case aO => exact (pN_ HO_7.out)); (case aS => exact (keep_size (w := w) (g := g) (row := none) (by repeat (first | (with_reducible first | exact HK.out | apply KeepBut.set_ | apply keep_drewN | apply keep_drew | apply keep_alloc | refine keep_far ?_ GW335.out _) | exact HK.out)))); (case aL => have := LMc29.out; omega); intro v360 w31 ho hb hg hat; rw [← Ny359.out] at ho; have HO361 := Aside0.mk (ho); replace BK335 := Aside0.mk (blk_grown (g := gb335) (o := .cells #[.slice none 0 0] 31 (0, 0)) bk_ hg (Kd.N_away HO_7.out (fun _ hk => hk.2.1))); replace HI0 := Aside0.mk (IsS58.grown si_ hg (IsS58.own_neN HI0.out HO_7.out (by decide))); replace HO356 := Aside0.mk (Kd.V_afterv (ok := (fun k_ => (w.heap.size ≤ k_) ∧ k_ ≠ gb335 ∧ k_ ≠ g)) (by (with_reducible repeat (first | apply Kd.V_alloc | apply Kd.V_drewN | apply Kd.V_drew)); exact Kd.V_mono HO356.out (fun _ hk => ⟨⟨hk.1, ⟨hk.2.2.1, hk.2.2.2⟩⟩, hk.2.1⟩)) hg hat); replace HB := Aside0.mk (below_weaken bl_ HL.out hb); replace HK := Aside0.mk (KeepBut.trans (by repeat (first | (with_reducible first | exact HK.out | apply KeepBut.set_ | apply keep_drewN | apply keep_drew | apply keep_alloc | refine keep_far ?_ GW335.out _) | exact HK.out)) (KeepBut.of_grown hg g) (Kd.N_base2 HO_7.out)); clear HO_7; clear ho hb hg hat))
         go_roundg k2
         case measure => have := HJ3.out; have := HK2.out; omega
         case rel => exact ⟨(y359), (wrap64 (x8_2 + 1)), (t357), (t358), rs_, H', ⟨by have := HJ3.out; have := HK2.out; omega⟩, ⟨pN_ HO361.out⟩, ⟨bk_⟩, ⟨si_⟩, ⟨by repeat (first | (with_reducible first | exact HK.out | apply KeepBut.set_ | apply keep_drewN | apply keep_drew | apply keep_alloc | refine keep_far ?_ GW335.out _) | exact HK.out)⟩, ⟨bl_⟩⟩
        ·rw [if_neg c29] at H
         exact absurd H (by simp)
       ·rw [if_neg c27] at H
        have c27b0 : decide (x8_2 < t353) = false := decide_eq_false c27
        clear c27
        replace H := Option.bind_eq_some_iff.mp H
        obtain ⟨t362, A330, H⟩ := H
        replace H : (some (t362, x1001_2, x1002_2)) = some (r1, r2, r3) := H
        have A33 := Aside0.mk A330
        clear A330
        simp only [Option.some.injEq, Prod.mk.injEq] at H
        obtain ⟨rfl, rfl, rfl⟩ := H
        go_wp2_with (first | ((with_reducible refine gate_callee (f := 42) rfl ?_); refine goesL_ (some 30) rfl rfl Tryd.func42 (by kernel_rfl) rfl #[.int .i64 a1] rfl (by (try simp only [List.map_toArray, List.map_cons, List.map_nil]); first | done | rfl | (simp only [List.length_drop, List.length_take]; rfl)) ?_; (with_reducible refine (exactpplmake_Width.calls a1 t353 _ A26.out).mono ?_); rintro e w' ⟨rfl, ⟨nd, rfl⟩⟩; refine ⟨_, rfl, ?_⟩; (try (rw [drewN_self wr]; generalize hq_ : World.drewN wr _ = wr; replace HO_7 : Aside0 (Kd.N k31 31 wr w.heap.size (fun k_ => (w.heap.size ≤ k_) ∧ k_ ≠ g ∧ k_ ≠ gb335) u7 x7_2) := ⟨by rw [← hq_]; exact (by (with_reducible repeat (first | apply Kd.N_alloc | apply Kd.N_drewN | apply Kd.N_drew)); exact Kd.N_mono HO_7.out (fun _ hk => ⟨hk.1, ⟨hk.2.2, hk.2.1⟩⟩))⟩; replace BK335 : Aside0 (wr.heap[gb335]? = some (.cells #[.slice none 0 0] 31 (0, 0))) := ⟨by rw [← hq_]; exact bk_⟩; replace HI0 : Aside0 (IsS58 w0 wr g s0_0 x1001_2 x1002_2) := ⟨by rw [← hq_]; exact si_⟩; replace HK : Aside0 (KeepBut w wr g none) := ⟨by rw [← hq_]; exact (by repeat (first | (with_reducible first | exact HK.out | apply KeepBut.set_ | apply keep_drewN | apply keep_drew | apply keep_alloc | refine keep_far ?_ GW335.out _) | exact HK.out))⟩; replace HB : Aside0 (Below w0.heap.size w0 wr) := ⟨by rw [← hq_]; exact bl_⟩; clear hq_)); obtain ⟨Ao34, co34, eo34⟩ := Kd.N_slice HO_7.out; subst eo34) | ((with_reducible refine gate_callee (f := 53) rfl ?_); refine goesL_ (some 44) rfl rfl Tryd.func53 (by kernel_rfl) rfl #[.int .i64 a1, .slice Ao34 x7_2.length co34] rfl (by (try simp only [List.map_toArray, List.map_cons, List.map_nil]); first | done | rfl | (simp only [List.length_drop, List.length_take]; rfl)) ?_; (with_reducible refine (exactpplref19_Join.calls a1 _ _ x7_2 t362 _ ?side1 ?side2 A33.out).mono ?_); (case side1 => repeat (first | exact (Kd.N_reads' HO_7.out).2.2 | (with_reducible refine Kd.C_alloc ?_ _) | (with_reducible refine Kd.C_drewN ?_ _) | (with_reducible refine Kd.C_drew ?_))); (case side2 => exact (Kd.N_reads' HO_7.out).2.1); rintro e w35 ⟨v363, rfl, ho0, hb⟩; refine ⟨_, rfl, ?_⟩; have HO364 := Aside0.mk (Kd.V_lower (Kd.V_mono (ok' := fun k_ => (w.heap.size ≤ k_) ∧ some k_ ≠ (.slice Ao34 x7_2.length co34 : Value).ownBlock ∧ k_ ≠ gb335 ∧ k_ ≠ g) ho0 (fun k_ hk_ => ⟨(Nat.le_trans (keep_size (w := w) (g := g) (row := none) (by repeat (first | (with_reducible first | exact HK.out | apply KeepBut.set_ | apply keep_drewN | apply keep_drew | apply keep_alloc | refine keep_far ?_ GW335.out _) | exact HK.out))) hk_), (Kd.fresh' (Kd.N_lt (pN_ HO_7.out)) k_ hk_), (Kd.freshB (g := gb335) (o := .cells #[.slice none 0 0] 31 (0, 0)) bk_ k_ hk_), (IsS58.fresh si_ k_ hk_)⟩)) (keep_size (w := w) (g := g) (row := none) (by repeat (first | (with_reducible first | exact HK.out | apply KeepBut.set_ | apply keep_drewN | apply keep_drew | apply keep_alloc | refine keep_far ?_ GW335.out _) | exact HK.out)))); replace HO_7 := Aside0.mk (Kd.N_below (pN_ HO_7.out) hb); replace BK335 := Aside0.mk (blk_below (g := gb335) (o := .cells #[.slice none 0 0] 31 (0, 0)) bk_ hb); replace HI0 := Aside0.mk (IsS58.below si_ hb); replace HK := Aside0.mk (KeepBut.trans (by repeat (first | (with_reducible first | exact HK.out | apply KeepBut.set_ | apply keep_drewN | apply keep_drew | apply keep_alloc | refine keep_far ?_ GW335.out _) | exact HK.out)) (KeepBut.of_below hb g none) (.inl rfl)); replace HB := Aside0.mk (below_step bl_ hb); (try clear hb); (try clear hb2); (try clear hk); (try clear hi); (try clear ho0); obtain ⟨Ao36, co36, eo36⟩ := Kd.V_slice HO364.out; subst eo36; have hnb37 := NB335_0.out; have hnc37 := NB0_335.out; obtain ⟨hcz38_0, hfz38_0⟩ := cf1_ BK335.out))
        refine bodyPost_ret (results_cell_row rfl _ _ gb335 31 #[.slice Ao36 t362.length co36] (0, 0) _ rfl (by (with_reducible repeat (first | refine blk_drewN ?_ _ | refine blk_drew ?_ | refine blk_alloc ?_ _)); refine blk_put (cs := #[.slice none 0 0]) ?_ 0 _ rfl; (with_reducible repeat (first | refine blk_drewN ?_ _ | refine blk_drew ?_ | refine blk_alloc ?_ _)); exact BK335.out) Tryd.underlying31 rfl (by kernel_rfl)) rfl ?_
        exact ⟨_, re_, by (with_reducible repeat (first | apply Kd.V_alloc | apply Kd.V_drewN | apply Kd.V_drew)); exact Kd.V_mono (Kd.V_far (p := ⟨gb335, 0, none⟩) (Kd.V_mono HO364.out (fun k_ hk => (⟨hk, by first | exact hk.2.2.1 | exact hk.1 | exact hk.2 | exact hk.1.1 | exact hk.1.2⟩ : _ ∧ k_ ≠ gb335))) (fun _ hk => hk.2) (.slice Ao36 t362.length co36)) (fun _ hk => hk.1.1), si_, bl_, by repeat (first | (with_reducible first | exact HK.out | apply KeepBut.set_ | apply keep_drewN | apply keep_drew | apply keep_alloc | refine keep_far ?_ GW335.out _) | exact HK.out)⟩

end Go.Proofs.YtopbjginpmdebaaDoor.K
namespace Go.Proofs.YtopbjginpmdebaaDoor.K
open Go.RowKit Go.Proofs.YtopbjginpmdebaaDoorW.PrintWords Go.Proofs.YtopbjginpmdebaaDoorW.PrintLast Go.Proofs.YtopbjginpmdebaaDoorW.PrintMore
attribute [local go_sem] max2_int min2_int max_two min_two max_three min_three max_four min_four   -- for this text's walks alone
set_option linter.unusedVariables false
set_option linter.unusedSimpArgs false

/-! ### exactpplref19_Fit: function 62 -/
def exactpplref19_Fit.f (l0_0 : List (S60)) : Option ((List (S60)) × Int) := if (l0_0.length : Int) > 20000 then (some (([] : List (S60)), 9)) else (some (l0_0, 0))
set_option maxHeartbeats 8000000 in
set_option maxRecDepth 100000 in
theorem exactpplref19_Fit.calls (P0_0_ : Nat → Prop) (A0_0 : Option Addr) (c0_0 : Nat) (l0_0 : List (S60)) (r1 : List (S60)) (r2 : Int) (w : World) (hs0_0 : Kd.V k60 60 w w.heap.size (fun k_ => P0_0_ k_) (.slice A0_0 l0_0.length c0_0) l0_0) (h : exactpplref19_Fit.f l0_0 = some (r1, r2)) :
    Calls Tryd.prog 62 #[.agg #[.slice A0_0 l0_0.length c0_0]] w fun e w' => ∃ v0_ : Value, e = .returned (.tuple #[.agg #[v0_], .int .i64 r2]) ∧ Kd.V k60 60 w' w.heap.size (fun k_ => (P0_0_ k_ ∨ w.heap.size ≤ k_)) v0_ r1 ∧ Below w.heap.size w w' := by
  have hu31 := Tryd.underlying31
  have HO0_0 := Aside0.mk (show Kd.V k60 60 w w.heap.size (fun k_ => (P0_0_ k_ ∨ w.heap.size ≤ k_)) (.slice A0_0 l0_0.length c0_0) l0_0 from Kd.V_mono hs0_0 (fun k_ hk => .inl hk))
  have HB := Aside0.mk (Below.refl w.heap.size w)
  have H : (if (l0_0.length : Int) > 20000 then (some (([] : List (S60)), 9)) else (some (l0_0, 0))) = some (r1, r2) := h
  clear h
  by_cases c2 : (l0_0.length : Int) > 20000
  · rw [if_pos c2] at H
    have c2b0 : decide (20000 < (l0_0.length : Int)) = true := decide_eq_true c2
    have c2b1 : decide (20000 < l0_0.length) = true := decide_eq_true (by omega)
    clear c2
    simp only [Option.some.injEq, Prod.mk.injEq] at H
    obtain ⟨rfl, rfl⟩ := H
    go_enter Tryd.func62, Tryd.ntmps62
    go_wp2_with (first | ((with_reducible refine gate_dst (N := 1) rfl ?_); refine box_event ?hg (N := 1) ?hd (cs := #[.slice A0_0 l0_0.length c0_0]) (t := 31) ?hr ?_; (case hd => rfl); (case hg => rfl); (case hr => first | (go_simp; done) | (go_simp; rfl)); intro gb142 hg w3 hbox hb; have n0_ := Aside0.mk (Kd.V_below (Kd.V_elderB (by (with_reducible repeat (first | apply Kd.V_alloc | apply Kd.V_drewN | apply Kd.V_drew)); exact HO0_0.out) gb142 (Nat.le_of_eq hg.symm)) hb); have n1_ := Aside0.mk (below_step (by repeat (first | (with_reducible first | exact HB.out | apply below_alloc | apply pw_below_drewN | apply below_drew1) | exact HB.out)) hb); have n2_ := Aside0.mk (hbox); have n3_ := Aside0.mk ((by rw [hg]; exact (below_size (by repeat (first | (with_reducible first | exact HB.out | apply below_alloc | apply pw_below_drewN | apply below_drew1) | exact HB.out))) : w.heap.size ≤ gb142)); have n4_ := Aside0.mk ((by rw [hg]; exact (below_size (by repeat (first | (with_reducible first | exact HB.out | apply below_alloc | apply pw_below_drewN | apply below_drew1) | exact HB.out))) : w.heap.size ≤ gb142)); clear HO0_0; clear HB; have HO0_0 := n0_; have HB := n1_; have BK142 := n2_; have GW142 := n3_; have GE142 := n4_; clear n0_ n1_ n2_ n3_ n4_; clear hb hbox hg) | ((with_reducible refine gate_dst (N := 2) rfl ?_); refine box_event ?hg (N := 2) ?hd (cs := #[.slice none 0 0]) (t := 31) ?hr ?_; (case hd => rfl); (case hg => rfl); (case hr => first | (go_simp; done) | (go_simp; rfl)); intro gb143 hg w4 hbox hb; have n0_ := Aside0.mk (Kd.V_below (Kd.V_elderB (by (with_reducible repeat (first | apply Kd.V_alloc | apply Kd.V_drewN | apply Kd.V_drew)); exact HO0_0.out) gb143 (Nat.le_of_eq hg.symm)) hb); have n1_ := Aside0.mk (blk_below (g := gb142) (o := .cells #[.slice A0_0 l0_0.length c0_0] 31 (0, 0)) (by (with_reducible repeat (first | refine blk_drewN ?_ _ | refine blk_drew ?_ | refine blk_alloc ?_ _)); exact BK142.out) hb); have n2_ := Aside0.mk (below_step (by repeat (first | (with_reducible first | exact HB.out | apply below_alloc | apply pw_below_drewN | apply below_drew1 | refine below_set ?_ GE142.out) | exact HB.out)) hb); have n3_ := Aside0.mk (hbox); have n4_ := Aside0.mk ((by rw [hg]; exact (below_size (by repeat (first | (with_reducible first | exact HB.out | apply below_alloc | apply pw_below_drewN | apply below_drew1 | refine below_set ?_ GE142.out) | exact HB.out))) : w.heap.size ≤ gb143)); have n5_ := Aside0.mk ((by rw [hg]; exact (below_size (by repeat (first | (with_reducible first | exact HB.out | apply below_alloc | apply pw_below_drewN | apply below_drew1 | refine below_set ?_ GE142.out) | exact HB.out))) : w.heap.size ≤ gb143)); have n6_ := Aside0.mk ((by rw [hg]; exact Nat.ne_of_lt (blk_lt (g := gb142) (o := .cells #[.slice A0_0 l0_0.length c0_0] 31 (0, 0)) (by (with_reducible repeat (first | refine blk_drewN ?_ _ | refine blk_drew ?_ | refine blk_alloc ?_ _)); exact BK142.out)) : gb142 ≠ gb143)); have n7_ := Aside0.mk ((by rw [hg]; exact Nat.ne_of_gt (blk_lt (g := gb142) (o := .cells #[.slice A0_0 l0_0.length c0_0] 31 (0, 0)) (by (with_reducible repeat (first | refine blk_drewN ?_ _ | refine blk_drew ?_ | refine blk_alloc ?_ _)); exact BK142.out)) : gb143 ≠ gb142)); clear HO0_0; clear BK142; clear HB; have HO0_0 := n0_; have BK142 := n1_; have HB := n2_; have BK143 := n3_; have GW143 := n4_; have GE143 := n5_; have NB142_143 := n6_; have NB143_142 := n7_; clear n0_ n1_ n2_ n3_ n4_ n5_ n6_ n7_; clear hb hbox hg; have hnb5 := NB142_143.out; have hnc5 := NB143_142.out; have hcz6_0 : w4.cell? ⟨gb142, 0, none⟩ = some (.slice A0_0 l0_0.length c0_0) := (blk_cell BK142.out 0).trans rfl; have hfz6_0 := blk_frozen BK142.out 0; have hcz7_0 : w4.cell? ⟨gb143, 0, none⟩ = some (.slice none 0 0) := (blk_cell BK143.out 0).trans rfl; have hfz7_0 := blk_frozen BK143.out 0))
    refine bodyPost_ret (results_ct rfl _ _ gb143 31 #[.slice none 0 0] (0, 0) _ rfl (by (with_reducible repeat (first | refine blk_drewN ?_ _ | refine blk_drew ?_ | refine blk_alloc ?_ _)); refine blk_put (cs := #[.slice none 0 0]) ?_ 0 _ rfl; (with_reducible repeat (first | refine blk_drewN ?_ _ | refine blk_drew ?_ | refine blk_alloc ?_ _)); exact BK143.out) Tryd.underlying31 rfl (by kernel_rfl)) rfl ?_
    exact ⟨_, by first | rfl | (simp [errW_none, errW_some] <;> rfl) | (simp [*, errW_none, errW_some] <;> rfl), Kd.V_nil _ _ _ _ _, by repeat (first | (with_reducible first | exact HB.out | apply below_alloc | apply pw_below_drewN | apply below_drew1 | refine below_set ?_ GE142.out | refine below_set ?_ GE143.out) | exact HB.out)⟩
  · rw [if_neg c2] at H
    have c2b0 : decide (20000 < (l0_0.length : Int)) = false := decide_eq_false c2
    have c2b1 : decide (20000 < l0_0.length) = false := decide_eq_false (by omega)
    clear c2
    simp only [Option.some.injEq, Prod.mk.injEq] at H
    obtain ⟨rfl, rfl⟩ := H
    go_enter Tryd.func62, Tryd.ntmps62
    go_wp2_with (first | ((with_reducible refine gate_dst (N := 1) rfl ?_); refine box_event ?hg (N := 1) ?hd (cs := #[.slice A0_0 l0_0.length c0_0]) (t := 31) ?hr ?_; (case hd => rfl); (case hg => rfl); (case hr => first | (go_simp; done) | (go_simp; rfl)); intro gb142 hg w8 hbox hb; have n0_ := Aside0.mk (Kd.V_below (Kd.V_elderB (by (with_reducible repeat (first | apply Kd.V_alloc | apply Kd.V_drewN | apply Kd.V_drew)); exact HO0_0.out) gb142 (Nat.le_of_eq hg.symm)) hb); have n1_ := Aside0.mk (below_step (by repeat (first | (with_reducible first | exact HB.out | apply below_alloc | apply pw_below_drewN | apply below_drew1) | exact HB.out)) hb); have n2_ := Aside0.mk (hbox); have n3_ := Aside0.mk ((by rw [hg]; exact (below_size (by repeat (first | (with_reducible first | exact HB.out | apply below_alloc | apply pw_below_drewN | apply below_drew1) | exact HB.out))) : w.heap.size ≤ gb142)); have n4_ := Aside0.mk ((by rw [hg]; exact (below_size (by repeat (first | (with_reducible first | exact HB.out | apply below_alloc | apply pw_below_drewN | apply below_drew1) | exact HB.out))) : w.heap.size ≤ gb142)); clear HO0_0; clear HB; have HO0_0 := n0_; have HB := n1_; have BK142 := n2_; have GW142 := n3_; have GE142 := n4_; clear n0_ n1_ n2_ n3_ n4_; clear hb hbox hg) | ((with_reducible refine gate_dst (N := 2) rfl ?_); refine box_event ?hg (N := 2) ?hd (cs := #[.slice none 0 0]) (t := 31) ?hr ?_; (case hd => rfl); (case hg => rfl); (case hr => first | (go_simp; done) | (go_simp; rfl)); intro gb143 hg w9 hbox hb; have n0_ := Aside0.mk (Kd.V_below (Kd.V_elderB (by (with_reducible repeat (first | apply Kd.V_alloc | apply Kd.V_drewN | apply Kd.V_drew)); exact HO0_0.out) gb143 (Nat.le_of_eq hg.symm)) hb); have n1_ := Aside0.mk (blk_below (g := gb142) (o := .cells #[.slice A0_0 l0_0.length c0_0] 31 (0, 0)) (by (with_reducible repeat (first | refine blk_drewN ?_ _ | refine blk_drew ?_ | refine blk_alloc ?_ _)); exact BK142.out) hb); have n2_ := Aside0.mk (below_step (by repeat (first | (with_reducible first | exact HB.out | apply below_alloc | apply pw_below_drewN | apply below_drew1 | refine below_set ?_ GE142.out) | exact HB.out)) hb); have n3_ := Aside0.mk (hbox); have n4_ := Aside0.mk ((by rw [hg]; exact (below_size (by repeat (first | (with_reducible first | exact HB.out | apply below_alloc | apply pw_below_drewN | apply below_drew1 | refine below_set ?_ GE142.out) | exact HB.out))) : w.heap.size ≤ gb143)); have n5_ := Aside0.mk ((by rw [hg]; exact (below_size (by repeat (first | (with_reducible first | exact HB.out | apply below_alloc | apply pw_below_drewN | apply below_drew1 | refine below_set ?_ GE142.out) | exact HB.out))) : w.heap.size ≤ gb143)); have n6_ := Aside0.mk ((by rw [hg]; exact Nat.ne_of_lt (blk_lt (g := gb142) (o := .cells #[.slice A0_0 l0_0.length c0_0] 31 (0, 0)) (by (with_reducible repeat (first | refine blk_drewN ?_ _ | refine blk_drew ?_ | refine blk_alloc ?_ _)); exact BK142.out)) : gb142 ≠ gb143)); have n7_ := Aside0.mk ((by rw [hg]; exact Nat.ne_of_gt (blk_lt (g := gb142) (o := .cells #[.slice A0_0 l0_0.length c0_0] 31 (0, 0)) (by (with_reducible repeat (first | refine blk_drewN ?_ _ | refine blk_drew ?_ | refine blk_alloc ?_ _)); exact BK142.out)) : gb143 ≠ gb142)); clear HO0_0; clear BK142; clear HB; have HO0_0 := n0_; have BK142 := n1_; have HB := n2_; have BK143 := n3_; have GW143 := n4_; have GE143 := n5_; have NB142_143 := n6_; have NB143_142 := n7_; clear n0_ n1_ n2_ n3_ n4_ n5_ n6_ n7_; clear hb hbox hg; have hnb10 := NB142_143.out; have hnc10 := NB143_142.out; have hcz11_0 : w9.cell? ⟨gb142, 0, none⟩ = some (.slice A0_0 l0_0.length c0_0) := (blk_cell BK142.out 0).trans rfl; have hfz11_0 := blk_frozen BK142.out 0; have hcz12_0 : w9.cell? ⟨gb143, 0, none⟩ = some (.slice none 0 0) := (blk_cell BK143.out 0).trans rfl; have hfz12_0 := blk_frozen BK143.out 0))
    refine bodyPost_ret (results_ct rfl _ _ gb143 31 #[.slice A0_0 l0_0.length c0_0] (0, 0) _ rfl (by (with_reducible repeat (first | refine blk_drewN ?_ _ | refine blk_drew ?_ | refine blk_alloc ?_ _)); refine blk_put (cs := #[.slice none 0 0]) ?_ 0 _ rfl; (with_reducible repeat (first | refine blk_drewN ?_ _ | refine blk_drew ?_ | refine blk_alloc ?_ _)); exact BK143.out) Tryd.underlying31 rfl (by kernel_rfl)) rfl ?_
    exact ⟨_, by first | rfl | (simp [errW_none, errW_some] <;> rfl) | (simp [*, errW_none, errW_some] <;> rfl), by (with_reducible repeat (first | apply Kd.V_alloc | apply Kd.V_drewN | apply Kd.V_drew)); exact Kd.V_mono (Kd.V_far (p := ⟨gb143, 0, none⟩) (Kd.V_mono HO0_0.out (fun k_ hk => (⟨hk, by first | exact hk.2 | exact hk.1 | exact hk.2 | exact hk.1.1 | exact hk.1.2⟩ : _ ∧ k_ ≠ gb143))) (fun _ hk => hk.2) (.slice A0_0 l0_0.length c0_0)) (fun _ hk => hk.1.1.1), by repeat (first | (with_reducible first | exact HB.out | apply below_alloc | apply pw_below_drewN | apply below_drew1 | refine below_set ?_ GE142.out | refine below_set ?_ GE143.out) | exact HB.out)⟩

end Go.Proofs.YtopbjginpmdebaaDoor.K
namespace Go.Proofs.YtopbjginpmdebaaDoor.K
open Go.RowKit Go.Proofs.YtopbjginpmdebaaDoorW.PrintWords Go.Proofs.YtopbjginpmdebaaDoorW.PrintLast Go.Proofs.YtopbjginpmdebaaDoorW.PrintMore
attribute [local go_sem] max2_int min2_int max_two min_two max_three min_three max_four min_four   -- for this text's walks alone
set_option linter.unusedVariables false
set_option linter.unusedSimpArgs false

/-! ### exactpplref19_Reduce: function 43 -/
def exactpplref19_Reduce.f (k : Nat) (l0 : List (S60)) : Option ((List (S60)) × Int) := (exactpplref19_Graph.f k l0).bind fun t198 => (if t198 = true then ((exactpplref19_Canon.f l0).bind fun t199 => ((exactpplref19_Fit.f t199).bind fun bt202 => (some (bt202.1, bt202.2)))) else (some (([] : List (S60)), 2)))
theorem exactpplref19_Reduce.mono : ∀ a0 k, LeO (exactpplref19_Reduce.f k a0) (exactpplref19_Reduce.f (k + 1) a0) := by
 intro a0 k
 unfold exactpplref19_Reduce.f
 repeat' first
   | (with_reducible exact exactpplref19_Graph.mono _ _)
   | (with_reducible exact LeO.refl _)
   | (with_reducible exact LeO.none _)
   | (with_reducible refine LeO.ite ?_ ?_)
   | (with_reducible refine LeO.bind ?_ (fun _ => ?_))
   | exact exactpplref19_Graph.mono _ _
   | exact LeO.none _
   | refine LeO.ite ?_ ?_
   | refine LeO.bind ?_ (fun _ => ?_)
set_option maxHeartbeats 8000000 in
set_option maxRecDepth 100000 in
theorem exactpplref19_Reduce.calls (k : Nat) (A0 : Option Addr) (c0 : Nat) (l0 : List (S60)) (r1 : List (S60)) (r2 : Int) (w : World) (hr0 : Kd.C k60 w A0 l0.length l0) (hc0 : l0.length ≤ c0) (h : exactpplref19_Reduce.f k l0 = some (r1, r2)) :
  Calls Tryd.prog 43 #[.slice A0 l0.length c0] w fun e w' => ∃ v0_ : Value, e = .returned (.tuple #[.agg #[v0_], .int .i64 r2]) ∧ Kd.V k60 60 w' w.heap.size (fun k_ => (w.heap.size ≤ k_)) v0_ r1 ∧ Below w.heap.size w w' := by
 have hu31 := Tryd.underlying31
 have HR0 := Aside0.mk hr0
 have HC0 := Aside0.mk hc0
 clear hr0 hc0
 have HB := Aside0.mk (Below.refl w.heap.size w)
 have H : ((exactpplref19_Graph.f k l0).bind fun t198 => (if t198 = true then ((exactpplref19_Canon.f l0).bind fun t199 => ((exactpplref19_Fit.f t199).bind fun bt202 => (some (bt202.1, bt202.2)))) else (some (([] : List (S60)), 2)))) = some (r1, r2) := h
 clear h
 replace H := Option.bind_eq_some_iff.mp H
 obtain ⟨t198, A20, H⟩ := H
 replace H : (if t198 = true then ((exactpplref19_Canon.f l0).bind fun t199 => ((exactpplref19_Fit.f t199).bind fun bt202 => (some (bt202.1, bt202.2)))) else (some (([] : List (S60)), 2))) = some (r1, r2) := H
 have A2 := Aside0.mk A20
 clear A20
 by_cases c3 : t198 = true
 ·subst c3
  have H1 : ((exactpplref19_Canon.f l0).bind fun t199 => ((exactpplref19_Fit.f t199).bind fun bt202 => (some (bt202.1, bt202.2)))) = some (r1, r2) := by rw [if_pos rfl] at H; exact H
  clear H
  have H := H1
  clear H1
  replace H := Option.bind_eq_some_iff.mp H
  obtain ⟨t199, A40, H⟩ := H
  replace H : ((exactpplref19_Fit.f t199).bind fun bt202 => (some (bt202.1, bt202.2))) = some (r1, r2) := H
  have A4 := Aside0.mk A40
  clear A40
  replace H := Option.bind_eq_some_iff.mp H
  obtain ⟨⟨t202, t205⟩, A50, H⟩ := H
  replace H : (some (t202, t205)) = some (r1, r2) := H
  have A5 := Aside0.mk A50
  clear A50
  simp only [Option.some.injEq, Prod.mk.injEq] at H
  obtain ⟨rfl, rfl⟩ := H
  go_enter Tryd.func43, Tryd.ntmps43
  go_wp2_with (first | ((with_reducible refine gate_dst (N := 2) rfl ?_); refine box_event ?hg (N := 2) ?hd (cs := #[.slice none 0 0]) (t := 31) ?hr ?_; (case hd => rfl); (case hg => rfl); (case hr => first | (go_simp; done) | (go_simp; rfl)); intro gb197 hg w6 hbox hb; have BK197 := Aside0.mk (hbox); have GW197 : Aside0 (w.heap.size ≤ gb197) := gw_ hg (below_size bl_); have GE197 := GW197; replace HB := Aside0.mk (below_step bl_ hb); clear hb hbox hg) | ((with_reducible refine gate_callee (f := 67) rfl ?_); refine goesL_ (some 5) rfl rfl Tryd.func67 (by kernel_rfl) rfl #[.slice A0 l0.length c0] rfl (by (try simp only [List.map_toArray, List.map_cons, List.map_nil]); first | done | rfl | (simp only [List.length_drop, List.length_take]; rfl)) ?_; (with_reducible refine (exactpplref19_Graph.calls k _ _ l0 true _ ?side1 ?side2 A2.out).mono ?_); (case side1 => repeat (first | exact (Kd.C_below HR0.out HB.out) | (with_reducible refine Kd.C_alloc ?_ _) | (with_reducible refine Kd.C_drewN ?_ _) | (with_reducible refine Kd.C_drew ?_))); (case side2 => exact HC0.out); rintro e w7 ⟨rfl, hb⟩; refine ⟨_, rfl, ?_⟩; replace BK197 := Aside0.mk (blk_below (g := gb197) (o := .cells #[.slice none 0 0] 31 (0, 0)) bk_ hb); replace HB := Aside0.mk (below_step bl_ hb); (try clear hb); (try clear hb2); (try clear hk); (try clear hi)) | ((with_reducible refine gate_callee (f := 68) rfl ?_); refine goesL_ (some 9) rfl rfl Tryd.func68 (by kernel_rfl) rfl #[.slice A0 l0.length c0] rfl (by (try simp only [List.map_toArray, List.map_cons, List.map_nil]); first | done | rfl | (simp only [List.length_drop, List.length_take]; rfl)) ?_; (with_reducible refine (exactpplref19_Canon.calls _ _ l0 t199 _ ?side1 ?side2 A4.out).mono ?_); (case side1 => repeat (first | exact (Kd.C_below HR0.out HB.out) | (with_reducible refine Kd.C_alloc ?_ _) | (with_reducible refine Kd.C_drewN ?_ _) | (with_reducible refine Kd.C_drew ?_))); (case side2 => exact HC0.out); rintro e w8 ⟨v200, rfl, ho0, hb⟩; refine ⟨_, rfl, ?_⟩; have HO201 := Aside0.mk (Kd.V_lower (Kd.V_mono (ok' := fun k_ => (w.heap.size ≤ k_) ∧ k_ ≠ gb197) ho0 (fun k_ hk_ => ⟨(Nat.le_trans (below_size bl_) hk_), (Kd.freshB (g := gb197) (o := .cells #[.slice none 0 0] 31 (0, 0)) bk_ k_ hk_)⟩)) (below_size bl_)); replace BK197 := Aside0.mk (blk_below (g := gb197) (o := .cells #[.slice none 0 0] 31 (0, 0)) bk_ hb); replace HB := Aside0.mk (below_step bl_ hb); (try clear hb); (try clear hb2); (try clear hk); (try clear hi); (try clear ho0); obtain ⟨Ao9, co9, eo9⟩ := Kd.V_slice HO201.out; subst eo9) | ((with_reducible refine gate_callee (f := 62) rfl ?_); refine goesL_ (some 10) rfl rfl Tryd.func62 (by kernel_rfl) rfl #[.agg #[.slice Ao9 t199.length co9]] rfl (by (try simp only [List.map_toArray, List.map_cons, List.map_nil]); first | done | rfl | (simp only [List.length_drop, List.length_take]; rfl)) ?_; (with_reducible refine (exactpplref19_Fit.calls (fun k_ => ((w.heap.size ≤ k_) ∧ k_ ≠ gb197)) _ _ t199 t202 t205 _ ?side1 A5.out).mono ?_); (case side1 => exact HO201.out); rintro e w10 ⟨v203, rfl, ho0, hb⟩; refine ⟨_, rfl, ?_⟩; have HO204 := Aside0.mk (Kd.V_lower (Kd.V_mono (ok' := fun k_ => (w.heap.size ≤ k_) ∧ k_ ≠ gb197) ho0 (fun k_ hk_ => ⟨Or.elim hk_ (fun hs_ => hs_.1) (fun hn_ => (Nat.le_trans (below_size bl_) hn_)), Or.elim hk_ (fun hs_ => hs_.2) (fun hn_ => (Kd.freshB (g := gb197) (o := .cells #[.slice none 0 0] 31 (0, 0)) bk_ k_ hn_))⟩)) (below_size bl_)); replace HO201 := Aside0.mk (Kd.V_below (pV_ HO201.out) hb); replace BK197 := Aside0.mk (blk_below (g := gb197) (o := .cells #[.slice none 0 0] 31 (0, 0)) bk_ hb); replace HB := Aside0.mk (below_step bl_ hb); (try clear hb); (try clear hb2); (try clear hk); (try clear hi); (try clear ho0); obtain ⟨Ao11, co11, eo11⟩ := Kd.V_slice HO204.out; subst eo11; obtain ⟨hcz12_0, hfz12_0⟩ := cf1_ BK197.out))
  refine bodyPost_ret (results_ct rfl _ _ gb197 31 #[.slice Ao11 t202.length co11] (0, 0) _ rfl (by (with_reducible repeat (first | refine blk_drewN ?_ _ | refine blk_drew ?_ | refine blk_alloc ?_ _)); refine blk_put (cs := #[.slice none 0 0]) ?_ 0 _ rfl; (with_reducible repeat (first | refine blk_drewN ?_ _ | refine blk_drew ?_ | refine blk_alloc ?_ _)); exact BK197.out) Tryd.underlying31 rfl (by kernel_rfl)) rfl ?_
  exact ⟨_, re_, by (with_reducible repeat (first | apply Kd.V_alloc | apply Kd.V_drewN | apply Kd.V_drew)); exact Kd.V_mono (Kd.V_far (p := ⟨gb197, 0, none⟩) (Kd.V_mono HO204.out (fun k_ hk => (⟨hk, by first | exact hk.2 | exact hk.1 | exact hk.2 | exact hk.1.1 | exact hk.1.2⟩ : _ ∧ k_ ≠ gb197))) (fun _ hk => hk.2) (.slice Ao11 t202.length co11)) (fun _ hk => hk.1.1), bl_⟩
 ·replace c3 := Bool.eq_false_iff.mpr c3
  subst c3
  have H1 : (some (([] : List (S60)), 2)) = some (r1, r2) := by rw [if_neg (show ¬ (false = true) by decide)] at H; exact H
  clear H
  have H := H1
  clear H1
  simp only [Option.some.injEq, Prod.mk.injEq] at H
  obtain ⟨rfl, rfl⟩ := H
  go_enter Tryd.func43, Tryd.ntmps43
  go_wp2_with (first | ((with_reducible refine gate_dst (N := 2) rfl ?_); refine box_event ?hg (N := 2) ?hd (cs := #[.slice none 0 0]) (t := 31) ?hr ?_; (case hd => rfl); (case hg => rfl); (case hr => first | (go_simp; done) | (go_simp; rfl)); intro gb197 hg w13 hbox hb; have BK197 := Aside0.mk (hbox); have GW197 : Aside0 (w.heap.size ≤ gb197) := gw_ hg (below_size bl_); have GE197 := GW197; replace HB := Aside0.mk (below_step bl_ hb); clear hb hbox hg) | ((with_reducible refine gate_callee (f := 67) rfl ?_); refine goesL_ (some 5) rfl rfl Tryd.func67 (by kernel_rfl) rfl #[.slice A0 l0.length c0] rfl (by (try simp only [List.map_toArray, List.map_cons, List.map_nil]); first | done | rfl | (simp only [List.length_drop, List.length_take]; rfl)) ?_; (with_reducible refine (exactpplref19_Graph.calls k _ _ l0 false _ ?side1 ?side2 A2.out).mono ?_); (case side1 => repeat (first | exact (Kd.C_below HR0.out HB.out) | (with_reducible refine Kd.C_alloc ?_ _) | (with_reducible refine Kd.C_drewN ?_ _) | (with_reducible refine Kd.C_drew ?_))); (case side2 => exact HC0.out); rintro e w14 ⟨rfl, hb⟩; refine ⟨_, rfl, ?_⟩; replace BK197 := Aside0.mk (blk_below (g := gb197) (o := .cells #[.slice none 0 0] 31 (0, 0)) bk_ hb); replace HB := Aside0.mk (below_step bl_ hb); (try clear hb); (try clear hb2); (try clear hk); (try clear hi); obtain ⟨hcz15_0, hfz15_0⟩ := cf1_ BK197.out))
  refine bodyPost_ret (results_ct rfl _ _ gb197 31 #[.slice none 0 0] (0, 0) _ rfl (by (with_reducible repeat (first | refine blk_drewN ?_ _ | refine blk_drew ?_ | refine blk_alloc ?_ _)); refine blk_put (cs := #[.slice none 0 0]) ?_ 0 _ rfl; (with_reducible repeat (first | refine blk_drewN ?_ _ | refine blk_drew ?_ | refine blk_alloc ?_ _)); exact BK197.out) Tryd.underlying31 rfl (by kernel_rfl)) rfl ?_
  exact ⟨_, re_, Kd.V_nil _ _ _ _ _, bl_⟩

end Go.Proofs.YtopbjginpmdebaaDoor.K
