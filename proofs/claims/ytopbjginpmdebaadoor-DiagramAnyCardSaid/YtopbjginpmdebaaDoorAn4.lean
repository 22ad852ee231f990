/- Lemmas for: Proved: the tied card of exactppllaw19.DiagramAny (for every list of nodes the law returns true). Conditions: none beyond the given row. -/
import Derived.StillTailTactics
import Derived.BigRegion
import Derived.ChangeSlices
import Derived.Test.YtopbjginpmdebaaDoorAn2
import Derived.Test.YtopbjginpmdebaaDoorAn3
-- the canonical nodes keep the number of kids
namespace Go.Proofs.YtopbjginpmdebaaDoor.K
open Go.RowKit Go.Maps Go.Proofs.YtopbjginpmdebaaDoorW.PrintWords Go.Proofs.YtopbjginpmdebaaDoorW.PrintLast Go.Proofs.YtopbjginpmdebaaDoorW.PrintMore
set_option linter.unusedVariables false
set_option linter.unusedSimpArgs false
theorem nth_kids {m : Nat} {u : List Nd} (hu : ∀ x ∈ u, x.f2.length ≤ m) (i : Int) : (nth u i).f2.length ≤ m := by
  unfold nth
  by_cases h : i.toNat < u.length
  · rw [List.getD_eq_getElem?_getD, List.getElem?_eq_getElem h]
    exact hu _ (List.getElem_mem h)
  · rw [List.getD_eq_getElem?_getD, List.getElem?_eq_none (by omega)]
    simp
theorem fin_kids {m : Nat} {u : List Nd} (hu : ∀ x ∈ u, x.f2.length ≤ m) (i : Int) (s : St) (hs : ∀ x ∈ s.2, x.f2.length ≤ m) : ∀ x ∈ (fin u i s).2, x.f2.length ≤ m := by
  intro x hx
  unfold fin at hx
  rcases List.mem_append.1 hx with h | h
  · exact hs x h
  · rw [List.mem_singleton.1 h]
    show (mp s.1 (nth u i).f2).length ≤ m
    unfold mp
    rw [List.length_map]
    exact nth_kids hu i
theorem foldl_keeps {α : Type} (P : St → Prop) (f : St → α → St) (hf : ∀ s x, P s → P (f s x)) : ∀ (l : List α) (s : St), P s → P (l.foldl f s)
  | [], _, h => h
  | x :: l, s, h => foldl_keeps P f hf l _ (hf s x h)
theorem dfs_kids {m : Nat} {u : List Nd} (hu : ∀ x ∈ u, x.f2.length ≤ m) : ∀ (d : Nat) (i : Int) (s : St), (∀ x ∈ s.2, x.f2.length ≤ m) → ∀ x ∈ (dfs u d i s).2, x.f2.length ≤ m
  | 0, _, _, h => h
  | d + 1, i, s, h => by
    simp only [dfs]
    split
    · exact h
    · exact fin_kids hu i _ (foldl_keeps (fun s => ∀ x ∈ s.2, x.f2.length ≤ m) _ (fun s c hs => dfs_kids hu d c s hs) _ s h)
theorem cn_kids {nodes : List Nd} (h : grB nodes = true) : ∀ x ∈ cn nodes, x.f2.length ≤ 16 := by
  unfold cn expo
  exact dfs_kids (imp_kids nodes [] [] (by simp) (gr_kids h)) _ _ _ (by simp)
theorem redL_kids16 (nodes : List Nd) : ∀ x ∈ redL nodes, x.f2.length ≤ 16 := by
  unfold redL
  split
  · rename_i h
    by_cases hg : grB nodes = true
    · exact cn_kids hg
    · unfold redE at h
      rw [if_neg hg] at h
      cases h
  · simp
/-- what Eval gives from node i on -/
def evK (nodes : List Nd) (o : List Int) : Nat → Int → Int × Int
  | 0, _ => (0, 0)
  | f + 1, i => if (nth nodes i).f0 < 0 then ((nth nodes i).f1, 0) else
      if (o.length : Int) ≤ (nth nodes i).f0 ∨ rd o (nth nodes i).f0 < 0 ∨ ((nth nodes i).f2.length : Int) ≤ rd o (nth nodes i).f0 then (0, 1) else evK nodes o f (rd (nth nodes i).f2 (rd o (nth nodes i).f0))
end Go.Proofs.YtopbjginpmdebaaDoor.K
-- diagram.Eval
namespace Go.Proofs.YtopbjginpmdebaaDoor.K
open Go.RowKit Go.Maps Go.Proofs.YtopbjginpmdebaaDoorW.PrintWords Go.Proofs.YtopbjginpmdebaaDoorW.PrintLast Go.Proofs.YtopbjginpmdebaaDoorW.PrintMore
set_option linter.unusedVariables false
set_option linter.unusedSimpArgs false
/-- Eval -/
def evR (nodes : List Nd) (o : List Int) : Int × Int := if valE nodes = 0 then evK nodes o (nodes.length + 1) ((nodes.length - 1 : Nat) : Int) else (0, valE nodes)
/-- Eval's loop: n holds node i -/
structure EvSt (w w2 W : World) (nodes : List Nd) (i : Nat) : Prop where
  below : Below w.heap.size w W
  below2 : Below w2.heap.size w2 W
  node : ∃ A2 c2, W.heap[w2.heap.size]? = some (.cells #[.int .i64 (nth nodes (i : Int)).f0, .int .i64 (nth nodes (i : Int)).f1, .slice A2 (nth nodes (i : Int)).f2.length c2] 60 (0, 0)) ∧ (nth nodes (i : Int)).f2.length ≤ c2 ∧ (Kd.int .i64).C W A2 (nth nodes (i : Int)).f2.length (nth nodes (i : Int)).f2
set_option maxHeartbeats 8000000 in
set_option maxRecDepth 100000 in
theorem eval_calls (nodes : List Nd) (o : List Int) (A Ao : Option Addr) (c co : Nat) (w : World)
    (hC : k60.C w A nodes.length nodes) (hc : nodes.length ≤ c) (hI : ∀ n ∈ nodes, I64 n.f0 ∧ I64 n.f1 ∧ n.f2.length ≤ 1073741824) (hroom : (nodes.length + 1) * 40 ≤ 140737488355328) (htab : PowTab w.heap.size w)
    (hO : (Kd.int .i64).C w Ao o.length o) (ho : o.length ≤ 17592186044000) :
    Calls Tryd.prog 26 #[.agg #[.slice A nodes.length c], .slice Ao o.length co] w fun e w' => e = .returned (.tuple #[.int .i64 (evR nodes o).1, .int .i64 (evR nodes o).2]) ∧ Below w.heap.size w w' := by
  have HO := Lib.hid hO
  have HI := Lib.hid hI
  have HC := Lib.hid hC
  have hb0 : Below w.heap.size w (w.alloc (.cells #[.slice A nodes.length c] 31)) := (Below.refl _ w).alloc (Nat.le_refl _) _
  have hV := validate_calls nodes A c (w.alloc (.cells #[.slice A nodes.length c] 31)) (Kd.C_below hC hb0) hc hI hroom (PowTab.up (htab.on hb0) hb0.size) (fun n hn => Nat.le_trans (redL_kids16 nodes n hn) (by decide))
  have hbx0 := heap_alloc_new w (.cells #[.slice A nodes.length c] 31)
  obtain ⟨N, hN⟩ : ∃ N, N = nodes.length := ⟨_, rfl⟩
  rw [← hN] at hV hc hb0 hbx0 ⊢
  have HB0 := Lib.hid hb0
  have HBX0 := Lib.hid hbx0
  have HN := Lib.hid hN
  have HRM := Lib.hid hroom
  clear hI hC hO hroom htab hb0 hbx0 hN
  by_cases h0 : valE nodes = 0
  · have hv : evR nodes o = evK nodes o (nodes.length + 1) ((nodes.length - 1 : Nat) : Int) := by unfold evR; rw [if_pos h0]
    rw [h0] at hV
    have hre : redE nodes = 0 := by
      by_cases h1 : redE nodes = 0
      · exact h1
      · unfold valE at h0; rw [if_neg h1] at h0; exact absurd h0 h1
    have hgr : grB nodes = true := by
      by_cases h1 : grB nodes = true
      · exact h1
      · unfold redE at hre; rw [if_neg h1] at hre; cases hre
    rw [hv]
    obtain ⟨M, hM⟩ : ∃ M, nodes.length = M + 1 := ⟨nodes.length - 1, by have := gr_pos hgr; omega⟩
    have hNM : N = M + 1 := HN.out.trans hM
    subst hNM
    have hMl : nodes.length - 1 = M := by omega
    rw [hMl, hM]
    have HGR := Lib.hid hgr
    have HM := Lib.hid hM
    have hMb : M < 4000000000000 := by have := HRM.out; omega
    clear hv h0 hre hgr hM hMl
    go_enter Tryd.func26, Tryd.ntmps26
    go_wp2_with (go_at_call 21; refine hV.mono ?_; clear hV; rintro e w2 ⟨rfl, hb2⟩; have HB2 := Lib.hid (HB0.out.trans (hb2.mono (show w.heap.size ≤ (w.alloc (.cells #[.slice A (M + 1) c] 31)).heap.size by simp))); have hbx2 := (hb2.block w.heap.size (by simp)).trans HBX0.out; have b0 := blk_cell hbx2 0; have hlt := blk_lt hbx2; have HBX2 := Lib.hid hbx2; clear hbx2 hb2; obtain ⟨ad, A2, c2, rfl, d0, d1, d2, l2, g2⟩ := at_T60 (Kd.C_below HC.out HB2.out) (M : Int) (by omega) (by have := HM.out; omega); rw [Int.toNat_natCast] at d0 d1 d2; rw [rd_nth] at d0 d1 d2 l2 g2; have hadl := World.block_lt_of_cell? _ _ d0; have HG2 := Lib.hid g2; clear g2)
    have hst0 : ∀ X : World, X = w2.alloc (.cells #[.int .i64 (nth nodes (M : Int)).f0, .int .i64 (nth nodes (M : Int)).f1, .slice A2 (nth nodes (M : Int)).f2.length c2] 60) → EvSt w w2 X nodes M := by
      rintro X rfl
      exact ⟨HB2.out.alloc (Nat.le_of_lt hlt) _, (Below.refl _ w2).alloc (Nat.le_refl _) _, ⟨A2, c2, heap_alloc_new w2 _, l2, Kd.C_below HG2.out ((Below.refl _ w2).alloc (Nat.le_refl _) _)⟩⟩
    have H0 := Lib.hid hst0
    clear hst0
    go_loopg [21] (M + 1 + 1) (fun q s21 wr => ∃ i : Nat, i < q ∧ i < M + 1 ∧ Aside0 (evK nodes o q (i : Int) = evK nodes o (M + 1 + 1) (M : Int)) ∧ EvSt w w2 wr nodes i)
    case atStart => exact ⟨M, by omega, by omega, ⟨rfl⟩, H0.out _ rfl⟩
    case round =>
      obtain ⟨i, hiq, hiN, hev, hst⟩ := hrel
      obtain ⟨q, rfl⟩ : ∃ q, gk = q + 1 := ⟨gk - 1, by omega⟩
      obtain ⟨A3, c3, hbn, l3, g3⟩ := hst.node
      obtain ⟨n, hn⟩ : ∃ n, n = nth nodes (i : Int) := ⟨_, rfl⟩
      rw [← hn] at hbn l3 g3
      have n0 : wr.cell? ⟨w2.heap.size, 0, none⟩ = some (.int .i64 n.f0) := (blk_cell hbn 0).trans rfl
      have n1 : wr.cell? ⟨w2.heap.size, 1, none⟩ = some (.int .i64 n.f1) := (blk_cell hbn 1).trans rfl
      have n2 : wr.cell? ⟨w2.heap.size, 2, none⟩ = some (.slice A3 n.f2.length c3) := (blk_cell hbn 2).trans rfl
      have HEV := Lib.hid hev.out
      have HST := Lib.hid hst
      have HNI := Lib.hid hn
      have HBN := Lib.hid hbn
      have HG3 := Lib.hid g3
      clear hev hst hn hbn g3 d0 d1 d2
      by_cases h0 : n.f0 < 0
      · go_wp2
        refine bodyPost_ret (v := .tuple #[.int .i64 n.f1, .int .i64 0]) (by simp [results, Tryd.f26, go_sem]) rfl ⟨?_, HST.out.below⟩
        rw [← HEV.out]
        simp only [evK]
        rw [← HNI.out, if_pos (by omega)]
      · by_cases h1 : (o.length : Int) ≤ n.f0
        · go_wp2
          go_quiet (fail)
          go_wp2
          refine bodyPost_ret (v := .tuple #[.int .i64 0, .int .i64 1]) (by simp [results, Tryd.f26, go_sem]) rfl ⟨?_, below_drew2 HST.out.below _⟩
          rw [← HEV.out]
          simp only [evK]
          rw [← HNI.out, if_neg (by omega), if_pos (by omega)]
        · obtain ⟨fN, hfN⟩ : ∃ fN : Nat, n.f0 = fN := ⟨n.f0.toNat, by omega⟩
          have hfo : fN < o.length := by omega
          have hfoi : (fN : Int) < (o.length : Int) := by omega
          obtain ⟨ao, rfl, ro⟩ := reads_at (Kd.C_below HO.out HST.out.below) (by intro e; rw [e] at hfo; simp at hfo)
          have e0 := ro fN hfo
          obtain ⟨x, hx⟩ : ∃ x, x = o.getD fN 0 := ⟨_, rfl⟩
          rw [← hx] at e0
          have hrd : rd o n.f0 = x := by rw [hfN, hx]; unfold rd; rw [Int.toNat_natCast]
          have HRD := Lib.hid hrd
          replace n0 : wr.cell? ⟨w2.heap.size, 0, none⟩ = some (.int .i64 (fN : Int)) := by rw [n0, hfN]
          have HFN := Lib.hid hfN
          have hfb : fN < 17592186044000 := by omega
          clear hrd hx hfN ro h0 h1
          by_cases h2 : x < 0
          · have q1 : decide (o.length ≤ fN) = false := by simp; omega
            have q2 : decide (x < 0) = true := decide_eq_true h2
            have q3 : (decide (o.length ≤ fN) || decide (x < 0)) = true := by rw [q2]; simp
            go_wp2
            go_quiet (fail)
            go_wp2
            refine bodyPost_ret (v := .tuple #[.int .i64 0, .int .i64 1]) (by simp [results, Tryd.f26, go_sem]) rfl ⟨?_, below_drew2 HST.out.below _⟩
            rw [← HEV.out]
            simp only [evK]
            rw [← HNI.out, if_neg (by rw [HFN.out]; omega), if_pos (by rw [HRD.out]; omega)]
          · by_cases h3 : (n.f2.length : Int) ≤ x
            · go_wp2
              go_quiet (fail)
              go_wp2
              refine bodyPost_ret (v := .tuple #[.int .i64 0, .int .i64 1]) (by simp [results, Tryd.f26, go_sem]) rfl ⟨?_, below_drew2 HST.out.below _⟩
              rw [← HEV.out]
              simp only [evK]
              rw [← HNI.out, if_neg (by rw [HFN.out]; omega), if_pos (by rw [HRD.out]; omega)]
            · obtain ⟨xN, rfl⟩ : ∃ xN : Nat, x = xN := ⟨x.toNat, by omega⟩
              have hxl : xN < n.f2.length := by omega
              obtain ⟨a3, rfl, r3⟩ := reads_at HG3.out (by intro e; rw [e] at hxl; simp at hxl)
              have e3 := r3 xN hxl
              have hmem : n.f2.getD xN 0 ∈ n.f2 := by rw [List.getD_eq_getElem?_getD, List.getElem?_eq_getElem hxl]; exact List.getElem_mem hxl
              have hdn := (gr_fit HGR.out).1 i (by have := HM.out; omega) (n.f2.getD xN 0) (by rw [← HNI.out]; exact hmem)
              obtain ⟨kN, hkN⟩ : ∃ kN : Nat, n.f2.getD xN 0 = kN := ⟨(n.f2.getD xN 0).toNat, by omega⟩
              rw [hkN] at e3 hdn
              have HKN := Lib.hid hkN
              obtain ⟨ad4, A4, c4, had4, d0, d1, d2, l4, g4⟩ := at_T60 HC.out (kN : Int) (by omega) (by have := HM.out; omega)
              injection had4 with had4
              subst had4
              rw [Int.toNat_natCast] at d0 d1 d2
              rw [rd_nth] at d0 d1 d2 l4 g4
              obtain ⟨m, hm⟩ : ∃ m, m = nth nodes (kN : Int) := ⟨_, rfl⟩
              rw [← hm] at d0 d1 d2 l4 g4
              replace d0 := pw_cell_below HST.out.below d0
              replace d1 := pw_cell_below HST.out.below d1
              replace d2 := pw_cell_below HST.out.below d2
              have HMM := Lib.hid hm
              have HG4 := Lib.hid g4
              have hkM : (kN : Int) < (M : Int) + 1 := by omega
              have hkb : kN < 4000000000000 := by omega
              have hxli : (xN : Int) < (n.f2.length : Int) := by omega
              have hkq : kN < q := by omega
              clear hm g4 hdn hmem r3
              go_wp2
              go_quiet (fail)
              have q1 : decide (o.length ≤ fN) = false := by simp; omega
              have q2 : decide ((xN : Int) < 0) = false := by simp
              have q3 : decide (n.f2.length ≤ xN) = false := by simp; omega
              obtain ⟨w3, hw3⟩ : ∃ w3, w3 = wr.drewN nq := ⟨_, rfl⟩
              rw [← hw3]
              have hb3 : Below wr.heap.size wr w3 := by rw [hw3]; exact below_drew2 (Below.refl _ wr) nq
              have hbx3 := (hb3.block _ (by have := HST.out.below2.size; omega)).trans ((HST.out.below2.block _ hlt).trans HBX2.out)
              have b3 : w3.cell? ⟨w.heap.size, 0, none⟩ = some (.slice (some ad) (M + 1) c) := (blk_cell hbx3 0).trans rfl
              replace n0 := pw_cell_below hb3 n0
              replace n1 := pw_cell_below hb3 n1
              replace n2 := pw_cell_below hb3 n2
              replace e0 := pw_cell_below hb3 e0
              replace e3 := pw_cell_below hb3 e3
              replace d0 := pw_cell_below hb3 d0
              replace d1 := pw_cell_below hb3 d1
              replace d2 := pw_cell_below hb3 d2
              have hbn3 := (hb3.block _ (blk_lt HBN.out)).trans HBN.out
              have f7 := blk_frozen hbn3 0
              have f71 := blk_frozen hbn3 1
              have f72 := blk_frozen hbn3 2
              have HBX3 := Lib.hid hbx3
              have HBN3 := Lib.hid hbn3
              have HB3 := Lib.hid hb3
              clear hw3 hb3 hbx3 hbn3 b0
              go_upto_region 8 with (fail)
              go_still_tail 13, (by kernel_rfl)
              change wpList _ _ _ _ _ w3.drew
              go_wp2
              go_roundg q
              case measure => omega
              case rel =>
                have hwm : w.heap.size ≤ w2.heap.size := by omega
                have hbF := ((((HST.out.below.trans (HB3.out.mono (HST.out.below.size))).setCell (p := ⟨w2.heap.size, 0, none⟩) hwm (.int .i64 m.f0)).setCell (p := ⟨w2.heap.size, 1, none⟩) hwm (.int .i64 m.f1)).setCell (p := ⟨w2.heap.size, 2, none⟩) hwm (.slice A4 m.f2.length c4)).drew
                refine ⟨kN, hkq, by omega, ⟨?_⟩, ⟨?_, ?_, A4, c4, ?_, ?_, ?_⟩⟩
                · rw [← HEV.out]
                  conv => rhs; simp only [evK]
                  rw [← HNI.out, if_neg (by rw [HFN.out]; omega), if_neg (by rw [HFN.out] at *; rw [← HFN.out, HRD.out]; omega), HRD.out]
                  congr 1
                  unfold rd
                  rw [Int.toNat_natCast, HKN.out]
                · exact hbF
                · exact ((((HST.out.below2.trans (HB3.out.mono (HST.out.below2.size))).setCell (p := ⟨w2.heap.size, 0, none⟩) (Nat.le_refl _) _).setCell (p := ⟨w2.heap.size, 1, none⟩) (Nat.le_refl _) _).setCell (p := ⟨w2.heap.size, 2, none⟩) (Nat.le_refl _) _).drew
                · rw [← HMM.out]
                  exact blk_set (blk_set (blk_set HBN3.out 0 _) 1 _) 2 _
                · rw [← HMM.out]; exact l4
                · rw [← HMM.out]
                  exact Kd.C_below HG4.out hbF
  · have hv : evR nodes o = (0, valE nodes) := by unfold evR; rw [if_neg h0]
    rw [hv]
    obtain ⟨er, her⟩ : ∃ er, er = valE nodes := ⟨_, rfl⟩
    rw [← her] at hV h0 ⊢
    clear her hv
    go_enter Tryd.func26, Tryd.ntmps26
    go_wp2_with (go_at_call 21; refine hV.mono ?_; clear hV; rintro e w2 ⟨rfl, hb2⟩; have HB2 := Lib.hid hb2; clear hb2)
    refine bodyPost_ret (v := .tuple #[.int .i64 0, .int .i64 er]) (by simp [results, Tryd.f26, go_sem]) rfl ⟨rfl, HB0.out.trans (HB2.out.mono (show w.heap.size ≤ (w.alloc (.cells #[.slice A N c] 31)).heap.size by simp))⟩
end Go.Proofs.YtopbjginpmdebaaDoor.K
-- exactppllaw19.awake
namespace Go.Proofs.YtopbjginpmdebaaDoor.K
open Go.RowKit Go.Maps Go.Proofs.YtopbjginpmdebaaDoorW.PrintWords Go.Proofs.YtopbjginpmdebaaDoorW.PrintLast Go.Proofs.YtopbjginpmdebaaDoorW.PrintMore
set_option linter.unusedVariables false
set_option linter.unusedSimpArgs false
theorem ints_C {W : World} {b : Nat} {xs : List Int} {cs : Array Value} (h : W.heap[b]? = some (.cells cs 3 (0, 0))) (hl : xs.length ≤ 1073741824) (hcs : ∀ j, j < xs.length → cs[j]? = some (.int .i64 (xs.getD j 0))) : (Kd.int .i64).C W (some ⟨b, 0, none⟩) xs.length xs := by
  refine ⟨rfl, by omega, fun _ => ⟨_, rfl, fun j p hp => ⟨[.int .i64 p], rfl, rfl, fun i u hi => ?_⟩⟩⟩
  have hj : j < xs.length := by
    rcases Nat.lt_or_ge j xs.length with h1 | h1
    · exact h1
    · rw [List.getElem?_eq_none h1] at hp; cases hp
  have hi0 : i = 0 := by
    rcases i with _ | i
    · rfl
    · simp at hi
  subst hi0
  have hu : u = .int .i64 p := by simpa using hi.symm
  subst hu
  have h1 := blk_cell h j
  rw [hcs j hj] at h1
  rw [List.getD_eq_getElem?_getD, hp] at h1
  have e : (Addr.add ⟨b, 0, none⟩ (j * 1 + 0)) = ⟨b, j, none⟩ := by simp [Addr.add]; intro h; simp [h]
  show W.cell? (Addr.add ⟨b, 0, none⟩ (j * 1 + 0)) = _
  rw [e, h1]; rfl
theorem nodes_C {W : World} {b : Nat} {xs : List Nd} {cs : Array Value} (h : W.heap[b]? = some (.cells cs 60 (0, 0))) (hl : xs.length ≤ 1073741824)
    (hx : ∀ j p, xs[j]? = some p → ∃ A c, cs[j * 3]? = some (.int .i64 p.f0) ∧ cs[j * 3 + 1]? = some (.int .i64 p.f1) ∧ cs[j * 3 + 2]? = some (.slice A p.f2.length c) ∧ p.f2.length ≤ c ∧ (Kd.int .i64).C W A p.f2.length p.f2) : k60.C W (some ⟨b, 0, none⟩) xs.length xs := by
  refine ⟨rfl, by omega, fun _ => ⟨_, rfl, fun j p hp => ?_⟩⟩
  obtain ⟨A, c, c0, c1, c2, l2, g2⟩ := hx j p hp
  refine ⟨_, rfl, k60_mk W p l2 g2, fun i u hi => ?_⟩
  have h1 := blk_cell h (j * 3 + i)
  have e : ∀ n, (Addr.add ⟨b, 0, none⟩ n) = ⟨b, n, none⟩ := fun n => by simp [Addr.add]; intro h; simp [h]
  show W.cell? (Addr.add ⟨b, 0, none⟩ (j * 3 + i)) = some u
  rw [e, h1]
  rcases i with _ | _ | _ | i
  · rw [← hi]; exact c0
  · rw [← hi]; exact c1
  · rw [← hi]; exact c2
  · simp at hi
/-- awake's list -/
def awL : List Nd := [⟨-1, 0, []⟩, ⟨-1, 1, []⟩, ⟨2, 0, [1, 1]⟩, ⟨0, 0, [0, 2]⟩]
def awM : List Nd := [⟨-1, 0, []⟩, ⟨-1, 1, []⟩, ⟨0, 0, [0, 1]⟩]
theorem aw_red : redE awL = 0 := by kernel_rfl
theorem aw_redL : redL awL = awM := by kernel_rfl
theorem aw_ev : evR awM [1] = (1, 0) := by kernel_rfl
theorem aw_C {W : World} {b k1 k2 : Nat} (h : W.heap[b]? = some (.cells #[.int .i64 (-1), .int .i64 0, .slice none 0 0, .int .i64 (-1), .int .i64 1, .slice none 0 0, .int .i64 2, .int .i64 0, .slice (some ⟨k1, 0, none⟩) 2 2, .int .i64 0, .int .i64 0, .slice (some ⟨k2, 0, none⟩) 2 2] 60 (0, 0)))
    (h1 : W.heap[k1]? = some (.cells #[.int .i64 1, .int .i64 1] 3 (0, 0))) (h2 : W.heap[k2]? = some (.cells #[.int .i64 0, .int .i64 2] 3 (0, 0))) : k60.C W (some ⟨b, 0, none⟩) 4 awL := by
  refine nodes_C (xs := awL) h (by decide) fun j p hp => ?_
  rcases j with _ | _ | _ | _ | j
  · obtain rfl : (⟨-1, 0, []⟩ : Nd) = p := by simpa [awL] using hp
    exact ⟨none, 0, rfl, rfl, rfl, Nat.le_refl _, Kd.C_nil _ _⟩
  · obtain rfl : (⟨-1, 1, []⟩ : Nd) = p := by simpa [awL] using hp
    exact ⟨none, 0, rfl, rfl, rfl, Nat.le_refl _, Kd.C_nil _ _⟩
  · obtain rfl : (⟨2, 0, [1, 1]⟩ : Nd) = p := by simpa [awL] using hp
    exact ⟨_, 2, rfl, rfl, rfl, Nat.le_refl _, ints_C h1 (by decide) (fun j hj => by rcases j with _ | _ | j; rfl; rfl; simp at hj; omega)⟩
  · obtain rfl : (⟨0, 0, [0, 2]⟩ : Nd) = p := by simpa [awL] using hp
    exact ⟨_, 2, rfl, rfl, rfl, Nat.le_refl _, ints_C h2 (by decide) (fun j hj => by rcases j with _ | _ | j; rfl; rfl; simp at hj; omega)⟩
  · simp [awL] at hp
theorem awL_I : ∀ n ∈ awL, I64 n.f0 ∧ I64 n.f1 ∧ n.f2.length ≤ 1073741824 := by
  intro n hn
  simp only [awL, List.mem_cons, List.not_mem_nil, or_false] at hn
  rcases hn with rfl | rfl | rfl | rfl <;> exact ⟨⟨by decide, by decide⟩, ⟨by decide, by decide⟩, by decide⟩
theorem awM_I : ∀ n ∈ awM, I64 n.f0 ∧ I64 n.f1 ∧ n.f2.length ≤ 1073741824 := by
  intro n hn
  simp only [awM, List.mem_cons, List.not_mem_nil, or_false] at hn
  rcases hn with rfl | rfl | rfl <;> exact ⟨⟨by decide, by decide⟩, ⟨by decide, by decide⟩, by decide⟩
set_option maxHeartbeats 8000000 in
set_option maxRecDepth 100000 in
theorem awake_calls (w : World) (htab : PowTab w.heap.size w) : Calls Tryd.prog 17 #[] w fun e w' => e = .returned (.bool true) ∧ Below w.heap.size w w' := by
  obtain ⟨W1, hW1⟩ : ∃ W1, W1 = ((w.alloc (Obj.cells #[.int .i64 1, .int .i64 1] 3)).alloc (Obj.cells #[.int .i64 0, .int .i64 2] 3)).alloc (Obj.cells #[.int .i64 (-1), .int .i64 0, .slice none 0 0, .int .i64 (-1), .int .i64 1, .slice none 0 0, .int .i64 2, .int .i64 0, .slice (some ⟨w.heap.size, 0, none⟩) 2 2, .int .i64 0, .int .i64 0, .slice (some ⟨w.heap.size + 1, 0, none⟩) 2 2] 60) := ⟨_, rfl⟩
  have hb1 : Below w.heap.size w W1 := by rw [hW1]; exact (((Below.refl _ w).alloc (Nat.le_refl _) _).alloc (by simp) _).alloc (by simp; omega) _
  have hC1 : k60.C W1 (some ⟨w.heap.size + 1 + 1, 0, none⟩) 4 awL := by
    rw [hW1]
    refine aw_C (k1 := w.heap.size) (k2 := w.heap.size + 1) ?_ ?_ ?_
    · have := heap_alloc_new ((w.alloc (Obj.cells #[.int .i64 1, .int .i64 1] 3)).alloc (Obj.cells #[.int .i64 0, .int .i64 2] 3)) (Obj.cells #[.int .i64 (-1), .int .i64 0, .slice none 0 0, .int .i64 (-1), .int .i64 1, .slice none 0 0, .int .i64 2, .int .i64 0, .slice (some ⟨w.heap.size, 0, none⟩) 2 2, .int .i64 0, .int .i64 0, .slice (some ⟨w.heap.size + 1, 0, none⟩) 2 2] 60)
      simpa using this
    · exact (Below.heap_alloc _ _ _ (by simp; omega)).trans ((Below.heap_alloc _ _ _ (by simp)).trans (heap_alloc_new w _))
    · refine (Below.heap_alloc _ _ _ (by simp)).trans ?_
      have := heap_alloc_new (w.alloc (Obj.cells #[.int .i64 1, .int .i64 1] 3)) (Obj.cells #[.int .i64 0, .int .i64 2] 3)
      simpa using this
  have hA := reduce_calls awL _ 4 W1 hC1 (by decide) awL_I (by decide) (PowTab.up (htab.on hb1) hb1.size)
  rw [aw_red, aw_redL] at hA
  have hs1 := hb1.size
  have HB1 := Lib.hid hb1
  have HTAB := Lib.hid htab
  rw [hW1] at hA
  have HW1 := Lib.hid hW1
  clear hb1 hC1 hW1 htab
  go_enter Tryd.func17, Tryd.ntmps17
  go_wp2_with (first
    | (go_at_call 19; refine hA.mono ?_; clear hA; rintro e w2 ⟨hb2, vo, rfl, hRo⟩; obtain ⟨A5, c5, rfl, hc5, hC5⟩ := Kd.R_reads hRo; rw [← HW1.out] at hb2; have HB2 := Lib.hid (HB1.out.trans (hb2.mono hs1)); have HC5 := Lib.hid hC5; have HCC := Lib.hid hc5; have hl5 : awM.length = 3 := rfl; clear hb2 hC5 hRo)
    | (go_at_call 26; have hb3 := ((Below.refl w2.heap.size w2).alloc (Nat.le_refl _) (.cells #[.slice A5 3 c5] 31)).alloc (by simp) (.cells #[.int .i64 1] 3); have hO := ints_C (W := (w2.alloc (Obj.cells #[.slice A5 3 c5] 31)).alloc (Obj.cells #[.int .i64 1] 3)) (b := w2.heap.size + 1) (xs := [1]) (cs := #[.int .i64 1]) (by have := heap_alloc_new (w2.alloc (Obj.cells #[.slice A5 3 c5] 31)) (Obj.cells #[.int .i64 1] 3); simpa using this) (by decide) (fun j hj => by rcases j with _ | j; rfl; simp at hj); have hA2 := eval_calls awM [1] A5 (some ⟨w2.heap.size + 1, 0, none⟩) c5 1 _ (Kd.C_below HC5.out hb3) HCC.out awM_I (by decide) (PowTab.up (HTAB.out.on (HB2.out.trans (hb3.mono HB2.out.size))) (by have := HB2.out.size; have := hb3.size; omega)) hO (by decide); rw [aw_ev] at hA2; refine hA2.mono ?_; clear hA2 hO; rintro e w3 ⟨rfl, hb4⟩; have hbx := (hb4.block w2.heap.size (by simp; omega)).trans ((Below.heap_alloc _ _ _ (by simp)).trans (heap_alloc_new w2 (.cells #[.slice A5 3 c5] 31))); have b0 := blk_cell hbx 0; have HBX := Lib.hid hbx; have HB4 := Lib.hid (HB2.out.trans ((hb3.trans (hb4.mono (by simp; omega))).mono HB2.out.size)); clear hbx hb3 hb4))
  go_ret
  exact ⟨rfl, HB4.out⟩
end Go.Proofs.YtopbjginpmdebaaDoor.K
-- what the references' SameInts, SameNode, Same say
namespace Go.Proofs.YtopbjginpmdebaaDoor.K
open Go.RowKit Go.Maps Go.Proofs.YtopbjginpmdebaaDoorW.PrintWords Go.Proofs.YtopbjginpmdebaaDoorW.PrintLast Go.Proofs.YtopbjginpmdebaaDoorW.PrintMore
set_option linter.unusedVariables false
set_option linter.unusedSimpArgs false
theorem w64_succ {j : Nat} (h : j < 4611686018427387904) : wrap64 ((j : Int) + 1) = ((j + 1 : Nat) : Int) := by unfold wrap64; omega
theorem rd_get {xs : List Int} {j : Nat} (h : j < xs.length) : rd xs (j : Int) = xs[j] := by unfold rd; rw [Int.toNat_natCast, List.getD_eq_getElem?_getD, List.getElem?_eq_getElem h]; rfl
theorem sameInts_l (xs ys : List Int) (hl : xs.length = ys.length) (hb : xs.length < 4611686018427387904) : ∀ (m j k : Nat), xs.length - j ≤ m → j ≤ xs.length → m < k → exactpplref07_SameInts.l0 k xs ys (j : Int) = some (decide (xs.drop j = ys.drop j)) := by
  intro m
  induction m with
  | zero =>
    intro j k h1 h2 h3
    obtain ⟨f, rfl⟩ : ∃ f, k = f + 1 := ⟨k - 1, by omega⟩
    have e : j = xs.length := by omega
    simp only [exactpplref07_SameInts.l0]
    rw [if_neg (by omega), List.drop_of_length_le (by omega), List.drop_of_length_le (by omega)]; simp
  | succ m ih =>
    intro j k h1 h2 h3
    obtain ⟨f, rfl⟩ : ∃ f, k = f + 1 := ⟨k - 1, by omega⟩
    by_cases hj : j < xs.length
    · have hj2 : j < ys.length := by omega
      simp only [exactpplref07_SameInts.l0]
      rw [if_pos (by omega), if_pos (by omega), if_pos (by omega), rd_get hj, rd_get hj2, w64_succ (by omega), ih (j + 1) f (by omega) (by omega) (by omega)]
      have hd : (xs.drop j = ys.drop j) ↔ (xs[j] = ys[j] ∧ xs.drop (j + 1) = ys.drop (j + 1)) := by rw [List.drop_eq_getElem_cons hj, List.drop_eq_getElem_cons hj2, List.cons.injEq]
      by_cases he : xs[j] = ys[j]
      · rw [if_pos he, decide_eq_decide.2 (hd.trans ⟨fun h => h.2, fun h => ⟨he, h⟩⟩)]
      · rw [if_neg he, decide_eq_false (fun h => he (hd.1 h).1)]
    · have e : j = xs.length := by omega
      simp only [exactpplref07_SameInts.l0]
      rw [if_neg (by omega), List.drop_of_length_le (by omega), List.drop_of_length_le (by omega)]; simp
theorem sameInts_f (xs ys : List Int) (hb : xs.length < 4611686018427387904) (k : Nat) (hk : xs.length < k) : exactpplref07_SameInts.f k xs ys = some (decide (xs = ys)) := by
  unfold exactpplref07_SameInts.f
  by_cases hl : xs.length = ys.length
  · rw [if_pos (by omega)]
    have := sameInts_l xs ys hl hb xs.length 0 k (by omega) (by omega) hk
    simpa using this
  · rw [if_neg (by omega), decide_eq_false (fun e => hl (by rw [e]))]
theorem sameNode_f (n m : Nd) (hb : n.f2.length < 4611686018427387904) (k : Nat) (hk : n.f2.length < k) : exactpplref19_SameNode.f k n.f0 n.f1 n.f2 m.f0 m.f1 m.f2 = some (decide (n = m)) := by
  unfold exactpplref19_SameNode.f
  rw [sameInts_f _ _ hb k hk]
  by_cases h0 : n.f0 = m.f0
  · rw [if_pos h0]
    by_cases h1 : n.f1 = m.f1
    · rw [if_pos h1]
      by_cases h2 : n.f2 = m.f2
      · have := nd_ext h0 h1 h2; subst this; simp
      · have : ¬ n = m := fun e => h2 (by rw [e])
        simp [h2, this]
    · have : ¬ n = m := fun e => h1 (by rw [e])
      rw [if_neg h1]; simp [this]
  · have : ¬ n = m := fun e => h0 (by rw [e])
    rw [if_neg h0]; simp [this]
theorem same_l (xs ys : List Nd) (hl : xs.length = ys.length) (hb : xs.length < 4611686018427387904) (q : Nat) (hq : q < 4611686018427387904) (hx : ∀ n ∈ xs, n.f2.length ≤ q) : ∀ (m j k : Nat), xs.length - j ≤ m → j ≤ xs.length → m + q + 1 < k → exactpplref19_Same.l0 k (j : Int) xs ys = some (decide (xs.drop j = ys.drop j)) := by
  intro m
  induction m with
  | zero =>
    intro j k h1 h2 h3
    obtain ⟨f, rfl⟩ : ∃ f, k = f + 1 := ⟨k - 1, by omega⟩
    have e : j = xs.length := by omega
    simp only [exactpplref19_Same.l0]
    rw [if_neg (by omega), List.drop_of_length_le (by omega), List.drop_of_length_le (by omega)]; simp
  | succ m ih =>
    intro j k h1 h2 h3
    obtain ⟨f, rfl⟩ : ∃ f, k = f + 1 := ⟨k - 1, by omega⟩
    by_cases hj : j < xs.length
    · have hj2 : j < ys.length := by omega
      have e1 : rd_T60 xs (j : Int) = xs[j] := (rd_nth xs j).trans (nth_lt hj)
      have e2 : rd_T60 ys (j : Int) = ys[j] := (rd_nth ys j).trans (nth_lt hj2)
      have hm := hx xs[j] (List.getElem_mem hj)
      simp only [exactpplref19_Same.l0]
      rw [if_pos (by omega), if_pos (by omega), if_pos (by omega), e1, e2, sameNode_f xs[j] ys[j] (by omega) f (by omega), Option.bind_some, w64_succ (by omega), ih (j + 1) f (by omega) (by omega) (by omega)]
      have hd : (xs.drop j = ys.drop j) ↔ (xs[j] = ys[j] ∧ xs.drop (j + 1) = ys.drop (j + 1)) := by rw [List.drop_eq_getElem_cons hj, List.drop_eq_getElem_cons hj2, List.cons.injEq]
      by_cases he : xs[j] = ys[j]
      · rw [decide_eq_true he, if_pos rfl, decide_eq_decide.2 (hd.trans ⟨fun h => h.2, fun h => ⟨he, h⟩⟩)]
      · rw [decide_eq_false he, if_neg (by decide), decide_eq_false (fun h => he (hd.1 h).1)]
    · have e : j = xs.length := by omega
      simp only [exactpplref19_Same.l0]
      rw [if_neg (by omega), List.drop_of_length_le (by omega), List.drop_of_length_le (by omega)]; simp
theorem same_f (xs ys : List Nd) (hb : xs.length < 4611686018427387904) (q : Nat) (hq : q < 4611686018427387904) (hx : ∀ n ∈ xs, n.f2.length ≤ q) (k : Nat) (hk : xs.length + q + 1 < k) : exactpplref19_Same.f k xs ys = some (decide (xs = ys)) := by
  unfold exactpplref19_Same.f
  by_cases hl : xs.length = ys.length
  · rw [if_pos (by omega)]
    have := same_l xs ys hl hb q hq hx xs.length 0 k (by omega) (by omega) hk
    simpa using this
  · rw [if_neg (by omega), decide_eq_false (fun e => hl (by rw [e]))]
/-- Same, as it is called -/
theorem sameD_calls (xs ys : List Nd) (A B : Option Addr) (c d : Nat) (w : World) (hA : k60.C w A xs.length xs) (hc : xs.length ≤ c) (hB : k60.C w B ys.length ys) (hd : ys.length ≤ d) (hb : xs.length < 4611686018427387904) (hx : ∀ n ∈ xs, n.f2.length ≤ 1073741824) :
    Calls Tryd.prog 20 #[.agg #[.slice A xs.length c], .agg #[.slice B ys.length d]] w fun e w' => e = .returned (.bool (decide (xs = ys))) ∧ Below w.heap.size w w' :=
  exactpplref19_Same.calls (xs.length + 1073741824 + 2) A c xs B d ys _ w hA hc hB hd (same_f xs ys hb 1073741824 (by decide) hx _ (by omega))
end Go.Proofs.YtopbjginpmdebaaDoor.K
-- exactpplref19.Place
namespace Go.Proofs.YtopbjginpmdebaaDoor.K
open Go.RowKit Go.Maps Go.Proofs.YtopbjginpmdebaaDoorW.PrintWords Go.Proofs.YtopbjginpmdebaaDoorW.PrintLast Go.Proofs.YtopbjginpmdebaaDoorW.PrintMore
set_option linter.unusedVariables false
set_option linter.unusedSimpArgs false
/-- the reference's Place -/
def plR (u : List Nd) (n : Nd) : List Nd × Int := if n.f0 ≠ -1 ∧ sameK n.f2 = true then (u, n.f2.headD 0) else place0 u n
/-- what is the call's own, or was the row's -/
def OwnOr (w : World) (v vu : Value) : Prop := v.ownBlock = vu.ownBlock ∨ ∃ b, v.ownBlock = some b ∧ w.heap.size ≤ b
/-- how Place ends -/
def PlPost (base : Nat) (ok : Nat → Prop) (vu : Value) (w : World) (r : List Nd × Int) (e : Ending) (w' : World) : Prop := ∃ v', e = .returned (.tuple #[v', .int .i64 r.2]) ∧ k60.R 60 w' base ok v' r.1 ∧ w.grownBy w' vu.ownBlock ∧ OwnOr w v' vu
theorem grown_below' {w W : World} {x : Option Nat} (hb : Below w.heap.size w W) : w.grownBy W x := ⟨hb.os, hb.tape, hb.output, hb.size, fun j hj _ => hb.block j hj⟩
theorem place0_at {u : List Nd} {n : Nd} {k : Nat} (hk : k < u.length) (he : nth u (k : Int) = n) (hall : ∀ j : Nat, j < k → nth u (j : Int) ≠ n) : place0 u n = (u, (k : Int)) := by
  have hm : n ∈ u := by rw [← he, nth_lt hk]; exact List.getElem_mem hk
  unfold place0
  rw [if_pos hm]
  have h1 := List.idxOf_lt_length_of_mem hm
  have h2 : nth u ((u.idxOf n : Nat) : Int) = n := by rw [nth_lt h1]; simp
  have h3 : u.idxOf n ≤ k := by
    rcases Nat.lt_or_ge k (u.idxOf n) with h | h
    · have := List.not_of_lt_findIdx (p := (· == n)) (xs := u) (by unfold List.idxOf at h; exact h)
      rw [nth_lt hk] at he
      simp [he] at this
    · exact h
  have h4 : ¬ u.idxOf n < k := fun h => hall _ h h2
  have h5 : u.idxOf n = k := by omega
  rw [h5]
theorem place0_out {u : List Nd} {n : Nd} (hall : ∀ j : Nat, j < u.length → nth u (j : Int) ≠ n) : place0 u n = (u ++ [n], (u.length : Int)) := by
  unfold place0
  rw [if_neg]
  intro hm
  obtain ⟨i, hi, e⟩ := List.getElem_of_mem hm
  exact hall i hi (by rw [nth_lt hi]; exact e)
set_option maxHeartbeats 16000000 in
set_option maxRecDepth 100000 in
theorem place_calls (base : Nat) (ok okn : Nat → Prop) (u : List Nd) (n : Nd) (Au An : Option Addr) (cu cn_ : Nat) (w : World) (hbs : base ≤ w.heap.size)
    (hR : k60.R 60 w base ok (.slice Au u.length cu) u) (hn : (Kd.int .i64).R 3 w base okn (.slice An n.f2.length cn_) n.f2) (hokn : ∀ j, okn j → ok j ∧ some j ≠ (Value.slice Au u.length cu).ownBlock) (hne : n.f0 ≠ -1 → n.f2 ≠ []) (hlen : n.f2.length ≤ 1073741824)
    (hul : (u.length + 1) * 40 ≤ 140737488355328) (hkl : ∀ x ∈ u, x.f2.length ≤ 1073741824) (hnew : ∀ j, w.heap.size ≤ j → ok j) :
    Calls Tryd.prog 72 #[.slice Au u.length cu, .agg #[.int .i64 n.f0, .int .i64 n.f1, .slice An n.f2.length cn_]] w (PlPost base ok (.slice Au u.length cu) w (plR u n)) := by
  obtain ⟨f0, f1, ks⟩ := n
  simp only at hn hne hlen ⊢
  have hCn := (Kd.R_reads' hn).2.2
  have hcn := (Kd.R_reads' hn).2.1
  have hCu := (Kd.R_reads' hR).2.2
  have hcu := (Kd.R_reads' hR).2.1
  have hb0 : Below w.heap.size w (w.alloc (.cells #[.int .i64 f0, .int .i64 f1, .slice An ks.length cn_] 60)) := (Below.refl _ w).alloc (Nat.le_refl _) _
  have hbx0 := heap_alloc_new w (.cells #[.int .i64 f0, .int .i64 f1, .slice An ks.length cn_] 60)
  have hI := exactpplref19_IsBranch.calls f0 f1 An cn_ ks _ _ (Kd.C_below hCn hb0) hcn rfl
  have HR := Lib.hid hR
  have HN := Lib.hid hn
  have HOKN := Lib.hid hokn
  have HNEW := Lib.hid hnew
  have HCN := Lib.hid hCn
  have HCU := Lib.hid hCu
  have HKL := Lib.hid hkl
  have HB0 := Lib.hid hb0
  have HBX0 := Lib.hid hbx0
  obtain ⟨N, hN⟩ : ∃ N, N = u.length := ⟨_, rfl⟩
  have HNN := Lib.hid hN
  rw [← hN] at hul hcu ⊢
  clear hR hn hokn hnew hCn hCu hkl hb0 hbx0 hN
  by_cases hbr : f0 = -1
  · subst hbr
    have hpl : plR u ⟨-1, f1, ks⟩ = place0 u ⟨-1, f1, ks⟩ := by unfold plR; rw [if_neg (by simp)]
    have HPL := Lib.hid hpl
    have hnb : ((-1 : Int) != -1) = false := by decide
    rw [hnb] at hI
    clear hpl hnb hne
    go_enter Tryd.func72, Tryd.ntmps72
    go_wp2_with (go_at_call 55; refine hI.mono ?_; clear hI; rintro e w1 ⟨rfl, hb1⟩; have HB1 := Lib.hid (HB0.out.trans (hb1.mono (by simp))); have hbx1 := (hb1.block w.heap.size (by simp)).trans HBX0.out; have hlt1 := blk_lt hbx1; have c0 := (blk_cell hbx1 0); have c1 := (blk_cell hbx1 1); have c2 := (blk_cell hbx1 2); have HBX1 := Lib.hid hbx1; clear hb1 hbx1)
    go_loopw [8] (fun i wr => ∃ k : Nat, i = .int .i64 k ∧ k ≤ N ∧ Below w1.heap.size w1 wr ∧ Aside0 (∀ j : Nat, j < k → nth u (j : Int) ≠ ⟨-1, f1, ks⟩)) (fun i _ => N - (intOf i).toNat)
    case atStart => exact ⟨0, rfl, Nat.zero_le _, Below.refl _ _, ⟨fun j hj => absurd hj (Nat.not_lt_zero _)⟩⟩
    case round =>
      obtain ⟨k, rfl, hk, hB, hall⟩ := hrel
      have HALL := Lib.hid hall.out
      have hsz := hB.size
      have HB := Lib.hid hB
      have hbx2 := (hB.block _ (blk_lt HBX1.out)).trans HBX1.out
      have d0 : wr.cell? ⟨w.heap.size, 0, none⟩ = some (.int .i64 (-1)) := (blk_cell hbx2 0).trans rfl
      have d1 : wr.cell? ⟨w.heap.size, 1, none⟩ = some (.int .i64 f1) := (blk_cell hbx2 1).trans rfl
      have d2 : wr.cell? ⟨w.heap.size, 2, none⟩ = some (.slice An ks.length cn_) := (blk_cell hbx2 2).trans rfl
      have hlt2 := blk_lt hbx2
      have HBX2 := Lib.hid hbx2
      have HBW := Lib.hid (HB1.out.trans (hB.mono (HB1.out.size)))
      clear hall hbx2 hB
      by_cases hlt : k < N
      · have hku : k < u.length := by have := HNN.out; omega
        obtain ⟨ad, A2, c2', rfl, g0, g1, g2, l2, gC⟩ := at_T60 (Kd.C_below HCU.out HBW.out) (k : Int) (by omega) (by omega)
        rw [Int.toNat_natCast] at g0 g1 g2
        rw [rd_nth] at g0 g1 g2 l2 gC
        obtain ⟨m, hm⟩ : ∃ m, m = nth u (k : Int) := ⟨_, rfl⟩
        rw [← hm] at g0 g1 g2 l2 gC
        have hml : m.f2.length ≤ 1073741824 := HKL.out m (by rw [hm, nth_lt hku]; exact List.getElem_mem hku)
        have hkb : k < 4000000000000 := by omega
        have hki : (k : Int) < (N : Int) := by omega
        have hS := exactpplref19_SameNode.calls (m.f2.length + 1) m.f0 m.f1 A2 c2' m.f2 (-1) f1 An cn_ ks _ wr.drew (Kd.C_drew gC) l2 (Kd.C_drew (Kd.C_below HCN.out HBW.out)) hcn (sameNode_f m ⟨-1, f1, ks⟩ (by omega) _ (by omega))
        have HM := Lib.hid hm
        clear hm gC
        by_cases he : m = ⟨-1, f1, ks⟩
        · rw [decide_eq_true he] at hS
          have HE := Lib.hid he
          clear he
          go_wp2
          go_still_tail 5, (by kernel_rfl)
          change wpList _ _ _ _ _ wr.drew
          go_wp2_with (go_at_call 49; refine hS.mono ?_; clear hS; rintro e w3 ⟨rfl, hb3⟩; have HB3 := Lib.hid ((HBW.out.trans ((Below.refl _ wr).drew.mono HBW.out.size)).trans (hb3.mono HBW.out.size)); clear hb3)
          refine bodyPost_ret (v := .tuple #[.slice (some ad) N cu, .int .i64 k]) (by simp [results, Tryd.f72, go_sem]) rfl ⟨.slice (some ad) N cu, ?_, ?_, grown_below' HB3.out, .inl (by rw [HNN.out])⟩
          · rw [HPL.out, place0_at hku (HM.out.symm.trans HE.out) HALL.out]
          · rw [HPL.out, place0_at hku (HM.out.symm.trans HE.out) HALL.out, HNN.out]
            exact Kd.R_below HR.out HB3.out
        · rw [decide_eq_false he] at hS
          have HE := Lib.hid he
          clear he
          go_wp2
          go_still_tail 5, (by kernel_rfl)
          change wpList _ _ _ _ _ wr.drew
          go_wp2_with (go_at_call 49; refine hS.mono ?_; clear hS; rintro e w3 ⟨rfl, hb3⟩; have HB3 := Lib.hid (HB.out.drew.trans (hb3.mono hsz)); clear hb3)
          go_roundw
          case rel => exact ⟨k + 1, by go_num, hlt, HB3.out, ⟨fun j hj => by
            rcases Nat.lt_or_ge j k with h | h
            · exact HALL.out j h
            · obtain rfl : j = k := by omega
              rw [← HM.out]; exact HE.out⟩⟩
          case measure => simp [intOf]; omega
      · have hke : k = N := by omega
        have hpo := place0_out (u := u) (n := ⟨-1, f1, ks⟩) (fun j hj => HALL.out j (by have := HNN.out; omega))
        have HPO := Lib.hid hpo
        have hN' := HNN.out
        have hNb : N < 4000000000000 := by omega
        clear hpo hke hk hN'
        go_wp2_with (at_builtin; refine Kd.R_append k60 (w0 := w) (W := wr) base rfl (.tmp 51) (.tmp 53) 24 60 (.agg #[(.int .i64 0), (.int .i64 0), (.slice none 0 0)]) 40 rfl Tryd.underlying24 info60 rfl (by decide) (by decide) (.slice Au N cu) u ⟨-1, f1, ks⟩ [.int .i64 (-1), .int .i64 f1, .slice An ks.length cn_] ok (fun j => okn j ∧ j < w.heap.size) rfl rfl ?hM ?hO ?hF ?hU (HBW.out.mono hbs) ?hS ?hL ?_)
        case hM => exact k60_mkM _ _ _ ⟨-1, f1, ks⟩ (Kd.R_mono (Kd.R_below (Kd.R_bound HN.out) HBW.out) (fun j hj => ⟨hj.1, hj.2.2.1⟩))
        case hO => intro j hj; have := HOKN.out j hj.1; rw [← HNN.out] at this; exact this
        case hF => intro j hj; exact HNEW.out j (Nat.le_trans HBW.out.size hj)
        case hU => have := Kd.R_below HR.out HBW.out; rw [← HNN.out] at this; exact this
        case hS => exact Nat.le_trans hbs HBW.out.size
        case hL => have := HNN.out; omega
        intro v5 w5 hR5 hB5 hg5 hat5
        have HAT5 := Lib.hid (show OwnOr w v5 (.slice Au N cu) from hat5.elim (fun h => .inl h) (fun ⟨b, h1, h2⟩ => .inr ⟨b, h1, Nat.le_trans HBW.out.size h2⟩))
        clear hat5
        have HR5 := Lib.hid hR5
        have HG5 := Lib.hid hg5
        clear hR5 hB5 hg5
        go_wp2
        refine bodyPost_ret (v := .tuple #[v5, .int .i64 N]) (by simp [results, Tryd.f72, go_sem]) rfl ⟨v5, ?_, ?_, ?_, HAT5.out⟩
        · rw [HPL.out, HPO.out, ← HNN.out]
        · rw [HPL.out, HPO.out]; exact HR5.out
        · exact World.grownBy.trans (grown_below' HBW.out) HG5.out
  · have hnb : (f0 != -1) = true := by simp [hbr]
    rw [hnb] at hI
    have hne' := hne hbr
    obtain ⟨kd, rfl, hkc⟩ := reads_at HCN.out hne'
    have HKC := Lib.hid hkc
    obtain ⟨x0, hx0⟩ : ∃ x0, x0 = ks.getD 0 0 := ⟨_, rfl⟩
    have hhd : ks.headD 0 = x0 := by rw [hx0]; cases ks <;> rfl
    obtain ⟨L, hL⟩ : ∃ L, L = ks.length := ⟨_, rfl⟩
    have hLp : 0 < L := by rw [hL]; exact List.length_pos_iff.2 hne'
    have HX0 := Lib.hid hx0
    have HHD := Lib.hid hhd
    have HL := Lib.hid hL
    have HBR := Lib.hid hbr
    rw [← hL] at hlen
    clear hnb hne hkc hx0 hhd hL hbr
    go_enter Tryd.func72, Tryd.ntmps72
    go_wp2_with (go_at_call 55; refine hI.mono ?_; clear hI; rintro e w1 ⟨rfl, hb1⟩; have HB1 := Lib.hid (HB0.out.trans (hb1.mono (by simp))); have hbx1 := (hb1.block w.heap.size (by simp)).trans HBX0.out; have hlt1 := blk_lt hbx1; have c0 := (blk_cell hbx1 0); have c1 := (blk_cell hbx1 1); have c2 := (blk_cell hbx1 2); have HBX1 := Lib.hid hbx1; clear hb1 hbx1)
    go_loopw [6, 7] (fun b i wr => ∃ (k : Nat) (bb : Bool), b = .bool bb ∧ i = .int .i64 k ∧ 1 ≤ k ∧ k ≤ L ∧ Below w1.heap.size w1 wr ∧ Aside0 (bb = true ↔ ∀ y ∈ ks.take k, y = x0)) (fun _ i _ => L - (intOf i).toNat)
    case atStart =>
      refine ⟨1, true, rfl, rfl, Nat.le_refl _, hLp, Below.refl _ _, ⟨fun _ y hy => ?_, fun _ => rfl⟩⟩
      have h0 : 0 < ks.length := by have := HL.out; omega
      rw [List.take_succ_eq_append_getElem h0] at hy
      rw [HX0.out, List.getD_eq_getElem?_getD, List.getElem?_eq_getElem h0]
      simpa using hy
    case round =>
      obtain ⟨k, bb, rfl, rfl, hk1, hk, hB, hall⟩ := hrel
      have HALL := Lib.hid hall.out
      have HB := Lib.hid hB
      have hsz := hB.size
      have hbx2 := (hB.block _ (blk_lt HBX1.out)).trans HBX1.out
      have d2 : wr.cell? ⟨w.heap.size, 2, none⟩ = some (.slice (some kd) L cn_) := by rw [HL.out]; exact (blk_cell hbx2 2).trans rfl
      have HBX2 := Lib.hid hbx2
      have HBW := Lib.hid (HB1.out.trans (hB.mono (HB1.out.size)))
      have e0 := pw_cell_below HBW.out (HKC.out 0 (by have := HL.out; omega))
      rw [Addr.add_zero', ← HX0.out] at e0
      clear hall hbx2 hB
      have hkb : k < 2000000000 := by omega
      by_cases hlt : k < L
      · have ek := pw_cell_below HBW.out (HKC.out k (by have := HL.out; omega))
        obtain ⟨y, hy⟩ : ∃ y, y = ks.getD k 0 := ⟨_, rfl⟩
        rw [← hy] at ek
        have HY := Lib.hid hy
        have hki : (k : Int) < (L : Int) := by omega
        clear hy
        have hsnoc : (∀ z ∈ ks.take (k + 1), z = x0) ↔ (∀ z ∈ ks.take k, z = x0) ∧ y = x0 := by
          have hk' : k < ks.length := by have := HL.out; omega
          have hyk : ks[k] = y := by rw [HY.out, List.getD_eq_getElem?_getD, List.getElem?_eq_getElem hk']; rfl
          rw [List.take_succ_eq_append_getElem hk', hyk]
          constructor
          · intro h; exact ⟨fun z hz => h z (List.mem_append_left _ hz), h y (by simp)⟩
          · rintro ⟨h1, h2⟩ z hz
            rcases List.mem_append.1 hz with h | h
            · exact h1 z h
            · rw [List.mem_singleton.1 h]; exact h2
        have HSN := Lib.hid hsnoc
        clear hsnoc
        cases bb with
        | false =>
          go_wp2
          go_quiet (fail)
          go_wp2
          go_roundw
          case rel => exact ⟨k + 1, false, rfl, by go_num, by omega, hlt, below_drew2 HB.out _, ⟨Iff.intro (fun h => absurd h (by decide)) (fun h => by have := HALL.out.2 (HSN.out.1 h).1; simp at this)⟩⟩
          case measure => simp [intOf]; omega
        | true =>
          by_cases hyx : y = x0
          · subst hyx
            go_wp2
            go_quiet (fail)
            go_wp2
            go_roundw
            case rel => exact ⟨k + 1, true, by simp, by go_num, by omega, hlt, below_drew2 HB.out _, ⟨Iff.intro (fun _ => HSN.out.2 ⟨by first | exact HALL.out.1 rfl | exact HALL.out.1 trivial, by first | exact rfl | exact trivial⟩) (fun _ => rfl)⟩⟩
            case measure => simp [intOf]; omega
          · have hyb : (y == x0) = false := by simp [hyx]
            go_wp2
            go_quiet (fail)
            go_wp2
            go_roundw
            case rel => exact ⟨k + 1, false, by simp, by go_num, by omega, hlt, below_drew2 HB.out _, ⟨Iff.intro (fun h => absurd h (by decide)) (fun h => absurd (HSN.out.1 h).2 hyx)⟩⟩
            case measure => simp [intOf]; omega
      · have hke : k = L := by omega
        have hsame : bb = sameK ks := by
          have h1 : ks.take k = ks := List.take_of_length_le (by have := HL.out; omega)
          have h2 := HALL.out
          rw [h1] at h2
          have h3 : sameK ks = true ↔ ∀ y ∈ ks, y = x0 := by
            unfold sameK
            rw [List.all_eq_true, HHD.out]
            simp
          rw [Bool.eq_iff_iff, h2, h3]
        cases bb with
        | true =>
          have hpl : plR u ⟨f0, f1, ks⟩ = (u, x0) := by unfold plR; rw [if_pos ⟨HBR.out, hsame.symm⟩, HHD.out]
          have HPL := Lib.hid hpl
          clear hpl hsame hke
          go_wp2
          go_quiet (fail)
          go_wp2
          have hbF := below_drew2 HBW.out nq
          refine bodyPost_ret (v := .tuple #[.slice Au N cu, .int .i64 x0]) (by simp [results, Tryd.f72, go_sem]) rfl ⟨.slice Au N cu, ?_, ?_, grown_below' hbF, .inl (by rw [HNN.out])⟩
          · rw [HPL.out]
          · rw [HPL.out, HNN.out]; exact Kd.R_below HR.out hbF
        | false =>
          have hpl : plR u ⟨f0, f1, ks⟩ = place0 u ⟨f0, f1, ks⟩ := by unfold plR; rw [if_neg (fun h => by rw [← hsame] at h; exact absurd h.2 (by decide))]
          have HPL := Lib.hid hpl
          clear hpl hsame hke
          go_wp2
          clear e0 d2
          obtain ⟨ws, rfl⟩ : ∃ ws : World, ws = wr := ⟨_, rfl⟩
          go_loopw [8] (fun i wr => ∃ k : Nat, i = .int .i64 k ∧ k ≤ N ∧ Below ws.heap.size ws wr ∧ Aside0 (∀ j : Nat, j < k → nth u (j : Int) ≠ ⟨f0, f1, ks⟩)) (fun i _ => N - (intOf i).toNat)
          case atStart => exact ⟨0, rfl, Nat.zero_le _, Below.refl _ _, ⟨fun j hj => absurd hj (Nat.not_lt_zero _)⟩⟩
          case round =>
            obtain ⟨k, rfl, hk, hB, hall⟩ := hrel
            have HALL2 := Lib.hid hall.out
            have hsz := hB.size
            have HB := Lib.hid hB
            have hbx2 := (hB.block _ (blk_lt HBX2.out)).trans HBX2.out
            have d0 : wr.cell? ⟨w.heap.size, 0, none⟩ = some (.int .i64 f0) := (blk_cell hbx2 0).trans rfl
            have d1 : wr.cell? ⟨w.heap.size, 1, none⟩ = some (.int .i64 f1) := (blk_cell hbx2 1).trans rfl
            have d2 : wr.cell? ⟨w.heap.size, 2, none⟩ = some (.slice (some kd) ks.length cn_) := (blk_cell hbx2 2).trans rfl
            have hlt2 := blk_lt hbx2
            have HBX3 := Lib.hid hbx2
            have HBV := Lib.hid (HBW.out.trans (hB.mono (HBW.out.size)))
            clear hall hbx2 hB
            by_cases hlt : k < N
            · have hku : k < u.length := by have := HNN.out; omega
              obtain ⟨ad, A2, c2', rfl, g0, g1, g2, l2, gC⟩ := at_T60 (Kd.C_below HCU.out HBV.out) (k : Int) (by omega) (by omega)
              rw [Int.toNat_natCast] at g0 g1 g2
              rw [rd_nth] at g0 g1 g2 l2 gC
              obtain ⟨m, hm⟩ : ∃ m, m = nth u (k : Int) := ⟨_, rfl⟩
              rw [← hm] at g0 g1 g2 l2 gC
              have hml : m.f2.length ≤ 1073741824 := HKL.out m (by rw [hm, nth_lt hku]; exact List.getElem_mem hku)
              have hkb : k < 4000000000000 := by omega
              have hki : (k : Int) < (N : Int) := by omega
              have hS := exactpplref19_SameNode.calls (m.f2.length + 1) m.f0 m.f1 A2 c2' m.f2 f0 f1 (some kd) cn_ ks _ wr.drew (Kd.C_drew gC) l2 (Kd.C_drew (Kd.C_below HCN.out HBV.out)) hcn (sameNode_f m ⟨f0, f1, ks⟩ (by omega) _ (by omega))
              have HM := Lib.hid hm
              clear hm gC
              by_cases he : m = ⟨f0, f1, ks⟩
              · rw [decide_eq_true he] at hS
                have HE := Lib.hid he
                clear he
                go_wp2
                go_still_tail 5, (by kernel_rfl)
                change wpList _ _ _ _ _ wr.drew
                go_wp2_with (go_at_call 49; refine hS.mono ?_; clear hS; rintro e w3 ⟨rfl, hb3⟩; have HB3 := Lib.hid ((HBV.out.trans ((Below.refl _ wr).drew.mono HBV.out.size)).trans (hb3.mono HBV.out.size)); clear hb3)
                refine bodyPost_ret (v := .tuple #[.slice (some ad) N cu, .int .i64 k]) (by simp [results, Tryd.f72, go_sem]) rfl ⟨.slice (some ad) N cu, ?_, ?_, grown_below' HB3.out, .inl (by rw [HNN.out])⟩
                · rw [HPL.out, place0_at hku (HM.out.symm.trans HE.out) HALL2.out]
                · rw [HPL.out, place0_at hku (HM.out.symm.trans HE.out) HALL2.out, HNN.out]
                  exact Kd.R_below HR.out HB3.out
              · rw [decide_eq_false he] at hS
                have HE := Lib.hid he
                clear he
                go_wp2
                go_still_tail 5, (by kernel_rfl)
                change wpList _ _ _ _ _ wr.drew
                go_wp2_with (go_at_call 49; refine hS.mono ?_; clear hS; rintro e w3 ⟨rfl, hb3⟩; have HB3 := Lib.hid (HB.out.drew.trans (hb3.mono hsz)); clear hb3)
                go_roundw
                case rel => exact ⟨k + 1, by go_num, hlt, HB3.out, ⟨fun j hj => by
                  rcases Nat.lt_or_ge j k with h | h
                  · exact HALL2.out j h
                  · obtain rfl : j = k := by omega
                    rw [← HM.out]; exact HE.out⟩⟩
                case measure => simp [intOf]; omega
            · have hke : k = N := by omega
              have hpo := place0_out (u := u) (n := ⟨f0, f1, ks⟩) (fun j hj => HALL2.out j (by have := HNN.out; omega))
              have HPO := Lib.hid hpo
              have hN' := HNN.out
              have hNb : N < 4000000000000 := by omega
              clear hpo hke hk hN'
              go_wp2_with (at_builtin; refine Kd.R_append k60 (w0 := w) (W := wr) base rfl (.tmp 51) (.tmp 53) 24 60 (.agg #[(.int .i64 0), (.int .i64 0), (.slice none 0 0)]) 40 rfl Tryd.underlying24 info60 rfl (by decide) (by decide) (.slice Au N cu) u ⟨f0, f1, ks⟩ [.int .i64 f0, .int .i64 f1, .slice (some kd) ks.length cn_] ok (fun j => okn j ∧ j < w.heap.size) rfl rfl ?hM ?hO ?hF ?hU (HBV.out.mono hbs) ?hS ?hL ?_)
              case hM => exact k60_mkM _ _ _ ⟨f0, f1, ks⟩ (Kd.R_mono (Kd.R_below (Kd.R_bound HN.out) HBV.out) (fun j hj => ⟨hj.1, hj.2.2.1⟩))
              case hO => intro j hj; have := HOKN.out j hj.1; rw [← HNN.out] at this; exact this
              case hF => intro j hj; exact HNEW.out j (Nat.le_trans HBV.out.size hj)
              case hU => have := Kd.R_below HR.out HBV.out; rw [← HNN.out] at this; exact this
              case hS => exact Nat.le_trans hbs HBV.out.size
              case hL => have := HNN.out; omega
              intro v5 w5 hR5 hB5 hg5 hat5
              have HAT5 := Lib.hid (show OwnOr w v5 (.slice Au N cu) from hat5.elim (fun h => .inl h) (fun ⟨b, h1, h2⟩ => .inr ⟨b, h1, Nat.le_trans HBV.out.size h2⟩))
              clear hat5
              have HR5 := Lib.hid hR5
              have HG5 := Lib.hid hg5
              clear hR5 hB5 hg5
              go_wp2
              refine bodyPost_ret (v := .tuple #[v5, .int .i64 N]) (by simp [results, Tryd.f72, go_sem]) rfl ⟨v5, ?_, ?_, ?_, HAT5.out⟩
              · rw [HPL.out, HPO.out, ← HNN.out]
              · rw [HPL.out, HPO.out]; exact HR5.out
              · exact World.grownBy.trans (grown_below' HBV.out) HG5.out
end Go.Proofs.YtopbjginpmdebaaDoor.K
-- exactpplref19.Append
namespace Go.Proofs.YtopbjginpmdebaaDoor.K
open Go.RowKit Go.Maps Go.Proofs.YtopbjginpmdebaaDoorW.PrintWords Go.Proofs.YtopbjginpmdebaaDoorW.PrintLast Go.Proofs.YtopbjginpmdebaaDoorW.PrintMore
set_option linter.unusedVariables false
set_option linter.unusedSimpArgs false
/-- a node as a graph has it -/
def Frm (n : Nd) : Prop := (n.f0 = -1 ∧ n.f2 = []) ∨ (0 ≤ n.f0 ∧ n.f1 = 0 ∧ n.f2 ≠ [])
theorem plR_place1 {u : List Nd} {at_ : List Int} {n : Nd} (h : Frm n) : plR u ⟨n.f0, n.f1, n.f2.map (lk at_)⟩ = place1 u at_ n := by
  unfold plR place1
  rcases h with ⟨h0, h2⟩ | ⟨h0, h1, h2⟩
  · rw [if_neg (by simp [h0]), if_pos (by omega), h0, h2]; rfl
  · rw [if_neg (show ¬ n.f0 < 0 by omega), h1]
    unfold placeB
    by_cases hs : sameK (n.f2.map (lk at_)) = true
    · rw [if_pos ⟨by simp only; omega, hs⟩, if_pos hs]
    · rw [if_neg (fun e => hs e.2), if_neg hs]
theorem OwnOr.grown {w W W2 : World} {v vu : Value} (h : OwnOr w v vu) (hg : w.grownBy W vu.ownBlock) (hg2 : W.grownBy W2 v.ownBlock) : w.grownBy W2 vu.ownBlock :=
  ⟨hg2.os.trans hg.os, hg2.tape.trans hg.tape, hg2.output.trans hg.output, Nat.le_trans hg.size hg2.size, fun j hj hne => by
    refine (hg2.block j (Nat.lt_of_lt_of_le hj hg.size) (fun e => ?_)).trans (hg.block j hj hne)
    rcases h with h | ⟨b, h, hb⟩
    · exact hne (e.trans h)
    · rw [h] at e; injection e with e; omega⟩
theorem NdSt.drew {wo W : World} {a b : Int} {l : List Int} {v : Value} (h : NdSt wo W a b l v) : NdSt wo W.drew a b l v := ⟨h.below.drew, h.box, Kd.R_below h.row (Below.refl _ _).drew⟩
/-- between two rounds of Append -/
structure AppSt (w W : World) (base : Nat) (ok : Nat → Prop) (vu : Value) (u nodes : List Nd) (k : Nat) (v : Value) : Prop where
  row : k60.R 60 W base (fun j => ok j ∧ j ≠ w.heap.size) v (imp u [] (nodes.take k)).1
  arr : Arr W w.heap.size (padd (imp u [] (nodes.take k)).2 nodes.length)
  grown : w.grownBy W vu.ownBlock
  own : OwnOr w v vu
theorem AppSt.first (w : World) (base : Nat) (ok : Nat → Prop) (u nodes : List Nd) (vu : Value) (hR : k60.R 60 w base ok vu u) (hn : nodes.length ≤ 9223372036854775807) : AppSt w (w.alloc (.cells (madeCells #[.int .i64 0] nodes.length) 3)) base ok vu u nodes 0 vu := by
  have hb := (Below.refl w.heap.size w).alloc (Nat.le_refl _) (.cells (madeCells #[.int .i64 0] nodes.length) 3)
  refine ⟨Kd.R_mono (Kd.R_below (Kd.R_bound hR) hb) (fun j hj => ⟨hj.1, by have := hj.2.2.1; omega⟩), ?_, grown_below' hb, .inl rfl⟩
  simpa [imp, padd] using Arr.made w nodes.length hn
theorem AppSt.next {w W W2 : World} {base : Nat} {ok : Nat → Prop} {vu v v2 : Value} {u nodes : List Nd} {k : Nat} {r : List Nd × Int} (h : AppSt w W base ok vu u nodes k v) (hR : k60.R 60 W2 base (fun j => ok j ∧ j ≠ w.heap.size) v2 r.1) (hg : W.grownBy W2 v.ownBlock) (hown : OwnOr W v2 v)
    (hs : imp u [] (nodes.take (k + 1)) = (r.1, (imp u [] (nodes.take k)).2 ++ [r.2])) (hat : (imp u [] (nodes.take k)).2.length = k) (hk : k < nodes.length) (hvu : some w.heap.size ≠ vu.ownBlock) :
    AppSt w (W2.setCell ⟨w.heap.size, k, none⟩ (.int .i64 r.2)) base ok vu u nodes (k + 1) v2 := by
  have hwb : w.heap.size < W.heap.size := h.arr.lt
  have hnv : some w.heap.size ≠ v.ownBlock := fun e => (h.row.1 _ e.symm).2 rfl
  have ha : Arr W2 w.heap.size (padd (imp u [] (nodes.take k)).2 nodes.length) := h.arr.move (hg.block _ hwb hnv)
  have hG := h.own.grown h.grown hg
  refine ⟨?_, ?_, ⟨hG.os, hG.tape, hG.output, Nat.le_trans hG.size (by simp [World.setCell]), fun j hj hne => (Below.heap_setCell W2 ⟨w.heap.size, k, none⟩ _ j (by show j ≠ w.heap.size; omega)).trans (hG.block j hj hne)⟩, ?_⟩
  · rw [hs]
    exact Kd.R_far (p := ⟨w.heap.size, k, none⟩) hR (fun j hj => hj.2) _
  · rw [hs]
    have := ha.put k r.2
    have e := padd_set (l := (imp u [] (nodes.take k)).2) (n := nodes.length) r.2 (by rw [hat]; exact hk)
    rw [hat] at e
    rw [e] at this
    exact this
  · rcases hown with h1 | ⟨b, h1, h2⟩
    · rcases h.own with h3 | ⟨b, h3, h4⟩
      · exact .inl (h1.trans h3)
      · exact .inr ⟨b, h1.trans h3, h4⟩
    · exact .inr ⟨b, h1, Nat.le_trans h.grown.size h2⟩
def ApPost (w : World) (base : Nat) (ok : Nat → Prop) (vu : Value) (u nodes : List Nd) (e : Ending) (w' : World) : Prop := ∃ v', e = .returned (.tuple #[v', .slice (some ⟨w.heap.size, 0, none⟩) nodes.length nodes.length]) ∧ AppSt w w' base ok vu u nodes nodes.length v'
set_option maxHeartbeats 16000000 in
set_option maxRecDepth 100000 in
theorem append_calls (base : Nat) (ok : Nat → Prop) (u nodes : List Nd) (Au A : Option Addr) (cu c : Nat) (w : World) (hbs : base ≤ w.heap.size)
    (hR : k60.R 60 w base ok (.slice Au u.length cu) u) (hC : ∀ W, w.grownBy W (Value.slice Au u.length cu).ownBlock → k60.C W A nodes.length nodes) (hc : nodes.length ≤ c) (hF : Fit nodes) (hfr : ∀ n ∈ nodes, Frm n) (hU : Tbl u [])
    (hlen : ∀ x ∈ nodes, x.f2.length ≤ 1073741824) (hkl : ∀ x ∈ u, x.f2.length ≤ 1073741824) (hroom : (u.length + nodes.length) * 40 ≤ 140737488355328) (hnew : ∀ j, w.heap.size ≤ j → ok j) :
    Calls Tryd.prog 71 #[.slice Au u.length cu, .slice A nodes.length c] w (ApPost w base ok (.slice Au u.length cu) u nodes) := by
  have hvu : some w.heap.size ≠ (Value.slice Au u.length cu).ownBlock := fun e => by have := Kd.R_lt hR _ e.symm; omega
  have h0 := AppSt.first w base ok u nodes _ hR (by omega)
  have H0 := Lib.hid h0
  have HC := Lib.hid hC
  have HFIT := Lib.hid hF
  have HFR := Lib.hid hfr
  have HU := Lib.hid hU
  have HLEN := Lib.hid hlen
  have HKL := Lib.hid hkl
  have HNEW := Lib.hid hnew
  have HVU := Lib.hid hvu
  obtain ⟨N, hN⟩ : ∃ N, N = nodes.length := ⟨_, rfl⟩
  have HN := Lib.hid hN
  have hmk := print_make (P := Tryd.prog) 22 3 .i64 8 Tryd.underlying22 info3 (by decide) N (by omega)
  rw [← hN] at hroom hc H0 ⊢
  clear hR hC hF hfr hU hlen hkl hnew hvu h0 hN
  go_enter Tryd.func71, Tryd.ntmps71
  go_wp2
  go_loopw [0, 7] (fun v i wr => ∃ (k : Nat) (vv : Value), vv = v ∧ i = .int .i64 k ∧ k ≤ N ∧ AppSt w wr base ok (.slice Au u.length cu) u nodes k vv) (fun _ i _ => N - (intOf i).toNat)
  case atStart => exact ⟨0, _, rfl, rfl, Nat.zero_le _, H0.out⟩
  case round =>
    obtain ⟨k, vv, rfl, rfl, hk, hst⟩ := hrel
    obtain ⟨U, hUe⟩ : ∃ U, U = (imp u [] (nodes.take k)).1 := ⟨_, rfl⟩
    have hrow := hst.row
    rw [← hUe] at hrow
    obtain ⟨Av0, cv0, rfl⟩ := Kd.R_slice hrow
    have HROW := Lib.hid hrow
    have HUE := Lib.hid hUe
    clear hrow hUe
    by_cases hlt : k < N
    · have hkn : k < nodes.length := by have := HN.out; omega
      have hnm : nth nodes k ∈ nodes := by rw [nth_lt hkn]; exact List.getElem_mem hkn
      have hsz := hst.grown.size
      obtain ⟨ad, A2, c2, rfl, d0, d1, d2, l2, g2⟩ := at_T60 (HC.out wr hst.grown) (k : Int) (by omega) (by omega)
      rw [Int.toNat_natCast] at d0 d1 d2
      rw [rd_nth] at d0 d1 d2 l2 g2
      obtain ⟨n, hn⟩ : ∃ n, n = nth nodes (k : Int) := ⟨_, rfl⟩
      rw [← hn] at d0 d1 d2 l2 g2 hnm
      have hI2 := HLEN.out n hnm
      have hfrm := HFR.out n hnm
      have hkids : ∀ c ∈ n.f2, 0 ≤ c ∧ c < (k : Int) := by rw [hn]; exact HFIT.out.1 k hkn
      obtain ⟨tT, tL, -⟩ := imp_tbl HFIT.out HU.out k (by omega)
      have hat : (imp u [] (nodes.take k)).2.length = k := by rw [imp_len]; simp; omega
      have hsucc : imp u [] (nodes.take (k + 1)) = ((place1 (imp u [] (nodes.take k)).1 (imp u [] (nodes.take k)).2 n).1, (imp u [] (nodes.take k)).2 ++ [(place1 (imp u [] (nodes.take k)).1 (imp u [] (nodes.take k)).2 n).2]) := by rw [take_snoc' hkn, imp_snoc, ← hn]
      have huk : ∀ x ∈ (imp u [] (nodes.take k)).1, x.f2.length ≤ 1073741824 := imp_kids (nodes.take k) u [] HKL.out (fun x hx => HLEN.out x (List.mem_of_mem_take hx))
      have hab := hst.arr.lt
      have hdl := World.block_lt_of_cell? _ _ d0
      have hkb : k < 4000000000000 := by omega
      have hki : (k : Int) < (N : Int) := by omega
      obtain ⟨M, hM⟩ : ∃ M, M = n.f2.length := ⟨_, rfl⟩
      have HM := Lib.hid hM
      rw [← hM] at d2 l2 hI2
      have HST := Lib.hid hst
      have HKIDS := Lib.hid hkids
      have HFRM := Lib.hid hfrm
      have HT := Lib.hid tT
      have HTL := Lib.hid tL
      have HAT := Lib.hid hat
      have HSUCC := Lib.hid hsucc
      have HUK := Lib.hid huk
      have HNN := Lib.hid hn
      have HG2 := Lib.hid g2
      clear hst hkids hfrm tT tL hat hsucc huk hn hM g2
      go_wp2
      go_region
      obtain ⟨wo, rfl⟩ : ∃ wo : World, wo = wr := ⟨_, rfl⟩
      go_wp2
      go_loopw [9] (fun i W => ∃ (j : Nat) (v : Value), i = .int .i64 j ∧ j ≤ M ∧ NdSt wo W n.f0 n.f1 ((n.f2.take j).map (lk (imp u [] (nodes.take k)).2)) v) (fun i _ => M - (intOf i).toNat)
      case atStart => exact ⟨0, _, rfl, Nat.zero_le _, (NdSt.first wo n.f0 n.f1).drew⟩
      case round =>
        obtain ⟨j, v, rfl, hj, hnd⟩ := hrel
        obtain ⟨l, hl⟩ : ∃ l, l = (n.f2.take j).map (lk (imp u [] (nodes.take k)).2) := ⟨_, rfl⟩
        rw [← hl] at hnd
        have hll : l.length = j := by rw [hl]; simp; have := HM.out; omega
        obtain ⟨Av, cv, rfl⟩ := Kd.R_slice hnd.row
        have hbW := hnd.below
        have hsW := hbW.size
        have hmW := blk_lt hnd.box
        have bm2 : wr.cell? ⟨wo.heap.size, 2, none⟩ = some (.slice Av l.length cv) := (blk_cell hnd.box 2).trans rfl
        have fm2 := blk_frozen hnd.box 2
        replace d2 := pw_cell_below hbW d2
        have HND := Lib.hid hnd
        have HBW := Lib.hid hbW
        have HLL := Lib.hid hl
        have HLK := Lib.hid hll
        have hlb : l.length ≤ 1073741824 := by omega
        have hjb : j ≤ 1073741824 := by omega
        clear hl hll hnd hbW
        by_cases hjl : j < M
        · have hjn : j < n.f2.length := by have := HM.out; omega
          obtain ⟨ad2, rfl, hkc⟩ := reads_at (Kd.C_below HG2.out HBW.out) (by intro e; rw [e] at hjn; simp at hjn)
          have e0 := hkc j hjn
          have hcm : n.f2.getD j 0 ∈ n.f2 := by rw [List.getD_eq_getElem?_getD, List.getElem?_eq_getElem hjn]; exact List.getElem_mem hjn
          obtain ⟨hc0, hc1⟩ := HKIDS.out _ hcm
          obtain ⟨cn, hcn⟩ : ∃ cn : Nat, n.f2.getD j 0 = cn := ⟨(n.f2.getD j 0).toNat, by omega⟩
          rw [hcn] at e0 hc1
          have hcN : cn < N := by omega
          have hcNi : (cn : Int) < (N : Int) := by omega
          have hcb : cn < 4000000000000 := by omega
          have hji : (j : Int) < (M : Int) := by omega
          have e1 := (HST.out.arr.move (HBW.out.block _ hab)).at cn (by rw [padd_len (by rw [HAT.out]; omega)]; omega)
          rw [padd_get (by rw [HAT.out]; omega)] at e1
          have e2 := e1.1
          obtain ⟨y, hy⟩ : ∃ y, y = (imp u [] (nodes.take k)).2.getD cn 0 := ⟨_, rfl⟩
          rw [← hy] at e2
          have HY := Lib.hid hy
          have HCN := Lib.hid hcn
          have HR2 := Lib.hid HND.out.row
          clear e1 hcm hcn hkc hy
          go_wp2
          go_region_law (((refine Kd.R_append_step (Kd.int .i64) (w0 := wr) (W := wr.drew) (wo.heap.size + 1) (by rfl) (.tmp 41) (.tmp 53) 22 3 (.int .i64 0) 8 rfl Tryd.underlying22 info3 rfl (by decide) (by decide) (.slice Av l.length cv) l y [.int .i64 y] (fun k => wo.heap.size < k) (fun _ => False) (by rfl) (by rfl) rfl (fun _ h => h.elim) (fun k hk => Nat.lt_of_lt_of_le hmW hk) HR2.out (Below.refl _ _).drew hmW (by omega) ?_; intro v5 w5 hR5 hB5 hg5 hat5; obtain ⟨A5, c5, rfl⟩ := Kd.R_slice hR5; have hbx5 := (hB5.block wo.heap.size (Nat.lt_succ_self _)).trans HND.out.box; have q1 := blk_cell hbx5 2; have q2 := blk_frozen hbx5 2)))
          all_goals
            rw [List.length_append, List.length_singleton] at hR5
            have HR5 := Lib.hid hR5
            have HB5 := Lib.hid hB5
            clear hR5 hB5 hg5 hat5 hbx5
            go_wp2
            go_roundw
            case rel =>
              refine ⟨j + 1, .slice A5 (l.length + 1) c5, by go_num, hjl, ?_⟩
              have h3 : (n.f2.take (j + 1)).map (lk (imp u [] (nodes.take k)).2) = l ++ [y] := by
                rw [List.take_succ_eq_append_getElem hjn, List.map_append, ← HLL.out]
                congr 1
                have : n.f2[j] = (cn : Int) := by
                  have := HCN.out
                  rw [List.getD_eq_getElem?_getD, List.getElem?_eq_getElem hjn] at this
                  exact this
                simp [lk, this, HY.out]
              rw [h3]
              exact HND.out.next HR5.out HB5.out
            case measure => simp [intOf]; omega
        · have ej : j = M := by omega
          have hKL : l = n.f2.map (lk (imp u [] (nodes.take k)).2) := by rw [HLL.out, ej, List.take_of_length_le (l := n.f2) (i := M) (by have := HM.out; omega)]
          have hpl : plR U ⟨n.f0, n.f1, l⟩ = place1 (imp u [] (nodes.take k)).1 (imp u [] (nodes.take k)).2 n := by rw [HUE.out, hKL]; exact plR_place1 HFRM.out
          have hne : n.f0 ≠ -1 → l ≠ [] := by
            intro h0 e
            rcases HFRM.out with ⟨h1, _⟩ | ⟨_, _, h1⟩
            · exact h0 h1
            · rw [hKL] at e; exact h1 (by simpa using e)
          have hsW' := HBW.out.size
          have hA := (place_calls base (fun j => ok j ∧ j ≠ w.heap.size) (fun j => wo.heap.size < j) U ⟨n.f0, n.f1, l⟩ Av0 Av cv0 cv wr (by omega) (Kd.R_below HROW.out HBW.out) (Kd.R_lower HND.out.row (by omega)) (fun j hj => ⟨⟨HNEW.out j (by omega), by omega⟩, fun e => by have := Kd.R_lt HROW.out _ e.symm; omega⟩) hne (by show l.length ≤ _; omega) (by have := HTL.out; rw [← HUE.out] at this; omega) (by rw [HUE.out]; exact HUK.out) (fun j hj => ⟨HNEW.out j (by omega), by omega⟩)).mono (R' := fun e w2 => ∃ v', e = .returned (.tuple #[v', .int .i64 (place1 (imp u [] (nodes.take k)).1 (imp u [] (nodes.take k)).2 n).2]) ∧
              k60.R 60 w2 base (fun j => ok j ∧ j ≠ w.heap.size) v' (place1 (imp u [] (nodes.take k)).1 (imp u [] (nodes.take k)).2 n).1 ∧ wo.grownBy w2 (Value.slice Av0 U.length cv0).ownBlock ∧ OwnOr wo v' (.slice Av0 U.length cv0) ∧ (∃ v, w2.cell? ⟨w.heap.size, k, none⟩ = some (.int .i64 v)) ∧ w2.frozen? ⟨w.heap.size, k, none⟩ = false) (by
            rintro e w2 ⟨v', rfl, h2, h3, h4⟩
            rw [hpl] at h2 ⊢
            have h5 := World.grownBy.trans (grown_below' HBW.out) h3
            have h6 := (HST.out.arr.move (h5.block _ hab (fun e => (HROW.out.1 _ e.symm).2 rfl))).at k (by rw [padd_len (by rw [HAT.out]; omega)]; exact hkn)
            exact ⟨v', rfl, h2, h5, h4.elim .inl (fun ⟨b, h7, h8⟩ => .inr ⟨b, h7, by omega⟩), ⟨_, h6.1⟩, h6.2⟩)
          dsimp only at hA
          obtain ⟨r, hr⟩ : ∃ r, r = place1 (imp u [] (nodes.take k)).1 (imp u [] (nodes.take k)).2 n := ⟨_, rfl⟩
          rw [← hr] at hA
          have HR := Lib.hid hr
          have bm0 : wr.cell? ⟨wo.heap.size, 0, none⟩ = some (.int .i64 n.f0) := (blk_cell HND.out.box 0).trans rfl
          have bm1 : wr.cell? ⟨wo.heap.size, 1, none⟩ = some (.int .i64 n.f1) := (blk_cell HND.out.box 1).trans rfl
          clear hr hpl hne hKL ej
          go_wp2_with (go_at_call 72; refine hA.mono ?_; clear hA; rintro e w2 ⟨v2, rfl, hR2, hg2, ho2, ⟨vc, hvc⟩, hfc⟩; have HR2 := Lib.hid hR2; have HGG := Lib.hid hg2; have HO2 := Lib.hid ho2; clear hR2 hg2 ho2)
          go_roundw
          case rel =>
            refine ⟨k + 1, v2, rfl, by go_num, hlt, ?_⟩
            exact HST.out.next HR2.out HGG.out HO2.out (by rw [HSUCC.out, HR.out]) HAT.out hkn HVU.out
          case measure => simp [intOf]; omega
    · obtain rfl : k = N := by omega
      have HST := Lib.hid hst
      clear hst
      go_wp2
      refine bodyPost_ret (v := .tuple #[.slice Av0 U.length cv0, .slice (some ⟨w.heap.size, 0, none⟩) k k]) (by simp [results, Tryd.f71, go_sem]) rfl ⟨.slice Av0 U.length cv0, ?_, ?_⟩
      · rw [HN.out]
      · have := HST.out; rw [HN.out] at this; exact this
end Go.Proofs.YtopbjginpmdebaaDoor.K
-- exactpplref19.walk: what it keeps
namespace Go.Proofs.YtopbjginpmdebaaDoor.K
open Go.RowKit Go.Maps Go.Proofs.YtopbjginpmdebaaDoorW.PrintWords Go.Proofs.YtopbjginpmdebaaDoorW.PrintLast Go.Proofs.YtopbjginpmdebaaDoorW.PrintMore
set_option linter.unusedVariables false
set_option linter.unusedSimpArgs false
/-- the places as an array: -1 where there is none -/
def atl (n : Nat) (g : PM) : List Int := (List.range n).map fun j : Nat => (g (j : Int)).getD (-1)
theorem atl_len (n : Nat) (g : PM) : (atl n g).length = n := by simp [atl]
theorem atl_get {n j : Nat} (g : PM) (h : j < n) : (atl n g).getD j 0 = (g (j : Int)).getD (-1) := by
  unfold atl
  rw [List.getD_eq_getElem?_getD, List.getElem?_map, List.getElem?_range h]; rfl
theorem atl_upd {n i : Nat} (g : PM) (a : Int) (h : i < n) : (atl n g).set i a = atl n (upd g (i : Int) a) := by
  apply List.ext_getElem
  · simp [atl]
  · intro j h1 h2
    have hj : j < n := by simpa [atl] using h2
    rw [List.getElem_set]
    simp only [atl, List.getElem_map, List.getElem_range, upd]
    by_cases e : i = j
    · subst e; simp
    · rw [if_neg e, if_neg (by omega)]
theorem pigeon : ∀ (m n : Nat) (f : Nat → Nat), (∀ a, a < n → f a < m) → (∀ a b, a < n → b < n → f a = f b → a = b) → n ≤ m
  | 0, n, f, h1, _ => by
    rcases n with _ | n
    · exact Nat.le_refl _
    · exact absurd (h1 0 (by omega)) (by omega)
  | m + 1, n, f, h1, h2 => by
    by_cases hx : ∃ a, a < n ∧ f a = m
    · obtain ⟨a0, ha0, e0⟩ := hx
      have h := pigeon m (n - 1) (fun a => if a < a0 then f a else f (a + 1)) (fun a ha => by
        have key : ∀ b, b < n → b ≠ a0 → f b < m := fun b hb hne => by
          have := h1 b hb
          have : f b ≠ m := fun e => hne (h2 b a0 hb ha0 (e.trans e0.symm))
          omega
        try dsimp only
        split
        · exact key a (by omega) (by omega)
        · exact key (a + 1) (by omega) (by omega)) (fun a b ha hb e => by
        try dsimp only at e
        split at e <;> split at e
        · exact h2 a b (by omega) (by omega) e
        · have := h2 a (b + 1) (by omega) (by omega) e; omega
        · have := h2 (a + 1) b (by omega) (by omega) e; omega
        · have := h2 (a + 1) (b + 1) (by omega) (by omega) e; omega)
      omega
    · have := pigeon m n f (fun a ha => by
        have := h1 a ha
        have : f a ≠ m := fun e => hx ⟨a, ha, e⟩
        omega) h2
      omega
theorem Pl.len {u : List Nd} {s : St} (h : Pl u s) : s.2.length ≤ u.length := by
  refine pigeon u.length s.2.length (fun a => if ha : a < s.2.length then (Classical.choose (h.all a ha)).toNat else 0) (fun a ha => ?_) (fun a b ha hb e => ?_)
  · simp only [dif_pos ha]
    have h1 := Classical.choose_spec (h.all a ha)
    have h2 := h.node _ _ h1
    omega
  · simp only [dif_pos ha, dif_pos hb] at e
    have h1 := Classical.choose_spec (h.all a ha)
    have h2 := Classical.choose_spec (h.all b hb)
    have h3 := h.node _ _ h1
    have h4 := h.node _ _ h2
    have e' : Classical.choose (h.all a ha) = Classical.choose (h.all b hb) := by omega
    rw [e', h2] at h1
    have := Option.some.inj h1
    omega
/-- the walk's memory -/
structure Wk (B0 b : Nat) (ok : Nat → Prop) (W : World) (u : List Nd) (s : St) (v : Value) : Prop where
  arr : Arr W b (atl u.length s.1)
  row : k60.R 60 W B0 ok v s.2
  pl : Pl u s
/-- what a walk leaves alone -/
structure Kp (w W : World) (b : Nat) (v : Value) : Prop where
  os : W.os = w.os
  tape : W.tape = w.tape
  output : W.output = w.output
  size : w.heap.size ≤ W.heap.size
  same : ∀ j, j < w.heap.size → j ≠ b → some j ≠ v.ownBlock → W.heap[j]? = w.heap[j]?
theorem Kp.refl (w : World) (b : Nat) (v : Value) : Kp w w b v := ⟨rfl, rfl, rfl, Nat.le_refl _, fun _ _ _ _ => rfl⟩
theorem Kp.trans {w W W2 : World} {b : Nat} {v0 v : Value} (h : Kp w W b v0) (ho : OwnOr w v v0) (k : Kp W W2 b v) : Kp w W2 b v0 :=
  ⟨k.os.trans h.os, k.tape.trans h.tape, k.output.trans h.output, Nat.le_trans h.size k.size, fun j hj hb hv => by
    refine (k.same j (Nat.lt_of_lt_of_le hj h.size) hb (fun e => ?_)).trans (h.same j hj hb hv)
    rcases ho with h1 | ⟨c, h1, h2⟩
    · exact hv (e.trans h1)
    · rw [h1] at e; injection e with e; omega⟩
theorem Kp.of_below {w W : World} (h : Below w.heap.size w W) (b : Nat) (v : Value) : Kp w W b v := ⟨h.os, h.tape, h.output, h.size, fun j hj _ _ => h.block j hj⟩
theorem Kp.of_grown {w W : World} {b : Nat} {v : Value} (h : w.grownBy W v.ownBlock) : Kp w W b v := ⟨h.os, h.tape, h.output, h.size, fun j hj _ hv => h.block j hj hv⟩
theorem Kp.below {B0 b : Nat} {w W : World} {v : Value} (h : Kp w W b v) (h1 : B0 ≤ w.heap.size) (hb : B0 ≤ b) (hv : ∀ k, v.ownBlock = some k → B0 ≤ k) : Below B0 w W :=
  ⟨h.os, h.tape, h.output, h.size, fun j hj => h.same j (by omega) (by omega) (fun e => by have := hv j e.symm; omega)⟩
theorem OwnOr.trans {w W : World} {a b c : Value} (h : OwnOr w b c) (hs : w.heap.size ≤ W.heap.size) (k : OwnOr W a b) : OwnOr w a c := by
  rcases k with h1 | ⟨x, h1, h2⟩
  · rcases h with h3 | ⟨x, h3, h4⟩
    · exact .inl (h1.trans h3)
    · exact .inr ⟨x, h1.trans h3, h4⟩
  · exact .inr ⟨x, h1, Nat.le_trans hs h2⟩
theorem ints_move {W W2 : World} {base : Nat} {ok : Nat → Prop} {v : Value} {l : List Int} (h : (Kd.int .i64).R 3 W base ok v l) (hm : ∀ k, v.ownBlock = some k → W2.heap[k]? = W.heap[k]?) : (Kd.int .i64).R 3 W2 base ok v l :=
  Kd.R_mono (Kd.R_step (Kd.R_tight rfl h) (fun k hk _ => hm k hk.symm)) (fun k hk => h.1 k hk.symm)
theorem ints_type {W : World} {base : Nat} {ok : Nat → Prop} {v : Value} {l : List Int} (h : (Kd.int .i64).R 3 W base ok v l) (k : Nat) (hk : v.ownBlock = some k) : ∃ cs, W.heap[k]? = some (.cells cs 3 (0, 0)) := by
  obtain ⟨_, inner, ho, _⟩ := h
  exact own_typed ho k hk
theorem nodes_type {W : World} {base : Nat} {ok : Nat → Prop} {v : Value} {l : List Nd} (h : k60.R 60 W base ok v l) (k : Nat) (hk : v.ownBlock = some k) : ∃ cs, W.heap[k]? = some (.cells cs 60 (0, 0)) := by
  obtain ⟨_, inner, ho, _⟩ := h
  exact own_typed ho k hk
/-- between two rounds of walk's loop: the new node at block β, its kids' row vk -/
structure WL (B0 b β : Nat) (ok : Nat → Prop) (w W : World) (u : List Nd) (v0 : Value) (s : St) (x y : Int) (l : List Int) (v vk : Value) : Prop where
  wk : Wk B0 b (fun j => ok j ∧ j ≠ β ∧ some j ≠ vk.ownBlock) W u s v
  box : W.heap[β]? = some (.cells #[.int .i64 x, .int .i64 y, vk] 60 (0, 0))
  row : (Kd.int .i64).R 3 W (β + 1) (fun k => β < k) vk l
  kp : Kp w W b v0
  own : OwnOr w v v0
theorem Wk.below {B0 b : Nat} {ok : Nat → Prop} {W W2 : World} {u : List Nd} {s : St} {v : Value} (h : Wk B0 b ok W u s v) (hb : Below W.heap.size W W2) : Wk B0 b ok W2 u s v :=
  ⟨h.arr.move (hb.block _ h.arr.lt), Kd.R_below h.row hb, h.pl⟩
theorem WL.below {B0 b β : Nat} {ok : Nat → Prop} {w W W2 : World} {u : List Nd} {v0 : Value} {s : St} {x y : Int} {l : List Int} {v vk : Value} (h : WL B0 b β ok w W u v0 s x y l v vk) (hb : Below W.heap.size W W2) : WL B0 b β ok w W2 u v0 s x y l v vk :=
  ⟨h.wk.below hb, (hb.block _ (blk_lt h.box)).trans h.box, Kd.R_below h.row hb, h.kp.trans h.own (Kp.of_below hb _ _), h.own⟩
/-- the first round's start -/
theorem WL.first {B0 b : Nat} {ok : Nat → Prop} {w : World} {u : List Nd} {s : St} {v : Value} (h : Wk B0 b ok w u s v) (x y : Int) :
    WL B0 b w.heap.size ok w (w.alloc (.cells #[.int .i64 x, .int .i64 y, .slice none 0 0] 60)) u v s x y [] v (.slice none 0 0) := by
  have hb : Below w.heap.size w (w.alloc (.cells #[.int .i64 x, .int .i64 y, .slice none 0 0] 60)) := (Below.refl _ w).alloc (Nat.le_refl _) _
  exact ⟨⟨h.arr.move (hb.block _ h.arr.lt), Kd.R_mono (Kd.R_below (Kd.R_bound h.row) hb) (fun j hj => ⟨hj.1, by have := hj.2.2.1; omega, by simp [Value.ownBlock]⟩), h.pl⟩, heap_alloc_new w _, Kd.R_nil _ _ _ _ _, Kp.of_below hb _ _, .inl rfl⟩
/-- a walk inside -/
theorem WL.call {B0 b β : Nat} {ok : Nat → Prop} {w W W2 : World} {u : List Nd} {v0 : Value} {s s2 : St} {x y : Int} {l : List Int} {v v2 vk : Value} (h : WL B0 b β ok w W u v0 s x y l v vk) (hbβ : b < β)
    (k : Wk B0 b (fun j => ok j ∧ j ≠ β ∧ some j ≠ vk.ownBlock) W2 u s2 v2) (kp : Kp W W2 b v) (ho : OwnOr W v2 v) : WL B0 b β ok w W2 u v0 s2 x y l v2 vk := by
  refine ⟨k, (kp.same _ (blk_lt h.box) (by omega) (fun e => (h.wk.row.1 _ e.symm).2.1 rfl)).trans h.box, ints_move h.row (fun q hq => kp.same q (Kd.R_lt h.row q hq) (by have := h.row.1 q hq; omega) (fun e => ?_)), h.kp.trans h.own kp, h.own.trans h.kp.size ho⟩
  exact (h.wk.row.1 q e.symm).2.2 hq.symm
/-- a kid's place is noted -/
theorem WL.kid {B0 b β : Nat} {ok : Nat → Prop} {w W W5 : World} {u : List Nd} {v0 : Value} {s : St} {x y z : Int} {l : List Int} {v vk v5 : Value} (h : WL B0 b β ok w W u v0 s x y l v vk) (hbβ : b < β) (hwβ : w.heap.size ≤ β)
    (hR : (Kd.int .i64).R 3 W5 (β + 1) (fun k => β < k) v5 (l ++ [z])) (hg : W.grownBy W5 vk.ownBlock) (hat : v5.ownBlock = vk.ownBlock ∨ ∃ c, v5.ownBlock = some c ∧ W.heap.size ≤ c) :
    WL B0 b β ok w (W5.setCell ⟨β, 2, none⟩ v5) u v0 s x y (l ++ [z]) v v5 := by
  have hβ := blk_lt h.box
  have hkβ : ∀ q, vk.ownBlock = some q → β < q := h.row.1
  have hbx5 : W5.heap[β]? = some (.cells #[.int .i64 x, .int .i64 y, vk] 60 (0, 0)) := (hg.block β hβ (fun e => by have := hkβ β e.symm; omega)).trans h.box
  have hrow5 : k60.R 60 W5 B0 (fun j => ok j ∧ j ≠ β ∧ some j ≠ v5.ownBlock) v s.2 := by
    refine Kd.R_mono (Kd.R_grown (Kd.R_bound h.wk.row) hg (fun j hj => hj.1.2.2)) (fun j hj => ⟨hj.1.1, hj.1.2.1, fun e => ?_⟩)
    rcases hat with h1 | ⟨c, h1, h2⟩
    · exact hj.1.2.2 (e.trans h1)
    · rw [h1] at e; injection e with e; have := hj.2.2.1; omega
  refine ⟨⟨?_, Kd.R_far (p := ⟨β, 2, none⟩) hrow5 (fun j hj => hj.2.1) _, h.wk.pl⟩, blk_set hbx5 2 v5, Kd.R_far (p := ⟨β, 2, none⟩) hR (fun k hk => by show k ≠ β; omega) _, ?_, h.own⟩
  · refine (h.wk.arr.move (hg.block b h.wk.arr.lt (fun e => by have := hkβ b e.symm; omega))).move (Below.heap_setCell W5 ⟨β, 2, none⟩ v5 b (by show b ≠ β; omega))
  · refine ⟨hg.os.trans h.kp.os, hg.tape.trans h.kp.tape, hg.output.trans h.kp.output, Nat.le_trans (Nat.le_trans h.kp.size hg.size) (by simp [World.setCell]), fun j hj hb hv => ?_⟩
    refine (Below.heap_setCell W5 ⟨β, 2, none⟩ v5 j (by show j ≠ β; omega)).trans ((hg.block j (Nat.lt_of_lt_of_le hj h.kp.size) (fun e => ?_)).trans (h.kp.same j hj hb hv))
    have := hkβ j e.symm; omega
/-- the end: the node's place is noted, the node stored -/
theorem WL.done {B0 b β : Nat} {ok : Nat → Prop} {w W W5 : World} {u : List Nd} {v0 : Value} {s : St} {x y : Int} {l : List Int} {v vk v5 : Value} {iN : Nat} (h : WL B0 b β ok w W u v0 s x y l v vk) (hi : iN < u.length)
    (hR : k60.R 60 W5 B0 ok v5 (s.2 ++ [⟨x, y, l⟩])) (hg : (W.setCell ⟨b, iN, none⟩ (.int .i64 (s.2.length : Int))).grownBy W5 v.ownBlock) (hat : v5.ownBlock = v.ownBlock ∨ ∃ c, v5.ownBlock = some c ∧ W.heap.size ≤ c)
    (hok : ∀ j, ok j → j ≠ b) (hP : Pl u (upd s.1 iN s.2.length, s.2 ++ [⟨x, y, l⟩])) :
    Wk B0 b ok W5 u (upd s.1 iN s.2.length, s.2 ++ [⟨x, y, l⟩]) v5 ∧ Kp w W5 b v0 ∧ OwnOr w v5 v0 := by
  have hsz : (W.setCell ⟨b, iN, none⟩ (.int .i64 (s.2.length : Int))).heap.size = W.heap.size := by simp [World.setCell]
  have hnb : some b ≠ v.ownBlock := fun e => hok b (h.wk.row.1 b e.symm).1 rfl
  refine ⟨⟨?_, hR, hP⟩, ?_, ?_⟩
  · have h1 := h.wk.arr.put iN (s.2.length : Int)
    rw [atl_upd s.1 _ hi] at h1
    exact h1.move (hg.block b (by rw [hsz]; exact h.wk.arr.lt) hnb)
  · refine h.kp.trans h.own ⟨hg.os, hg.tape, hg.output, by rw [← hsz]; exact hg.size, fun j hj hb hv => ?_⟩
    exact (hg.block j (by rw [hsz]; exact hj) hv).trans (Below.heap_setCell W ⟨b, iN, none⟩ _ j (by show j ≠ b; exact hb))
  · exact h.own.trans h.kp.size (hat.elim .inl .inr)
/-- what the walk has done with a node's first kids -/
def kidSt (u : List Nd) (d : Nat) (s : St) (l : List Int) : St := l.foldl (fun s c => dfs u d c s) s
theorem kidSt_snoc (u : List Nd) (d : Nat) (s : St) (l : List Int) (c : Int) : kidSt u d s (l ++ [c]) = dfs u d c (kidSt u d s l) := by simp [kidSt]
theorem kidSt_mp {u : List Nd} (hu : Down u) {d i : Nat} (hi : i < u.length) (hd : i ≤ d) {s : St} (hs : Pl u s) : ∀ (l : List Int), (∀ c ∈ l, 0 ≤ c ∧ c < (i : Int)) →
    Pl u (kidSt u d s l) ∧ Ext s (kidSt u d s l) ∧ ∀ c ∈ l, ((kidSt u d s l).1 c).isSome := by
  have key : ∀ (l : List Int) (s : St), (∀ c ∈ l, 0 ≤ c ∧ c < (i : Int)) → Pl u s → Pl u (kidSt u d s l) ∧ Ext s (kidSt u d s l) ∧ ∀ c ∈ l, ((kidSt u d s l).1 c).isSome := by
    intro l
    induction l with
    | nil => intro s _ hs; exact ⟨hs, fun _ _ h => h, by simp⟩
    | cons c l ih =>
      intro s hl hs
      obtain ⟨c0, c1⟩ := hl c List.mem_cons_self
      obtain ⟨n, rfl⟩ : ∃ n : Nat, c = n := ⟨c.toNat, by omega⟩
      obtain ⟨p1, p2, p3, _⟩ := dfs_pl hu d n s (by omega) (by omega) hs
      obtain ⟨q1, q2, q3⟩ := ih (dfs u d n s) (fun k hk => hl k (List.mem_cons_of_mem _ hk)) p1
      refine ⟨q1, fun a b h => q2 a b (p2 a b h), fun k hk => ?_⟩
      rcases List.mem_cons.1 hk with rfl | hk
      · obtain ⟨b, hb⟩ := Option.isSome_iff_exists.1 p3
        show ((kidSt u d (dfs u d n s) l).1 _).isSome = true
        rw [q2 _ _ hb]; rfl
      · exact q3 k hk
  exact fun l hl => key l s hl hs
theorem mp_ext {g g' : PM} {l : List Int} (h : ∀ c ∈ l, ∀ a, g c = some a → g' c = some a) (hs : ∀ c ∈ l, (g c).isSome) : mp g' l = mp g l := by
  refine List.map_congr_left fun c hc => ?_
  obtain ⟨a, ha⟩ := Option.isSome_iff_exists.1 (hs c hc)
  rw [h c hc a ha, ha]
end Go.Proofs.YtopbjginpmdebaaDoor.K
-- exactpplref19.walk
namespace Go.Proofs.YtopbjginpmdebaaDoor.K
open Go.RowKit Go.Maps Go.Proofs.YtopbjginpmdebaaDoorW.PrintWords Go.Proofs.YtopbjginpmdebaaDoorW.PrintLast Go.Proofs.YtopbjginpmdebaaDoorW.PrintMore
set_option linter.unusedVariables false
set_option linter.unusedSimpArgs false
def WkPost (B0 b : Nat) (ok : Nat → Prop) (w : World) (u : List Nd) (r : St) (v : Value) (e : Ending) (w' : World) : Prop := ∃ v', e = .returned v' ∧ Wk B0 b ok w' u r v' ∧ Kp w w' b v ∧ OwnOr w v' v
set_option maxHeartbeats 32000000 in
set_option maxRecDepth 100000 in
theorem walk_calls (B0 b : Nat) (u : List Nd) (hu : Down u) (Au : Option Addr) (cu : Nat) (hcu : u.length ≤ cu) (hkl : ∀ x ∈ u, x.f2.length ≤ 1073741824) (hul : (u.length + 1) * 40 ≤ 140737488355328) (hb0 : B0 ≤ b) :
    ∀ (d i : Nat) (s : St) (ok : Nat → Prop) (v : Value) (w : World), i < u.length → i < d → B0 ≤ w.heap.size → (∀ W, Below B0 w W → k60.C W Au u.length u) → Wk B0 b ok w u s v → (∀ j, ok j → j ≠ b) → (∀ j, w.heap.size ≤ j → ok j) →
    Calls Tryd.prog 78 #[.slice Au u.length cu, .int .i64 (i : Nat), .slice (some ⟨b, 0, none⟩) u.length u.length, v] w (WkPost B0 b ok w u (dfs u d i s) v) := by
  intro d
  induction d with
  | zero => intro i s ok v w _ h; omega
  | succ d ih =>
    intro i s ok v w hi hd hB hC hwk hok hnew
    have IH := Lib.hid ih
    clear ih
    have hat := hwk.arr.at i (by rw [atl_len]; exact hi)
    rw [atl_get s.1 hi] at hat
    have a0 := hat.1
    have hbl := hwk.arr.lt
    have HU := Lib.hid hu
    have HKL := Lib.hid hkl
    have HC := Lib.hid hC
    have HWK := Lib.hid hwk
    have HOK := Lib.hid hok
    have HNEW := Lib.hid hnew
    obtain ⟨N, hN⟩ : ∃ N, N = u.length := ⟨_, rfl⟩
    have HN := Lib.hid hN
    rw [← hN] at hi hul hcu ⊢
    clear hu hkl hC hwk hok hnew hat hN
    have hib : i < 4000000000000 := by omega
    have hii : (i : Int) < (N : Int) := by omega
    cases hg : s.1 (i : Int) with
    | some a =>
      have ha := (HWK.out.pl.node _ _ hg).2.1
      rw [hg] at a0
      have e : dfs u (d + 1) (i : Int) s = s := by simp only [dfs]; rw [hg]; rfl
      rw [e]
      have a1 : w.cell? ⟨b, i, none⟩ = some (.int .i64 a) := a0
      clear e hg a0
      go_enter Tryd.func78, Tryd.ntmps78
      go_wp2
      go_ret
      exact ⟨_, rfl, HWK.out, Kp.refl _ _ _, .inl rfl⟩
    | none =>
      rw [hg] at a0
      have e : dfs u (d + 1) (i : Int) s = fin u (i : Int) (kidSt u d s (nth u (i : Int)).f2) := by simp only [dfs]; rw [hg]; rfl
      rw [e]
      have a1 : w.cell? ⟨b, i, none⟩ = some (.int .i64 (-1)) := a0
      have HG := Lib.hid hg
      clear e hg a0
      obtain ⟨ad, A2, c2, rfl, d0, d1, d2, l2, g2⟩ := at_T60 (HC.out w (Below.refl _ _)) (i : Int) (by omega) (by have := HN.out; omega)
      rw [Int.toNat_natCast] at d0 d1 d2
      rw [rd_nth] at d0 d1 d2 l2 g2
      have hiu : i < u.length := by have := HN.out; omega
      obtain ⟨n, hn⟩ : ∃ n, n = nth u (i : Int) := ⟨_, rfl⟩
      have hnm : n ∈ u := by rw [hn, nth_lt hiu]; exact List.getElem_mem hiu
      rw [← hn] at d0 d1 d2 l2 g2 ⊢
      have hI2 := HKL.out n hnm
      have hkids : ∀ c ∈ n.f2, 0 ≤ c ∧ c < (i : Int) := by rw [hn]; exact HU.out i hiu
      obtain ⟨M, hM⟩ : ∃ M, M = n.f2.length := ⟨_, rfl⟩
      have HM := Lib.hid hM
      rw [← hM] at d2 l2 hI2
      have HNN := Lib.hid hn
      have HKIDS := Lib.hid hkids
      have hdl := World.block_lt_of_cell? _ _ d0
      clear hn hkids hM g2
      go_enter Tryd.func78, Tryd.ntmps78
      go_wp2
      go_region
      go_wp2
      go_loopw [3, 10] (fun o i W => ∃ (j : Nat) (vv vk : Value), vv = o ∧ i = .int .i64 j ∧ j ≤ M ∧ WL B0 b w.heap.size ok w W u v (kidSt u d s (n.f2.take j)) n.f0 n.f1 (mp (kidSt u d s (n.f2.take j)).1 (n.f2.take j)) vv vk) (fun _ i _ => M - (intOf i).toNat)
      case atStart => exact ⟨0, _, _, rfl, rfl, Nat.zero_le _, (WL.first HWK.out n.f0 n.f1).below (Below.refl _ _).drew⟩
      case round =>
        obtain ⟨j, vv, vk, rfl, rfl, hj, hwl⟩ := hrel
        have hkb2 : ∀ k, v.ownBlock = some k → B0 ≤ k := Kd.R_base HWK.out.row
        have hBW : Below B0 w wr := hwl.kp.below hB hb0 hkb2
        have hsz := hwl.kp.size
        have hβ := blk_lt hwl.box
        obtain ⟨ad', A3, c3, had, -, -, d3, l3, g3⟩ := at_T60 (HC.out wr hBW) (i : Int) (by omega) (by have := HN.out; omega)
        injection had with had
        subst had
        rw [Int.toNat_natCast] at d3
        rw [rd_nth, ← HNN.out] at d3 l3 g3
        rw [← HM.out] at d3 l3
        obtain ⟨sj, hsj⟩ : ∃ sj, sj = kidSt u d s (n.f2.take j) := ⟨_, rfl⟩
        obtain ⟨l, hl⟩ : ∃ l, l = mp (kidSt u d s (n.f2.take j)).1 (n.f2.take j) := ⟨_, rfl⟩
        rw [← hl, ← hsj] at hwl
        have hll : l.length = j := by rw [hl]; simp [mp]; have := HM.out; omega
        obtain ⟨Avk, cvk, rfl⟩ := Kd.R_slice hwl.row
        have HWL := Lib.hid hwl
        have HSJ := Lib.hid hsj
        have HL := Lib.hid hl
        have HLL := Lib.hid hll
        have HBW := Lib.hid hBW
        have HG3 := Lib.hid g3
        have hjb : j ≤ 1073741824 := by omega
        clear hwl hsj hl hll hkb2 hBW g3 d0 d1 d2 a1 hdl
        by_cases hjl : j < M
        · have hjn : j < n.f2.length := by have := HM.out; omega
          obtain ⟨ad2, rfl, hkc⟩ := reads_at HG3.out (by intro e; rw [e] at hjn; simp at hjn)
          have e0 := hkc j hjn
          have hcm : n.f2.getD j 0 ∈ n.f2 := by rw [List.getD_eq_getElem?_getD, List.getElem?_eq_getElem hjn]; exact List.getElem_mem hjn
          obtain ⟨hc0, hc1⟩ := HKIDS.out _ hcm
          obtain ⟨cn, hcn⟩ : ∃ cn : Nat, n.f2.getD j 0 = cn := ⟨(n.f2.getD j 0).toNat, by omega⟩
          rw [hcn] at e0 hc1
          have hcN : cn < N := by omega
          have hcNi : (cn : Int) < (N : Int) := by omega
          have hcb : cn < 4000000000000 := by omega
          have hji : (j : Int) < (M : Int) := by omega
          have HCN := Lib.hid hcn
          have hA := IH.out cn sj (fun q => ok q ∧ q ≠ w.heap.size ∧ some q ≠ (Value.slice Avk l.length cvk).ownBlock) vv wr (by have := HN.out; omega) (by omega) (Nat.le_trans hB hsz) (fun W hW => HC.out W (HBW.out.trans hW)) HWL.out.wk (fun q hq => HOK.out q hq.1) (fun q hq => ⟨HNEW.out q (by omega), by omega, fun e => by have := Kd.R_lt HWL.out.row q e.symm; omega⟩)
          rw [← HN.out] at hA
          have HKC := Lib.hid hkc
          clear hcm hcn hkc
          go_wp2_with (go_at_call 78; refine hA.mono ?_; clear hA; rintro e w2 ⟨v2, rfl, hwk2, hkp2, ho2⟩; have HWK2 := Lib.hid hwk2; have HKP2 := Lib.hid hkp2; have HO2 := Lib.hid ho2; clear hwk2 hkp2 ho2)
          have hwl2 := HWL.out.call (by omega) HWK2.out HKP2.out HO2.out
          have hBW2 : Below B0 w w2 := hwl2.kp.below hB hb0 (Kd.R_base HWK.out.row)
          obtain ⟨ad', A4, c4, had, -, -, d4, l4, g4⟩ := at_T60 (HC.out w2 hBW2) (i : Int) (by omega) (by have := HN.out; omega)
          injection had with had
          subst had
          rw [Int.toNat_natCast] at d4
          rw [rd_nth, ← HNN.out] at d4 l4 g4
          rw [← HM.out] at d4 l4
          obtain ⟨ad4, rfl, hkc4⟩ := reads_at g4 (by intro e; rw [e] at hjn; simp at hjn)
          have e4 := hkc4 j hjn
          rw [HCN.out] at e4
          have q0 : w2.cell? ⟨w.heap.size, 2, none⟩ = some (.slice Avk l.length cvk) := (blk_cell hwl2.box 2).trans rfl
          have fq0 := blk_frozen hwl2.box 2
          have hcu' : cn < u.length := by have := HN.out; omega
          have p0 := (hwl2.wk.arr.at cn (by rw [atl_len]; exact hcu')).1
          rw [atl_get _ hcu'] at p0
          obtain ⟨z, hz⟩ : ∃ z, z = ((dfs u d (cn : Int) sj).1 (cn : Int)).getD (-1) := ⟨_, rfl⟩
          rw [← hz] at p0
          have hm2 := blk_lt hwl2.box
          have hlb : l.length ≤ 1073741824 := by have := HLL.out; omega
          have HZ := Lib.hid hz
          have HWL2 := Lib.hid hwl2
          have HR2 := Lib.hid hwl2.row
          clear hwl2 hBW2 g4 hkc4 hz d3 e0
          go_region_law (((refine Kd.R_append_step (Kd.int .i64) (w0 := w2) (W := w2.drew) (w.heap.size + 1) (by rfl) (.tmp 51) (.tmp 63) 22 3 (.int .i64 0) 8 rfl Tryd.underlying22 info3 rfl (by decide) (by decide) (.slice Avk l.length cvk) l z [.int .i64 z] (fun k => w.heap.size < k) (fun _ => False) (by rfl) (by rfl) rfl (fun _ h => h.elim) (fun k hk => Nat.lt_of_lt_of_le hm2 hk) HR2.out (Below.refl _ _).drew hm2 (by omega) ?_; intro v5 w5 hR5 hB5 hg5 hat5; obtain ⟨A5, c5, rfl⟩ := Kd.R_slice hR5; have hbx5 := (hB5.block w.heap.size (Nat.lt_succ_self _)).trans HWL2.out.box; have q1 := blk_cell hbx5 2; have q2 := blk_frozen hbx5 2)))
          all_goals
            have hk5 := HWL2.out.kid (by omega) (Nat.le_refl _) hR5 ⟨hg5.os, hg5.tape, hg5.output, hg5.size, hg5.block⟩ hat5
            rw [List.length_append, List.length_singleton] at hk5 hR5
            have HK5 := Lib.hid hk5
            clear hR5 hB5 hg5 hat5 hbx5 hk5
            go_wp2
            go_roundw
            case rel =>
              refine ⟨j + 1, v2, .slice A5 (l.length + 1) c5, rfl, by go_num, hjl, ?_⟩
              have hgj : n.f2[j] = (cn : Int) := by
                have := HCN.out
                rw [List.getD_eq_getElem?_getD, List.getElem?_eq_getElem hjn] at this
                exact this
              have hks := kidSt_mp HU.out hiu (by omega) HWK.out.pl (n.f2.take j) (fun c hc => HKIDS.out c (List.mem_of_mem_take hc)) (d := d)
              have hds := dfs_pl HU.out d cn sj (by have := HN.out; omega) (by omega) HWL.out.wk.pl
              have h1 : kidSt u d s (n.f2.take (j + 1)) = dfs u d (cn : Int) sj := by rw [List.take_succ_eq_append_getElem hjn, kidSt_snoc, ← HSJ.out, hgj]
              have h2 : mp (dfs u d (cn : Int) sj).1 (n.f2.take (j + 1)) = l ++ [z] := by
                rw [mp_succ _ _ _ hjn, HCN.out, mp_ext (g := sj.1) (fun c hc a ha => hds.2.1 c a ha) (by rw [HSJ.out]; exact hks.2.2), HL.out, ← HSJ.out, HZ.out]
                obtain ⟨a, ha⟩ := Option.isSome_iff_exists.1 hds.2.2.1
                rw [ha]; rfl
              rw [h1, h2]
              exact HK5.out
            case measure => simp [intOf]; omega
        · have ej : j = M := by omega
          have htk : n.f2.take j = n.f2 := List.take_of_length_le (by have := HM.out; omega)
          have hs1 : sj = kidSt u d s n.f2 := by rw [HSJ.out, htk]
          have hl1 : l = mp sj.1 n.f2 := by rw [HL.out, ← HSJ.out, htk]
          have hfin : fin u (i : Int) (kidSt u d s n.f2) = (upd sj.1 (i : Int) sj.2.length, sj.2 ++ [⟨n.f0, n.f1, l⟩]) := by
            rw [← hs1, hl1]; unfold fin; rw [← HNN.out]
          have hpl : Pl u (upd sj.1 (i : Int) sj.2.length, sj.2 ++ [⟨n.f0, n.f1, l⟩]) := by
            have h1 := (dfs_pl HU.out (d + 1) i s hiu (by omega) HWK.out.pl).1
            have h2 : dfs u (d + 1) (i : Int) s = fin u (i : Int) (kidSt u d s n.f2) := by rw [HNN.out]; simp only [dfs]; rw [HG.out]; rfl
            rw [h2, hfin] at h1
            exact h1
          have HPL := Lib.hid hpl
          have HFIN := Lib.hid hfin
          obtain ⟨Ao, co, rfl⟩ := Kd.R_slice HWL.out.wk.row
          have hol := Pl.len HWL.out.wk.pl
          have p0 := (HWL.out.wk.arr.at i (by rw [atl_len]; exact hiu))
          have p1 := p0.1
          have p2 := p0.2
          have b0 : wr.cell? ⟨w.heap.size, 0, none⟩ = some (.int .i64 n.f0) := (blk_cell HWL.out.box 0).trans rfl
          have b1 : wr.cell? ⟨w.heap.size, 1, none⟩ = some (.int .i64 n.f1) := (blk_cell HWL.out.box 1).trans rfl
          have b2 : wr.cell? ⟨w.heap.size, 2, none⟩ = some (.slice Avk l.length cvk) := (blk_cell HWL.out.box 2).trans rfl
          obtain ⟨K, hK⟩ : ∃ K, K = sj.2.length := ⟨_, rfl⟩
          have HK := Lib.hid hK
          have hKb : K < 4000000000000 := by have := HN.out; omega
          have HOL := Lib.hid hol
          rw [← hK]
          clear hpl hfin hl1 hs1 htk hol p0 hK
          have hbβ : b ≠ w.heap.size := by omega
          have HROW := Lib.hid (show k60.R 60 (wr.setCell ⟨b, i, none⟩ (.int .i64 (K : Int))) B0 ok (.slice Ao K co) sj.2 from by
            have h1 := Kd.R_mono (Kd.R_far (p := ⟨b, i, none⟩) HWL.out.wk.row (fun q hq => HOK.out q hq.1) (.int .i64 (K : Int))) (ok' := ok) (fun q hq => hq.1)
            rw [← HK.out] at h1; exact h1)
          have HMM := Lib.hid (show k60.M (wr.setCell ⟨b, i, none⟩ (.int .i64 (K : Int))) B0 (fun q => w.heap.size < q ∧ some q = (Value.slice Avk l.length cvk).ownBlock) ⟨n.f0, n.f1, l⟩ [.int .i64 n.f0, .int .i64 n.f1, .slice Avk l.length cvk] from
            k60_mkM _ _ _ ⟨n.f0, n.f1, l⟩ (Kd.R_mono (Kd.R_far (p := ⟨b, i, none⟩) (Kd.R_lower (Kd.R_mono (Kd.R_tight rfl HWL.out.row) (ok' := fun q => w.heap.size < q ∧ some q = (Value.slice Avk l.length cvk).ownBlock) (fun q hq => ⟨HWL.out.row.1 q hq.symm, hq⟩)) (by omega)) (fun q hq => by show q ≠ b; have := hq.1; omega) _) (fun q hq => hq)))
          have HOO := Lib.hid (show ∀ q, (w.heap.size < q ∧ some q = (Value.slice Avk l.length cvk).ownBlock) → ok q ∧ some q ≠ (Value.slice Ao K co).ownBlock from fun q hq => ⟨HNEW.out q (by omega), fun e => by
            have := (HWL.out.wk.row.1 q (by rw [← HK.out]; exact e.symm)).2.2
            exact this hq.2⟩)
          have hszs : (wr.setCell ⟨b, i, none⟩ (.int .i64 (K : Int))).heap.size = wr.heap.size := by simp [World.setCell]
          have HSZ := Lib.hid hszs
          clear hszs
          go_wp2_with (at_builtin; refine Hid.out ?_)
          refine Lib.hid ?_
          refine Kd.R_append k60 (w0 := w) (W := wr.setCell ⟨b, i, none⟩ (.int .i64 (K : Int))) B0 rfl (.tmp 71) (.tmp 73) 24 60 (.agg #[(.int .i64 0), (.int .i64 0), (.slice none 0 0)]) 40 rfl Tryd.underlying24 info60 rfl (by decide) (by decide) (.slice Ao K co) sj.2 ⟨n.f0, n.f1, l⟩ [.int .i64 n.f0, .int .i64 n.f1, .slice Avk l.length cvk] ok (fun q => w.heap.size < q ∧ some q = (Value.slice Avk l.length cvk).ownBlock) rfl (by refine (show _ = Value.slice (some ⟨wr.heap.size, 0, none⟩) 1 1 from rfl).trans ?_; rw [HSZ.out]) HMM.out HOO.out (fun q hq => HNEW.out q (by have := HSZ.out; omega)) HROW.out ?_ (by have := HSZ.out; omega) (by have := HK.out; have := HOL.out; have := HN.out; omega) ?_
          · exact (HBW.out).setCell (p := ⟨b, i, none⟩) hb0 _
          intro v5 w5 hR5 hB5 hg5 hat5
          have HF := Lib.hid (HWL.out.done hiu hR5 (by rw [← HK.out]; exact hg5) (hat5.elim (fun h => .inl (by rw [← HK.out]; exact h)) (fun ⟨q, h1, h2⟩ => .inr ⟨q, h1, by have := HSZ.out; omega⟩)) HOK.out HPL.out)
          clear hR5 hB5 hg5 hat5
          go_wp2
          go_ret
          refine ⟨v5, rfl, ?_⟩
          rw [HFIN.out]
          exact HF.out
end Go.Proofs.YtopbjginpmdebaaDoor.K
-- exactpplref19.Order, Canon
namespace Go.Proofs.YtopbjginpmdebaaDoor.K
open Go.RowKit Go.Maps Go.Proofs.YtopbjginpmdebaaDoorW.PrintWords Go.Proofs.YtopbjginpmdebaaDoorW.PrintLast Go.Proofs.YtopbjginpmdebaaDoorW.PrintMore
set_option linter.unusedVariables false
set_option linter.unusedSimpArgs false
/-- how a function ends that returns a diagram -/
def DPost (w : World) (l : List Nd) (e : Ending) (w' : World) : Prop := Below w.heap.size w w' ∧ ∃ vo, e = .returned (.agg #[vo]) ∧ k60.R 60 w' w.heap.size (fun _ => True) vo l
/-- the first j entries are -1 -/
def mns (j n : Nat) : List Int := List.replicate j (-1) ++ List.replicate (n - j) 0
theorem mns_len {j n : Nat} (h : j ≤ n) : (mns j n).length = n := by simp [mns]; omega
theorem mns_set {j n : Nat} (h : j < n) : (mns j n).set j (-1) = mns (j + 1) n := by
  unfold mns
  obtain ⟨m, hm⟩ : ∃ m, n - j = m + 1 := ⟨n - j - 1, by omega⟩
  rw [hm, List.set_append_right _ _ (by simp), List.length_replicate, Nat.sub_self, List.replicate_succ, List.set_cons_zero, show n - (j + 1) = m by omega, List.replicate_succ' (n := j), List.append_assoc]
  rfl
theorem mns_all (n : Nat) : mns n n = atl n (fun _ => none) := by
  unfold mns atl
  simp only [Nat.sub_self, List.replicate_zero, List.append_nil, Option.getD_none]
  apply List.ext_getElem
  · simp
  · intro i h1 h2; simp
set_option maxHeartbeats 16000000 in
set_option maxRecDepth 100000 in
theorem order_calls (u : List Nd) (root : Nat) (Au : Option Addr) (cu : Nat) (w : World) (hC : k60.C w Au u.length u) (hcu : u.length ≤ cu) (hu : Down u) (hr : root < u.length) (hkl : ∀ x ∈ u, x.f2.length ≤ 1073741824) (hul : (u.length + 1) * 40 ≤ 140737488355328) :
    Calls Tryd.prog 73 #[.slice Au u.length cu, .int .i64 (root : Nat)] w (DPost w (expo u (root : Nat))) := by
  have HC := Lib.hid hC
  have HU := Lib.hid hu
  have HKL := Lib.hid hkl
  have HUL := Lib.hid hul
  have HCU := Lib.hid hcu
  obtain ⟨N, hN⟩ : ∃ N, N = u.length := ⟨_, rfl⟩
  have HN := Lib.hid hN
  have hmk := print_make (P := Tryd.prog) 22 3 .i64 8 Tryd.underlying22 info3 (by decide) N (by omega)
  rw [← hN] at hul hcu hr ⊢
  clear hC hu hkl hN
  have hb0 : Below w.heap.size w (w.alloc (.cells #[.slice none 0 0] 31)) := (Below.refl _ w).alloc (Nat.le_refl _) _
  have hbx0 := heap_alloc_new w (.cells #[.slice none 0 0] 31)
  have hs0 : (w.alloc (.cells #[.slice none 0 0] 31)).heap.size = w.heap.size + 1 := by simp
  have harr := Arr.made (w.alloc (.cells #[.slice none 0 0] 31)) N (by omega)
  rw [hs0] at harr
  have hb1 : Below w.heap.size w ((w.alloc (.cells #[.slice none 0 0] 31)).alloc (.cells (madeCells #[.int .i64 0] N) 3)) := hb0.alloc (by rw [hs0]; omega) _
  have hbx1 : ((w.alloc (.cells #[.slice none 0 0] 31)).alloc (.cells (madeCells #[.int .i64 0] N) 3)).heap[w.heap.size]? = some (.cells #[.slice none 0 0] 31 (0, 0)) := (Below.heap_alloc _ _ _ (by rw [hs0]; omega)).trans hbx0
  have H0 := Lib.hid (And.intro hb1 (And.intro hbx1 harr))
  clear hb0 hbx0 hs0 harr hb1 hbx1
  go_enter Tryd.func73, Tryd.ntmps73
  go_wp2
  go_loopw [6] (fun i W => ∃ j : Nat, i = .int .i64 j ∧ j ≤ N ∧ Below w.heap.size w W ∧ W.heap[w.heap.size]? = some (.cells #[.slice none 0 0] 31 (0, 0)) ∧ Arr W (w.heap.size + 1) (mns j N)) (fun i _ => N - (intOf i).toNat)
  case atStart => exact ⟨0, rfl, Nat.zero_le _, H0.out.1, H0.out.2.1, by simpa [mns] using H0.out.2.2⟩
  case round =>
    obtain ⟨j, rfl, hj, hB, hbx, har⟩ := hrel
    have HB := Lib.hid hB
    have HBX := Lib.hid hbx
    have HA := Lib.hid har
    clear hB hbx har
    by_cases hjl : j < N
    · have e0 := HA.out.at j (by rw [mns_len hj]; exact hjl)
      have e1 := e0.1
      have e2 := e0.2
      have hjb : j < 4000000000000 := by omega
      have hji : (j : Int) < (N : Int) := by omega
      clear e0
      go_wp2
      go_roundw
      case rel =>
        refine ⟨j + 1, by go_num, hjl, HB.out.setCell (p := ⟨w.heap.size + 1, j, none⟩) (by show w.heap.size ≤ w.heap.size + 1; omega) _, (Below.heap_setCell _ ⟨w.heap.size + 1, j, none⟩ _ _ (by show w.heap.size ≠ w.heap.size + 1; omega)).trans HBX.out, ?_⟩
        rw [← mns_set hjl]
        exact HA.out.put j (-1)
      case measure => simp [intOf]; omega
    · obtain rfl : j = N := by omega
      have hwk : Wk w.heap.size (w.heap.size + 1) (fun q => q ≠ w.heap.size + 1 ∧ q ≠ w.heap.size) wr u (fun _ => none, []) (.slice none 0 0) := ⟨by rw [← HN.out, ← mns_all]; exact HA.out, Kd.R_nil _ _ _ _ _, pl_nil u⟩
      have hbl := HA.out.lt
      have hA := (walk_calls w.heap.size (w.heap.size + 1) u HU.out Au cu HCU.out HKL.out HUL.out (by omega) (root + 1) root _ (fun q => q ≠ w.heap.size + 1 ∧ q ≠ w.heap.size) (.slice none 0 0) wr (by have := HN.out; omega) (by omega) (by omega) (fun W hW => Kd.C_below HC.out (HB.out.trans hW)) hwk (fun q hq => hq.1) (fun q hq => ⟨by omega, by omega⟩)).mono (R' := fun e w2 => ∃ v', e = .returned v' ∧ Below w.heap.size w w2 ∧ w2.heap[w.heap.size]? = some (.cells #[.slice none 0 0] 31 (0, 0)) ∧ k60.R 60 w2 w.heap.size (fun q => q ≠ w.heap.size + 1 ∧ q ≠ w.heap.size) v' (expo u (root : Nat))) (by
        rintro e w2 ⟨v', rfl, h1, h2, h3⟩
        refine ⟨v', rfl, HB.out.trans (h2.below (by omega) (by omega) (by simp [Value.ownBlock])), (h2.same _ (blk_lt HBX.out) (by omega) (by simp [Value.ownBlock])).trans HBX.out, ?_⟩
        unfold expo
        rw [Int.toNat_natCast]
        exact h1.row)
      rw [← HN.out] at hA
      clear hwk
      go_wp2_with (go_at_call 78; refine hA.mono ?_; clear hA; rintro e w2 ⟨v2, rfl, hb2, hbx2, hR2⟩; obtain ⟨A2, c2, rfl⟩ := Kd.R_slice hR2; have b0 := blk_cell hbx2 0; have f0 := blk_frozen hbx2 0; have HB2 := Lib.hid hb2; have HBX2 := Lib.hid hbx2; have HR2 := Lib.hid hR2; clear hb2 hbx2 hR2)
      have hb3 := blk_set HBX2.out 0 (.slice A2 (expo u (root : Nat)).length c2)
      have q0 := (blk_cell hb3 0).trans rfl
      refine bodyPost_ret (v := .agg #[.slice A2 (expo u (root : Nat)).length c2]) (by simp [results, Tryd.f73, go_sem, q0]) rfl ⟨HB2.out.setCell (p := ⟨w.heap.size, 0, none⟩) (Nat.le_refl _) _, _, rfl, ?_⟩
      exact Kd.R_mono (Kd.R_far (p := ⟨w.heap.size, 0, none⟩) HR2.out (fun q hq => hq.2) _) (fun _ _ => trivial)
theorem expo_len {u : List Nd} (hu : Down u) {r : Nat} (hr : r < u.length) : (expo u (r : Nat)).length ≤ u.length := by
  obtain ⟨g, h, _⟩ := expo_pl hu hr
  exact h.len
set_option maxHeartbeats 16000000 in
set_option maxRecDepth 100000 in
theorem canon_calls (nodes : List Nd) (A : Option Addr) (c : Nat) (w : World) (hC : k60.C w A nodes.length nodes) (hc : nodes.length ≤ c) (hF : Fit nodes) (hfr : ∀ n ∈ nodes, Frm n) (hne : nodes ≠ [])
    (hlen : ∀ x ∈ nodes, x.f2.length ≤ 1073741824) (hroom : (nodes.length + 1) * 40 ≤ 140737488355328) :
    Calls Tryd.prog 68 #[.slice A nodes.length c] w (DPost w (expo (imp [] [] nodes).1 (rtN nodes : Nat))) := by
  have hb0 : Below w.heap.size w (w.alloc (.cells #[.slice none 0 0] 31)) := (Below.refl _ w).alloc (Nat.le_refl _) _
  have hbx0 := heap_alloc_new w (.cells #[.slice none 0 0] 31)
  have hs0 : (w.alloc (.cells #[.slice none 0 0] 31)).heap.size = w.heap.size + 1 := by simp
  have hp := List.length_pos_iff.2 hne
  have htl := imp_tbl hF tbl_nil nodes.length (Nat.le_refl _)
  rw [List.take_length] at htl
  have hl := imp_len nodes [] []
  have hrt : lk (imp [] [] nodes).2 ((nodes.length - 1 : Nat) : Int) = (rtN nodes : Int) ∧ rtN nodes < (imp [] [] nodes).1.length := by
    have h2 := htl.1.at_lt _ (lk_mem (at_ := (imp [] [] nodes).2) (c := ((nodes.length - 1 : Nat) : Int)) (by omega) (by rw [hl]; simp; omega))
    unfold rtN; omega
  have hA := (append_calls (w.heap.size + 1) (fun _ => True) [] nodes none A 0 c (w.alloc (.cells #[.slice none 0 0] 31)) (by omega) (Kd.R_nil _ _ _ _ _) (fun W hW => Kd.C_below hC (hb0.trans ⟨hW.os, hW.tape, hW.output, hW.size, fun j hj => hW.block j (by omega) (by simp [Value.ownBlock])⟩)) hc hF hfr tbl_nil hlen (by simp) (by simp; omega) (fun _ _ => trivial)).mono (R' := fun e w2 => ∃ A2 c2, e = .returned (.tuple #[.slice A2 (imp [] [] nodes).1.length c2, .slice (some ⟨w.heap.size + 1, 0, none⟩) nodes.length nodes.length]) ∧ (imp [] [] nodes).1.length ≤ c2 ∧ k60.C w2 A2 (imp [] [] nodes).1.length (imp [] [] nodes).1 ∧ Below (w.heap.size + 1) (w.alloc (.cells #[.slice none 0 0] 31)) w2 ∧ w2.cell? ⟨w.heap.size + 1, nodes.length - 1, none⟩ = some (.int .i64 (rtN nodes : Nat))) (by
    rintro e w2 ⟨v', rfl, h⟩
    have h1 := h.row
    have h2 := h.arr
    rw [List.take_length] at h1 h2
    rw [hs0] at h2 ⊢
    obtain ⟨A2, c2, rfl, h3, h4⟩ := Kd.R_reads h1
    refine ⟨A2, c2, rfl, h3, h4, ⟨h.grown.os, h.grown.tape, h.grown.output, h.grown.size, fun j hj => h.grown.block j (by omega) (by simp [Value.ownBlock])⟩, ?_⟩
    have h5 := (h2.at (nodes.length - 1) (by rw [padd_len (by rw [hl]; simp)]; omega)).1
    rw [padd_get (by rw [hl]; simp; omega)] at h5
    rw [h5]
    have h6 := hrt.1
    unfold lk at h6
    rw [Int.toNat_natCast] at h6
    rw [h6])
  have hkl : ∀ x ∈ (imp [] [] nodes).1, x.f2.length ≤ 1073741824 := imp_kids nodes [] [] (by simp) hlen
  obtain ⟨U, hU⟩ : ∃ U, U = (imp [] [] nodes).1 := ⟨_, rfl⟩
  rw [← hU] at hA hkl htl hrt ⊢
  have HB0 := Lib.hid hb0
  have HBX0 := Lib.hid hbx0
  have HD := Lib.hid htl.1.down
  have HRT := Lib.hid hrt.2
  have HKL := Lib.hid hkl
  have hUl : U.length ≤ nodes.length := by have := htl.2.1; simpa using this
  obtain ⟨N, hN⟩ : ∃ N, N = nodes.length := ⟨_, rfl⟩
  obtain ⟨R, hR⟩ : ∃ R, R = rtN nodes := ⟨_, rfl⟩
  rw [← hR] at hA HRT ⊢
  rw [← hN] at hA hUl hp hroom hc ⊢
  have hNb : N < 4000000000000 := by omega
  have e1 : (N : Int) - 1 = ((N - 1 : Nat) : Int) := by omega
  have hN1 : N - 1 < N := by omega
  have HS0 := Lib.hid hs0
  clear hb0 hbx0 htl hrt hkl hU hl hC hF hfr hne hlen hN hs0 hR
  go_enter Tryd.func68, Tryd.ntmps68
  go_wp2_with (first
    | (go_at_call 71; refine hA.mono ?_; clear hA; rintro e w2 ⟨A2, c2, rfl, hc2, hC2, hb2, hat2⟩; have hbx2 := (hb2.block w.heap.size (by omega)).trans HBX0.out; have HBX2 := Lib.hid hbx2; have HB2 := Lib.hid (HB0.out.trans (hb2.mono (by omega))); have HC2 := Lib.hid hC2; clear hbx2 hb2 hC2)
    | (go_at_call 73; refine (order_calls U R A2 c2 w2 HC2.out hc2 HD.out HRT.out HKL.out (by omega)).mono ?_; rintro e w3 ⟨hb3, vo, rfl, hR3⟩; obtain ⟨A3, c3, rfl⟩ := Kd.R_slice hR3; have hbx3 := (hb3.block _ (blk_lt HBX2.out)).trans HBX2.out; have b0 := blk_cell hbx3 0; have f0 := blk_frozen hbx3 0; have HBX3 := Lib.hid hbx3; have HB3 := Lib.hid hb3; have HR3 := Lib.hid hR3; clear hbx3 hb3 hR3))
  have hb4 := blk_set HBX3.out 0 (.slice A3 (expo U (R : Nat)).length c3)
  have q0 := (blk_cell hb4 0).trans rfl
  have hsz2 := HB2.out.size
  have hl2 := blk_lt HBX2.out
  refine bodyPost_ret (v := .agg #[.slice A3 (expo U (R : Nat)).length c3]) (by simp [results, Tryd.f68, go_sem, q0]) rfl ⟨(HB2.out.trans (HB3.out.mono hsz2)).setCell (p := ⟨w.heap.size, 0, none⟩) (Nat.le_refl _) _, _, rfl, ?_⟩
  exact Kd.R_lower (Kd.R_mono (Kd.R_far (p := ⟨w.heap.size, 0, none⟩) (Kd.R_bound HR3.out) (fun q hq => by show q ≠ w.heap.size; have := hq.2.1; omega) _) (fun _ _ => trivial)) hsz2
end Go.Proofs.YtopbjginpmdebaaDoor.K
-- the contracts of diagram's functions, in the form that the printed texts call them
namespace Go.Proofs.YtopbjginpmdebaaDoor.K
open Go.RowKit Go.Maps Go.Proofs.YtopbjginpmdebaaDoorW.PrintWords Go.Proofs.YtopbjginpmdebaaDoorW.PrintLast Go.Proofs.YtopbjginpmdebaaDoorW.PrintMore
set_option linter.unusedVariables false
set_option linter.unusedSimpArgs false
theorem ptab {w W : World} (h : PowTab w.heap.size w) (hb : Below w.heap.size w W) : PowTab W.heap.size W := PowTab.up (h.on hb) hb.size
/-- nodes whose numbers and lengths are a machine's -/
def ndOk (l : List Nd) : Bool := l.all (fun n => decide (-9223372036854775808 ≤ n.f0 ∧ n.f0 ≤ 9223372036854775807 ∧ -9223372036854775808 ≤ n.f1 ∧ n.f1 ≤ 9223372036854775807 ∧ n.f2.length ≤ 1073741824)) && decide ((l.length + 1) * 40 ≤ 140737488355328)
theorem ndOk_I {l : List Nd} (h : ndOk l = true) : ∀ n ∈ l, I64 n.f0 ∧ I64 n.f1 ∧ n.f2.length ≤ 1073741824 := by
  unfold ndOk at h
  rw [Bool.and_eq_true, List.all_eq_true] at h
  intro n hn
  have := of_decide_eq_true (h.1 n hn)
  exact ⟨⟨by omega, by omega⟩, ⟨by omega, by omega⟩, this.2.2.2.2⟩
theorem ndOk_room {l : List Nd} (h : ndOk l = true) : (l.length + 1) * 40 ≤ 140737488355328 := by
  unfold ndOk at h
  rw [Bool.and_eq_true] at h
  exact of_decide_eq_true h.2
theorem V_of_R {w w' : World} {vo : Value} {l : List Nd} (h : k60.R 60 w' w.heap.size (fun _ => True) vo l) : Kd.V k60 60 w' w.heap.size (fun k_ => (w.heap.size ≤ k_)) vo l :=
  Kd.R_V (Kd.R_mono (Kd.R_bound h) (fun k hk => hk.2.1))
def diagram_Reduce.f (l : List S60) : Option (List S60 × Int) := if ndOk l = true then some (redL l, redE l) else none
theorem diagram_Reduce.calls (A : Option Addr) (c : Nat) (l : List S60) (r1 : List S60) (r2 : Int) (w : World) (hr : Kd.C k60 w A l.length l) (hc : l.length ≤ c) (h : diagram_Reduce.f l = some (r1, r2)) (htab : PowTab w.heap.size w) :
    Calls Tryd.prog 19 #[.slice A l.length c] w fun e w' => ∃ v0_ : Value, e = .returned (.tuple #[.agg #[v0_], .int .i64 r2]) ∧ Kd.V k60 60 w' w.heap.size (fun k_ => (w.heap.size ≤ k_)) v0_ r1 ∧ Below w.heap.size w w' := by
  unfold diagram_Reduce.f at h
  by_cases hk : ndOk l = true
  · rw [if_pos hk] at h
    simp only [Option.some.injEq, Prod.mk.injEq] at h
    obtain ⟨rfl, rfl⟩ := h
    exact (reduce_calls l A c w hr hc (ndOk_I hk) (ndOk_room hk) htab).mono fun e w' ⟨hb, vo, he, hR⟩ => ⟨vo, he, V_of_R hR, hb⟩
  · rw [if_neg hk] at h; cases h
def diagram_Validate.f (l : List S60) : Option Int := if ndOk l = true then some (valE l) else none
theorem diagram_Validate.calls (A : Option Addr) (c : Nat) (l : List S60) (r : Int) (w : World) (hr : Kd.C k60 w A l.length l) (hc : l.length ≤ c) (h : diagram_Validate.f l = some r) (htab : PowTab w.heap.size w) :
    Calls Tryd.prog 21 #[.agg #[.slice A l.length c]] w fun e w' => e = .returned (.int .i64 r) ∧ Below w.heap.size w w' := by
  unfold diagram_Validate.f at h
  by_cases hk : ndOk l = true
  · rw [if_pos hk] at h
    obtain rfl := Option.some.inj h
    exact validate_calls l A c w hr hc (ndOk_I hk) (ndOk_room hk) htab (fun n hn => Nat.le_trans (redL_kids16 l n hn) (by decide))
  · rw [if_neg hk] at h; cases h
def diagram_Eval.f (l : List S60) (o : List Int) : Option (Int × Int) := if ndOk l = true then (if o.length ≤ 17592186044000 then some (evR l o) else none) else none
theorem diagram_Eval.calls (A : Option Addr) (c : Nat) (l : List S60) (Ao : Option Addr) (co : Nat) (o : List Int) (r1 r2 : Int) (w : World) (hr : Kd.C k60 w A l.length l) (hc : l.length ≤ c) (hro : (Kd.int .i64).C w Ao o.length o) (hco : o.length ≤ co) (h : diagram_Eval.f l o = some (r1, r2)) (htab : PowTab w.heap.size w) :
    Calls Tryd.prog 26 #[.agg #[.slice A l.length c], .slice Ao o.length co] w fun e w' => e = .returned (.tuple #[.int .i64 r1, .int .i64 r2]) ∧ Below w.heap.size w w' := by
  unfold diagram_Eval.f at h
  by_cases hk : ndOk l = true
  · rw [if_pos hk] at h
    by_cases ho : o.length ≤ 17592186044000
    · rw [if_pos ho] at h
      have h := Option.some.inj h
      have h1 : (evR l o).1 = r1 := by rw [h]
      have h2 : (evR l o).2 = r2 := by rw [h]
      rw [← h1, ← h2]
      exact eval_calls l o A Ao c co w hr hc (ndOk_I hk) (ndOk_room hk) htab hro ho
    · rw [if_neg ho] at h; cases h
  · rw [if_neg hk] at h; cases h
def exactppllaw19_awake.f : Option Bool := some true
theorem exactppllaw19_awake.calls (r : Bool) (w : World) (h : exactppllaw19_awake.f = some r) (htab : PowTab w.heap.size w) : Calls Tryd.prog 17 #[] w fun e w' => e = .returned (.bool r) ∧ Below w.heap.size w w' := by
  obtain rfl := Option.some.inj h
  exact awake_calls w htab
end Go.Proofs.YtopbjginpmdebaaDoor.K
-- the reference's Canon, in the form that the printed texts call it
namespace Go.Proofs.YtopbjginpmdebaaDoor.K
open Go.RowKit Go.Maps Go.Proofs.YtopbjginpmdebaaDoorW.PrintWords Go.Proofs.YtopbjginpmdebaaDoorW.PrintLast Go.Proofs.YtopbjginpmdebaaDoorW.PrintMore
set_option linter.unusedVariables false
set_option linter.unusedSimpArgs false
theorem gr_frm {nodes : List Nd} (h : grB nodes = true) : ∀ n ∈ nodes, Frm n := by
  intro n hn
  obtain ⟨i, hi, rfl⟩ := mem_nth hn
  rcases gr_nd h hi with h1 | h1
  · exact .inl ⟨(lf_iff.1 h1).1, (lf_iff.1 h1).2.1⟩
  · have := (br_iff.1 h1).1
    exact .inr ⟨this.1, this.2.2.1, fun e => by rw [e] at this; simp at this⟩
def exactpplref19_Canon.f (l : List S60) : Option (List S60) := if grB l = true then (if ndOk l = true then some (cn l) else none) else none
theorem exactpplref19_Canon.calls (A : Option Addr) (c : Nat) (l : List S60) (r : List S60) (w : World) (hr : Kd.C k60 w A l.length l) (hc : l.length ≤ c) (h : exactpplref19_Canon.f l = some r) :
    Calls Tryd.prog 68 #[.slice A l.length c] w fun e w' => ∃ v0_ : Value, e = .returned (.agg #[v0_]) ∧ Kd.V k60 60 w' w.heap.size (fun k_ => (w.heap.size ≤ k_)) v0_ r ∧ Below w.heap.size w w' := by
  unfold exactpplref19_Canon.f at h
  by_cases hg : grB l = true
  · rw [if_pos hg] at h
    by_cases hk : ndOk l = true
    · rw [if_pos hk] at h
      obtain rfl := Option.some.inj h
      exact (canon_calls l A c w hr hc (gr_fit hg) (gr_frm hg) (gr_ne hg) (fun x hx => (ndOk_I hk x hx).2.2) (ndOk_room hk)).mono fun e w' ⟨hb, vo, he, hR⟩ => ⟨vo, he, V_of_R hR, hb⟩
    · rw [if_neg hk] at h; cases h
  · rw [if_neg hg] at h; cases h
end Go.Proofs.YtopbjginpmdebaaDoor.K
namespace Go.Proofs.YtopbjginpmdebaaDoor.K
open Go.RowKit Go.Proofs.YtopbjginpmdebaaDoorW.PrintWords Go.Proofs.YtopbjginpmdebaaDoorW.PrintLast Go.Proofs.YtopbjginpmdebaaDoorW.PrintMore
attribute [local go_sem] max2_int min2_int max_two min_two max_three min_three max_four min_four   -- for this text's walks alone
set_option linter.unusedVariables false
set_option linter.unusedSimpArgs false

/-! ### exactpplref19_Reduce: function 43 -/
def exactpplref19_Reduce.f (k : Nat) (l0 : List (S60)) : Option ((List (S60)) × Int) := (exactpplref19_Graph.f k l0).bind fun t198 => (if t198 = true then ((exactpplref19_Canon.f l0).bind fun t199 => ((exactpplref19_Fit.f t199).bind fun bt202 => (some (bt202.1, bt202.2)))) else (some (([] : List (S60)), 2)))
theorem exactpplref19_Reduce.mono : ∀ a0 k, LeO (exactpplref19_Reduce.f k a0) (exactpplref19_Reduce.f (k + 1) a0) := by
  intro a0 k
  unfold exactpplref19_Reduce.f
  repeat' first
      | (with_reducible exact exactpplref19_Graph.mono _ _)
      | (with_reducible exact LeO.refl _)
      | (with_reducible exact LeO.none _)
      | (with_reducible refine LeO.ite ?_ ?_)
      | (with_reducible refine LeO.bind ?_ (fun _ => ?_))
      | exact exactpplref19_Graph.mono _ _
      | exact LeO.none _
      | refine LeO.ite ?_ ?_
      | refine LeO.bind ?_ (fun _ => ?_)
set_option maxHeartbeats 8000000 in
set_option maxRecDepth 100000 in
theorem exactpplref19_Reduce.calls (k : Nat) (A0 : Option Addr) (c0 : Nat) (l0 : List (S60)) (r1 : List (S60)) (r2 : Int) (w : World) (hr0 : Kd.C k60 w A0 l0.length l0) (hc0 : l0.length ≤ c0) (h : exactpplref19_Reduce.f k l0 = some (r1, r2)) :
    Calls Tryd.prog 43 #[.slice A0 l0.length c0] w fun e w' => ∃ v0_ : Value, e = .returned (.tuple #[.agg #[v0_], .int .i64 r2]) ∧ Kd.V k60 60 w' w.heap.size (fun k_ => (w.heap.size ≤ k_)) v0_ r1 ∧ Below w.heap.size w w' := by
  have hu31 := Tryd.underlying31
  have HR0 := Aside0.mk hr0
  have HC0 := Aside0.mk hc0
  clear hr0 hc0
  have HB := Aside0.mk (Below.refl w.heap.size w)
  have H : ((exactpplref19_Graph.f k l0).bind fun t198 => (if t198 = true then ((exactpplref19_Canon.f l0).bind fun t199 => ((exactpplref19_Fit.f t199).bind fun bt202 => (some (bt202.1, bt202.2)))) else (some (([] : List (S60)), 2)))) = some (r1, r2) := h
  clear h
  replace H := Option.bind_eq_some_iff.mp H
  obtain ⟨t198, A20, H⟩ := H
  replace H : (if t198 = true then ((exactpplref19_Canon.f l0).bind fun t199 => ((exactpplref19_Fit.f t199).bind fun bt202 => (some (bt202.1, bt202.2)))) else (some (([] : List (S60)), 2))) = some (r1, r2) := H
  have A2 := Aside0.mk A20
  clear A20
  by_cases c3 : t198 = true
  · subst c3
    have H1 : ((exactpplref19_Canon.f l0).bind fun t199 => ((exactpplref19_Fit.f t199).bind fun bt202 => (some (bt202.1, bt202.2)))) = some (r1, r2) := by rw [if_pos rfl] at H; exact H
    clear H
    have H := H1
    clear H1
    replace H := Option.bind_eq_some_iff.mp H
    obtain ⟨t199, A40, H⟩ := H
    replace H : ((exactpplref19_Fit.f t199).bind fun bt202 => (some (bt202.1, bt202.2))) = some (r1, r2) := H
    have A4 := Aside0.mk A40
    clear A40
    replace H := Option.bind_eq_some_iff.mp H
    obtain ⟨⟨t202, t205⟩, A50, H⟩ := H
    replace H : (some (t202, t205)) = some (r1, r2) := H
    have A5 := Aside0.mk A50
    clear A50
    simp only [Option.some.injEq, Prod.mk.injEq] at H
    obtain ⟨rfl, rfl⟩ := H
    go_enter Tryd.func43, Tryd.ntmps43
    go_wp2_with (first | ((with_reducible refine gate_dst (N := 2) rfl ?_); refine box_event ?hg (N := 2) ?hd (cs := #[.slice none 0 0]) (t := 31) ?hr ?_; (case hd => rfl); (case hg => rfl); (case hr => first | (go_simp; done) | (go_simp; rfl)); intro gb197 hg w6 hbox hb; have n0_ := Aside0.mk (below_step (by repeat (first | (with_reducible first | exact HB.out | apply below_alloc | apply pw_below_drewN | apply below_drew1) | exact HB.out)) hb); have n1_ := Aside0.mk (hbox); have n2_ := Aside0.mk ((by rw [hg]; exact (below_size (by repeat (first | (with_reducible first | exact HB.out | apply below_alloc | apply pw_below_drewN | apply below_drew1) | exact HB.out))) : w.heap.size ≤ gb197)); have n3_ := Aside0.mk ((by rw [hg]; exact (below_size (by repeat (first | (with_reducible first | exact HB.out | apply below_alloc | apply pw_below_drewN | apply below_drew1) | exact HB.out))) : w.heap.size ≤ gb197)); clear HB; have HB := n0_; have BK197 := n1_; have GW197 := n2_; have GE197 := n3_; clear n0_ n1_ n2_ n3_; clear hb hbox hg) | ((with_reducible refine gate_callee (f := 67) rfl ?_); refine goesL_ (some 5) rfl rfl Tryd.func67 (by kernel_rfl) rfl #[.slice A0 l0.length c0] rfl (by (try simp only [List.map_toArray, List.map_cons, List.map_nil]); first | done | rfl | (simp only [List.length_drop, List.length_take]; rfl)) ?_; (with_reducible refine (exactpplref19_Graph.calls k _ _ l0 true _ ?side1 ?side2 A2.out).mono ?_); (case side1 => repeat (first | exact (Kd.C_below HR0.out HB.out) | (with_reducible refine Kd.C_alloc ?_ _) | (with_reducible refine Kd.C_drewN ?_ _) | (with_reducible refine Kd.C_drew ?_))); (case side2 => exact HC0.out); rintro e w7 ⟨rfl, hb⟩; refine ⟨_, rfl, ?_⟩; have n0_ := Aside0.mk (blk_below (g := gb197) (o := .cells #[.slice none 0 0] 31 (0, 0)) (by (with_reducible repeat (first | refine blk_drewN ?_ _ | refine blk_drew ?_ | refine blk_alloc ?_ _)); exact BK197.out) hb); have n1_ := Aside0.mk (below_step (by repeat (first | (with_reducible first | exact HB.out | apply below_alloc | apply pw_below_drewN | apply below_drew1 | refine below_set ?_ GE197.out) | exact HB.out)) hb); clear BK197; clear HB; have BK197 := n0_; have HB := n1_; clear n0_ n1_; (try clear hb); (try clear hb2); (try clear hk); (try clear hi)) | ((with_reducible refine gate_callee (f := 68) rfl ?_); refine goesL_ (some 9) rfl rfl Tryd.func68 (by kernel_rfl) rfl #[.slice A0 l0.length c0] rfl (by (try simp only [List.map_toArray, List.map_cons, List.map_nil]); first | done | rfl | (simp only [List.length_drop, List.length_take]; rfl)) ?_; (with_reducible refine (exactpplref19_Canon.calls _ _ l0 t199 _ ?side1 ?side2 A4.out).mono ?_); (case side1 => repeat (first | exact (Kd.C_below HR0.out HB.out) | (with_reducible refine Kd.C_alloc ?_ _) | (with_reducible refine Kd.C_drewN ?_ _) | (with_reducible refine Kd.C_drew ?_))); (case side2 => exact HC0.out); rintro e w8 ⟨v200, rfl, ho0, hb⟩; refine ⟨_, rfl, ?_⟩; have n0_ := Aside0.mk (Kd.V_lower (Kd.V_mono (ok' := fun k_ => (w.heap.size ≤ k_) ∧ k_ ≠ gb197) ho0 (fun k_ hk_ => ⟨(Nat.le_trans (below_size (by repeat (first | (with_reducible first | exact HB.out | apply below_alloc | apply pw_below_drewN | apply below_drew1 | refine below_set ?_ GE197.out) | exact HB.out))) hk_), (Kd.freshB (g := gb197) (o := .cells #[.slice none 0 0] 31 (0, 0)) (by (with_reducible repeat (first | refine blk_drewN ?_ _ | refine blk_drew ?_ | refine blk_alloc ?_ _)); exact BK197.out) k_ hk_)⟩)) (below_size (by repeat (first | (with_reducible first | exact HB.out | apply below_alloc | apply pw_below_drewN | apply below_drew1 | refine below_set ?_ GE197.out) | exact HB.out)))); have n1_ := Aside0.mk (blk_below (g := gb197) (o := .cells #[.slice none 0 0] 31 (0, 0)) (by (with_reducible repeat (first | refine blk_drewN ?_ _ | refine blk_drew ?_ | refine blk_alloc ?_ _)); exact BK197.out) hb); have n2_ := Aside0.mk (below_step (by repeat (first | (with_reducible first | exact HB.out | apply below_alloc | apply pw_below_drewN | apply below_drew1 | refine below_set ?_ GE197.out) | exact HB.out)) hb); clear BK197; clear HB; have HO201 := n0_; have BK197 := n1_; have HB := n2_; clear n0_ n1_ n2_; (try clear hb); (try clear hb2); (try clear hk); (try clear hi); (try clear ho0); obtain ⟨Ao9, co9, eo9⟩ := Kd.V_slice HO201.out; subst eo9) | ((with_reducible refine gate_callee (f := 62) rfl ?_); refine goesL_ (some 10) rfl rfl Tryd.func62 (by kernel_rfl) rfl #[.agg #[.slice Ao9 t199.length co9]] rfl (by (try simp only [List.map_toArray, List.map_cons, List.map_nil]); first | done | rfl | (simp only [List.length_drop, List.length_take]; rfl)) ?_; (with_reducible refine (exactpplref19_Fit.calls (fun k_ => ((w.heap.size ≤ k_) ∧ k_ ≠ gb197)) _ _ t199 t202 t205 _ ?side1 A5.out).mono ?_); (case side1 => exact HO201.out); rintro e w10 ⟨v203, rfl, ho0, hb⟩; refine ⟨_, rfl, ?_⟩; have n0_ := Aside0.mk (Kd.V_below (by (with_reducible repeat (first | apply Kd.V_alloc | apply Kd.V_drewN | apply Kd.V_drew)); exact HO201.out) hb); have n1_ := Aside0.mk (Kd.V_lower (Kd.V_mono (ok' := fun k_ => (w.heap.size ≤ k_) ∧ k_ ≠ gb197) ho0 (fun k_ hk_ => ⟨Or.elim hk_ (fun hs_ => hs_.1) (fun hn_ => (Nat.le_trans (below_size (by repeat (first | (with_reducible first | exact HB.out | apply below_alloc | apply pw_below_drewN | apply below_drew1 | refine below_set ?_ GE197.out) | exact HB.out))) hn_)), Or.elim hk_ (fun hs_ => hs_.2) (fun hn_ => (Kd.freshB (g := gb197) (o := .cells #[.slice none 0 0] 31 (0, 0)) (by (with_reducible repeat (first | refine blk_drewN ?_ _ | refine blk_drew ?_ | refine blk_alloc ?_ _)); exact BK197.out) k_ hn_))⟩)) (below_size (by repeat (first | (with_reducible first | exact HB.out | apply below_alloc | apply pw_below_drewN | apply below_drew1 | refine below_set ?_ GE197.out) | exact HB.out)))); have n2_ := Aside0.mk (blk_below (g := gb197) (o := .cells #[.slice none 0 0] 31 (0, 0)) (by (with_reducible repeat (first | refine blk_drewN ?_ _ | refine blk_drew ?_ | refine blk_alloc ?_ _)); exact BK197.out) hb); have n3_ := Aside0.mk (below_step (by repeat (first | (with_reducible first | exact HB.out | apply below_alloc | apply pw_below_drewN | apply below_drew1 | refine below_set ?_ GE197.out) | exact HB.out)) hb); clear HO201; clear BK197; clear HB; have HO201 := n0_; have HO204 := n1_; have BK197 := n2_; have HB := n3_; clear n0_ n1_ n2_ n3_; (try clear hb); (try clear hb2); (try clear hk); (try clear hi); (try clear ho0); obtain ⟨Ao11, co11, eo11⟩ := Kd.V_slice HO204.out; subst eo11; have hcz12_0 : w10.cell? ⟨gb197, 0, none⟩ = some (.slice none 0 0) := (blk_cell BK197.out 0).trans rfl; have hfz12_0 := blk_frozen BK197.out 0))
    refine bodyPost_ret (results_ct rfl _ _ gb197 31 #[.slice Ao11 t202.length co11] (0, 0) _ rfl (by (with_reducible repeat (first | refine blk_drewN ?_ _ | refine blk_drew ?_ | refine blk_alloc ?_ _)); refine blk_put (cs := #[.slice none 0 0]) ?_ 0 _ rfl; (with_reducible repeat (first | refine blk_drewN ?_ _ | refine blk_drew ?_ | refine blk_alloc ?_ _)); exact BK197.out) Tryd.underlying31 rfl (by kernel_rfl)) rfl ?_
    exact ⟨_, by first | rfl | (simp [errW_none, errW_some] <;> rfl) | (simp [*, errW_none, errW_some] <;> rfl), by (with_reducible repeat (first | apply Kd.V_alloc | apply Kd.V_drewN | apply Kd.V_drew)); exact Kd.V_mono (Kd.V_far (p := ⟨gb197, 0, none⟩) (Kd.V_mono HO204.out (fun k_ hk => (⟨hk, by first | exact hk.2 | exact hk.1 | exact hk.2 | exact hk.1.1 | exact hk.1.2⟩ : _ ∧ k_ ≠ gb197))) (fun _ hk => hk.2) (.slice Ao11 t202.length co11)) (fun _ hk => hk.1.1), by repeat (first | (with_reducible first | exact HB.out | apply below_alloc | apply pw_below_drewN | apply below_drew1 | refine below_set ?_ GE197.out) | exact HB.out)⟩
  · replace c3 := Bool.eq_false_iff.mpr c3
    subst c3
    have H1 : (some (([] : List (S60)), 2)) = some (r1, r2) := by rw [if_neg (show ¬ (false = true) by decide)] at H; exact H
    clear H
    have H := H1
    clear H1
    simp only [Option.some.injEq, Prod.mk.injEq] at H
    obtain ⟨rfl, rfl⟩ := H
    go_enter Tryd.func43, Tryd.ntmps43
    go_wp2_with (first | ((with_reducible refine gate_dst (N := 2) rfl ?_); refine box_event ?hg (N := 2) ?hd (cs := #[.slice none 0 0]) (t := 31) ?hr ?_; (case hd => rfl); (case hg => rfl); (case hr => first | (go_simp; done) | (go_simp; rfl)); intro gb197 hg w13 hbox hb; have n0_ := Aside0.mk (below_step (by repeat (first | (with_reducible first | exact HB.out | apply below_alloc | apply pw_below_drewN | apply below_drew1) | exact HB.out)) hb); have n1_ := Aside0.mk (hbox); have n2_ := Aside0.mk ((by rw [hg]; exact (below_size (by repeat (first | (with_reducible first | exact HB.out | apply below_alloc | apply pw_below_drewN | apply below_drew1) | exact HB.out))) : w.heap.size ≤ gb197)); have n3_ := Aside0.mk ((by rw [hg]; exact (below_size (by repeat (first | (with_reducible first | exact HB.out | apply below_alloc | apply pw_below_drewN | apply below_drew1) | exact HB.out))) : w.heap.size ≤ gb197)); clear HB; have HB := n0_; have BK197 := n1_; have GW197 := n2_; have GE197 := n3_; clear n0_ n1_ n2_ n3_; clear hb hbox hg) | ((with_reducible refine gate_callee (f := 67) rfl ?_); refine goesL_ (some 5) rfl rfl Tryd.func67 (by kernel_rfl) rfl #[.slice A0 l0.length c0] rfl (by (try simp only [List.map_toArray, List.map_cons, List.map_nil]); first | done | rfl | (simp only [List.length_drop, List.length_take]; rfl)) ?_; (with_reducible refine (exactpplref19_Graph.calls k _ _ l0 false _ ?side1 ?side2 A2.out).mono ?_); (case side1 => repeat (first | exact (Kd.C_below HR0.out HB.out) | (with_reducible refine Kd.C_alloc ?_ _) | (with_reducible refine Kd.C_drewN ?_ _) | (with_reducible refine Kd.C_drew ?_))); (case side2 => exact HC0.out); rintro e w14 ⟨rfl, hb⟩; refine ⟨_, rfl, ?_⟩; have n0_ := Aside0.mk (blk_below (g := gb197) (o := .cells #[.slice none 0 0] 31 (0, 0)) (by (with_reducible repeat (first | refine blk_drewN ?_ _ | refine blk_drew ?_ | refine blk_alloc ?_ _)); exact BK197.out) hb); have n1_ := Aside0.mk (below_step (by repeat (first | (with_reducible first | exact HB.out | apply below_alloc | apply pw_below_drewN | apply below_drew1 | refine below_set ?_ GE197.out) | exact HB.out)) hb); clear BK197; clear HB; have BK197 := n0_; have HB := n1_; clear n0_ n1_; (try clear hb); (try clear hb2); (try clear hk); (try clear hi); have hcz15_0 : w14.cell? ⟨gb197, 0, none⟩ = some (.slice none 0 0) := (blk_cell BK197.out 0).trans rfl; have hfz15_0 := blk_frozen BK197.out 0))
    refine bodyPost_ret (results_ct rfl _ _ gb197 31 #[.slice none 0 0] (0, 0) _ rfl (by (with_reducible repeat (first | refine blk_drewN ?_ _ | refine blk_drew ?_ | refine blk_alloc ?_ _)); refine blk_put (cs := #[.slice none 0 0]) ?_ 0 _ rfl; (with_reducible repeat (first | refine blk_drewN ?_ _ | refine blk_drew ?_ | refine blk_alloc ?_ _)); exact BK197.out) Tryd.underlying31 rfl (by kernel_rfl)) rfl ?_
    exact ⟨_, by first | rfl | (simp [errW_none, errW_some] <;> rfl) | (simp [*, errW_none, errW_some] <;> rfl), Kd.V_nil _ _ _ _ _, by repeat (first | (with_reducible first | exact HB.out | apply below_alloc | apply pw_below_drewN | apply below_drew1 | refine below_set ?_ GE197.out) | exact HB.out)⟩

end Go.Proofs.YtopbjginpmdebaaDoor.K
namespace Go.Proofs.YtopbjginpmdebaaDoor.K
open Go.RowKit Go.Proofs.YtopbjginpmdebaaDoorW.PrintWords Go.Proofs.YtopbjginpmdebaaDoorW.PrintLast Go.Proofs.YtopbjginpmdebaaDoorW.PrintMore
attribute [local go_sem] max2_int min2_int max_two min_two max_three min_three max_four min_four   -- for this text's walks alone
set_option linter.unusedVariables false
set_option linter.unusedSimpArgs false

/-! ### exactpplref19_Validate: function 44 -/
def exactpplref19_Validate.f (k : Nat) (l0_0 : List (S60)) : Option (Int) := (exactpplref19_Reduce.f k l0_0).bind fun bt207 => (if bt207.2 = 0 then ((exactpplref19_Same.f k bt207.1 l0_0).bind fun t212 => (if t212 = true then (some 0) else (some 2))) else (some bt207.2))
theorem exactpplref19_Validate.mono : ∀ a0 k, LeO (exactpplref19_Validate.f k a0) (exactpplref19_Validate.f (k + 1) a0) := by
  intro a0 k
  unfold exactpplref19_Validate.f
  repeat' first
      | (with_reducible exact exactpplref19_Reduce.mono _ _)
      | (with_reducible exact exactpplref19_Same.mono _ _ _)
      | (with_reducible exact LeO.refl _)
      | (with_reducible exact LeO.none _)
      | (with_reducible refine LeO.ite ?_ ?_)
      | (with_reducible refine LeO.bind ?_ (fun _ => ?_))
      | exact exactpplref19_Reduce.mono _ _
      | exact exactpplref19_Same.mono _ _ _
      | exact LeO.none _
      | refine LeO.ite ?_ ?_
      | refine LeO.bind ?_ (fun _ => ?_)
set_option maxHeartbeats 8000000 in
set_option maxRecDepth 100000 in
theorem exactpplref19_Validate.calls (k : Nat) (A0_0 : Option Addr) (c0_0 : Nat) (l0_0 : List (S60)) (r : Int) (w : World) (hr0_0 : Kd.C k60 w A0_0 l0_0.length l0_0) (hc0_0 : l0_0.length ≤ c0_0) (h : exactpplref19_Validate.f k l0_0 = some r) :
    Calls Tryd.prog 44 #[.agg #[.slice A0_0 l0_0.length c0_0]] w fun e w' => e = .returned (.int .i64 r) ∧ Below w.heap.size w w' := by
  have hu31 := Tryd.underlying31
  have HR0_0 := Aside0.mk hr0_0
  have HC0_0 := Aside0.mk hc0_0
  clear hr0_0 hc0_0
  have HB := Aside0.mk (Below.refl w.heap.size w)
  have H : ((exactpplref19_Reduce.f k l0_0).bind fun bt207 => (if bt207.2 = 0 then ((exactpplref19_Same.f k bt207.1 l0_0).bind fun t212 => (if t212 = true then (some 0) else (some 2))) else (some bt207.2))) = some r := h
  clear h
  replace H := Option.bind_eq_some_iff.mp H
  obtain ⟨⟨t207, t210⟩, A20, H⟩ := H
  replace H : (if t210 = 0 then ((exactpplref19_Same.f k t207 l0_0).bind fun t212 => (if t212 = true then (some 0) else (some 2))) else (some t210)) = some r := H
  have A2 := Aside0.mk A20
  clear A20
  by_cases c3 : t210 = 0
  · rw [if_pos c3] at H
    have c3b0 : (t210 == 0) = true := beq_iff_eq.mpr c3
    have c3b1 : (t210 != 0) = false := bne_eq_false_iff_eq.mpr c3
    clear c3
    replace H := Option.bind_eq_some_iff.mp H
    obtain ⟨t212, A40, H⟩ := H
    replace H : (if t212 = true then (some 0) else (some 2)) = some r := H
    have A4 := Aside0.mk A40
    clear A40
    by_cases c5 : t212 = true
    · subst c5
      have H1 : (some 0) = some r := by rw [if_pos rfl] at H; exact H
      clear H
      have H := H1
      clear H1
      obtain rfl := Option.some.inj H
      go_enter Tryd.func44, Tryd.ntmps44
      go_wp2_with (first | ((with_reducible refine gate_dst (N := 1) rfl ?_); refine box_event ?hg (N := 1) ?hd (cs := #[.slice A0_0 l0_0.length c0_0]) (t := 31) ?hr ?_; (case hd => rfl); (case hg => rfl); (case hr => first | (go_simp; done) | (go_simp; rfl)); intro gb206 hg w6 hbox hb; have n0_ := Aside0.mk (below_step (by repeat (first | (with_reducible first | exact HB.out | apply below_alloc | apply pw_below_drewN | apply below_drew1) | exact HB.out)) hb); have n1_ := Aside0.mk (hbox); have n2_ := Aside0.mk ((by rw [hg]; exact (below_size (by repeat (first | (with_reducible first | exact HB.out | apply below_alloc | apply pw_below_drewN | apply below_drew1) | exact HB.out))) : w.heap.size ≤ gb206)); have n3_ := Aside0.mk ((by rw [hg]; exact (below_size (by repeat (first | (with_reducible first | exact HB.out | apply below_alloc | apply pw_below_drewN | apply below_drew1) | exact HB.out))) : w.heap.size ≤ gb206)); clear HB; have HB := n0_; have BK206 := n1_; have GW206 := n2_; have GE206 := n3_; clear n0_ n1_ n2_ n3_; clear hb hbox hg; have hcz7_0 : w6.cell? ⟨gb206, 0, none⟩ = some (.slice A0_0 l0_0.length c0_0) := (blk_cell BK206.out 0).trans rfl; have hfz7_0 := blk_frozen BK206.out 0) | ((with_reducible refine gate_callee (f := 43) rfl ?_); refine goesL_ (some 8) rfl rfl Tryd.func43 (by kernel_rfl) rfl #[.slice A0_0 l0_0.length c0_0] rfl (by (try simp only [List.map_toArray, List.map_cons, List.map_nil]); first | done | rfl | (simp only [List.length_drop, List.length_take]; rfl)) ?_; (with_reducible refine (exactpplref19_Reduce.calls k _ _ l0_0 t207 t210 _ ?side1 ?side2 A2.out).mono ?_); (case side1 => repeat (first | exact (Kd.C_below HR0_0.out HB.out) | (with_reducible refine Kd.C_alloc ?_ _) | (with_reducible refine Kd.C_drewN ?_ _) | (with_reducible refine Kd.C_drew ?_))); (case side2 => exact HC0_0.out); rintro e w8 ⟨v208, rfl, ho0, hb⟩; refine ⟨_, rfl, ?_⟩; have n0_ := Aside0.mk (Kd.V_lower (Kd.V_mono (ok' := fun k_ => k_ ≠ gb206) ho0 (fun k_ hk_ => (Kd.freshB (g := gb206) (o := .cells #[.slice A0_0 l0_0.length c0_0] 31 (0, 0)) (by (with_reducible repeat (first | refine blk_drewN ?_ _ | refine blk_drew ?_ | refine blk_alloc ?_ _)); exact BK206.out) k_ hk_))) (below_size (by repeat (first | (with_reducible first | exact HB.out | apply below_alloc | apply pw_below_drewN | apply below_drew1 | refine below_set ?_ GE206.out) | exact HB.out)))); have n1_ := Aside0.mk (blk_below (g := gb206) (o := .cells #[.slice A0_0 l0_0.length c0_0] 31 (0, 0)) (by (with_reducible repeat (first | refine blk_drewN ?_ _ | refine blk_drew ?_ | refine blk_alloc ?_ _)); exact BK206.out) hb); have n2_ := Aside0.mk (below_step (by repeat (first | (with_reducible first | exact HB.out | apply below_alloc | apply pw_below_drewN | apply below_drew1 | refine below_set ?_ GE206.out) | exact HB.out)) hb); clear BK206; clear HB; have HO209 := n0_; have BK206 := n1_; have HB := n2_; clear n0_ n1_ n2_; (try clear hb); (try clear hb2); (try clear hk); (try clear hi); (try clear ho0)) | ((with_reducible refine gate_dst (N := 3) rfl ?_); refine box_event ?hg (N := 3) ?hd (cs := #[.slice none 0 0]) (t := 31) ?hr ?_; (case hd => rfl); (case hg => rfl); (case hr => first | (go_simp; done) | (go_simp; rfl)); intro gb211 hg w9 hbox hb; have n0_ := Aside0.mk (Kd.V_below (Kd.V_elderB (by (with_reducible repeat (first | apply Kd.V_alloc | apply Kd.V_drewN | apply Kd.V_drew)); exact HO209.out) gb211 (Nat.le_of_eq hg.symm)) hb); have n1_ := Aside0.mk (blk_below (g := gb206) (o := .cells #[.slice A0_0 l0_0.length c0_0] 31 (0, 0)) (by (with_reducible repeat (first | refine blk_drewN ?_ _ | refine blk_drew ?_ | refine blk_alloc ?_ _)); exact BK206.out) hb); have n2_ := Aside0.mk (below_step (by repeat (first | (with_reducible first | exact HB.out | apply below_alloc | apply pw_below_drewN | apply below_drew1 | refine below_set ?_ GE206.out) | exact HB.out)) hb); have n3_ := Aside0.mk (hbox); have n4_ := Aside0.mk ((by rw [hg]; exact (below_size (by repeat (first | (with_reducible first | exact HB.out | apply below_alloc | apply pw_below_drewN | apply below_drew1 | refine below_set ?_ GE206.out) | exact HB.out))) : w.heap.size ≤ gb211)); have n5_ := Aside0.mk ((by rw [hg]; exact (below_size (by repeat (first | (with_reducible first | exact HB.out | apply below_alloc | apply pw_below_drewN | apply below_drew1 | refine below_set ?_ GE206.out) | exact HB.out))) : w.heap.size ≤ gb211)); have n6_ := Aside0.mk ((by rw [hg]; exact Nat.ne_of_lt (blk_lt (g := gb206) (o := .cells #[.slice A0_0 l0_0.length c0_0] 31 (0, 0)) (by (with_reducible repeat (first | refine blk_drewN ?_ _ | refine blk_drew ?_ | refine blk_alloc ?_ _)); exact BK206.out)) : gb206 ≠ gb211)); have n7_ := Aside0.mk ((by rw [hg]; exact Nat.ne_of_gt (blk_lt (g := gb206) (o := .cells #[.slice A0_0 l0_0.length c0_0] 31 (0, 0)) (by (with_reducible repeat (first | refine blk_drewN ?_ _ | refine blk_drew ?_ | refine blk_alloc ?_ _)); exact BK206.out)) : gb211 ≠ gb206)); clear HO209; clear BK206; clear HB; have HO209 := n0_; have BK206 := n1_; have HB := n2_; have BK211 := n3_; have GW211 := n4_; have GE211 := n5_; have NB206_211 := n6_; have NB211_206 := n7_; clear n0_ n1_ n2_ n3_ n4_ n5_ n6_ n7_; clear hb hbox hg; obtain ⟨Ao10, co10, eo10⟩ := Kd.V_slice HO209.out; subst eo10; have hnb11 := NB211_206.out; have hnc11 := NB206_211.out; have hcz12_0 : w9.cell? ⟨gb211, 0, none⟩ = some (.slice none 0 0) := (blk_cell BK211.out 0).trans rfl; have hfz12_0 := blk_frozen BK211.out 0; have hcz13_0 : w9.cell? ⟨gb206, 0, none⟩ = some (.slice A0_0 l0_0.length c0_0) := (blk_cell BK206.out 0).trans rfl; have hfz13_0 := blk_frozen BK206.out 0) | ((with_reducible refine gate_callee (f := 20) rfl ?_); refine goesL_ (some 16) rfl rfl Tryd.func20 (by kernel_rfl) rfl #[.agg #[.slice Ao10 t207.length co10], .agg #[.slice A0_0 l0_0.length c0_0]] rfl (by (try simp only [List.map_toArray, List.map_cons, List.map_nil]); first | done | rfl | (simp only [List.length_drop, List.length_take]; rfl)) ?_; (with_reducible refine (exactpplref19_Same.calls k _ _ t207 _ _ l0_0 true _ ?side1 ?side2 ?side3 ?side4 A4.out).mono ?_); (case side1 => refine (Kd.V_reads' (e := 60) (base := w.heap.size) (ok := fun k_ => (k_ ≠ gb206 ∧ k_ ≠ gb211)) (n := t207.length) (c := co10) ?_).2.2; exact (by (with_reducible repeat (first | apply Kd.V_alloc | apply Kd.V_drewN | apply Kd.V_drew)); exact (Kd.V_mono (Kd.V_far (p := ⟨gb211, 0, none⟩) (Kd.V_mono HO209.out (fun k_ hk => (⟨hk, by first | exact hk.2 | exact hk.1 | exact hk.2 | exact hk.1.1 | exact hk.1.2⟩ : _ ∧ k_ ≠ gb211))) (fun _ hk => hk.2) (.slice Ao10 t207.length co10)) (fun _ h_ => h_.1)))); (case side2 => exact (Kd.V_reads' HO209.out).2.1); (case side3 => exact Kd.C_below HR0_0.out (by repeat (first | (with_reducible first | exact HB.out | apply below_alloc | apply pw_below_drewN | apply below_drew1 | refine below_set ?_ GE206.out | refine below_set ?_ GE211.out) | exact HB.out))); (case side4 => exact HC0_0.out); rintro e w14 ⟨rfl, hb⟩; refine ⟨_, rfl, ?_⟩; have n0_ := Aside0.mk (Kd.V_below (by (with_reducible repeat (first | apply Kd.V_alloc | apply Kd.V_drewN | apply Kd.V_drew)); exact (Kd.V_mono (Kd.V_far (p := ⟨gb211, 0, none⟩) (Kd.V_mono HO209.out (fun k_ hk => (⟨hk, by first | exact hk.2 | exact hk.1 | exact hk.2 | exact hk.1.1 | exact hk.1.2⟩ : _ ∧ k_ ≠ gb211))) (fun _ hk => hk.2) (.slice Ao10 t207.length co10)) (fun _ h_ => h_.1))) hb); have n1_ := Aside0.mk (blk_below (g := gb206) (o := .cells #[.slice A0_0 l0_0.length c0_0] 31 (0, 0)) (by (with_reducible repeat (first | refine blk_drewN ?_ _ | refine blk_drew ?_ | refine blk_alloc ?_ _)); refine blk_far ?_ NB206_211.out _; (with_reducible repeat (first | refine blk_drewN ?_ _ | refine blk_drew ?_ | refine blk_alloc ?_ _)); exact BK206.out) hb); have n2_ := Aside0.mk (blk_below (g := gb211) (o := .cells #[.slice Ao10 t207.length co10] 31 (0, 0)) (by (with_reducible repeat (first | refine blk_drewN ?_ _ | refine blk_drew ?_ | refine blk_alloc ?_ _)); refine blk_put (cs := #[.slice none 0 0]) ?_ 0 _ rfl; (with_reducible repeat (first | refine blk_drewN ?_ _ | refine blk_drew ?_ | refine blk_alloc ?_ _)); exact BK211.out) hb); have n3_ := Aside0.mk (below_step (by repeat (first | (with_reducible first | exact HB.out | apply below_alloc | apply pw_below_drewN | apply below_drew1 | refine below_set ?_ GE206.out | refine below_set ?_ GE211.out) | exact HB.out)) hb); clear HO209; clear BK206; clear BK211; clear HB; have HO209 := n0_; have BK206 := n1_; have BK211 := n2_; have HB := n3_; clear n0_ n1_ n2_ n3_; (try clear hb); (try clear hb2); (try clear hk); (try clear hi)))
      go_ret
      exact ⟨by first | rfl | (simp [errW_none, errW_some] <;> rfl) | (simp [*, errW_none, errW_some] <;> rfl), by repeat (first | (with_reducible first | exact HB.out | apply below_alloc | apply pw_below_drewN | apply below_drew1 | refine below_set ?_ GE206.out | refine below_set ?_ GE211.out) | exact HB.out)⟩
    · replace c5 := Bool.eq_false_iff.mpr c5
      subst c5
      have H1 : (some 2) = some r := by rw [if_neg (show ¬ (false = true) by decide)] at H; exact H
      clear H
      have H := H1
      clear H1
      obtain rfl := Option.some.inj H
      go_enter Tryd.func44, Tryd.ntmps44
      go_wp2_with (first | ((with_reducible refine gate_dst (N := 1) rfl ?_); refine box_event ?hg (N := 1) ?hd (cs := #[.slice A0_0 l0_0.length c0_0]) (t := 31) ?hr ?_; (case hd => rfl); (case hg => rfl); (case hr => first | (go_simp; done) | (go_simp; rfl)); intro gb206 hg w15 hbox hb; have n0_ := Aside0.mk (below_step (by repeat (first | (with_reducible first | exact HB.out | apply below_alloc | apply pw_below_drewN | apply below_drew1) | exact HB.out)) hb); have n1_ := Aside0.mk (hbox); have n2_ := Aside0.mk ((by rw [hg]; exact (below_size (by repeat (first | (with_reducible first | exact HB.out | apply below_alloc | apply pw_below_drewN | apply below_drew1) | exact HB.out))) : w.heap.size ≤ gb206)); have n3_ := Aside0.mk ((by rw [hg]; exact (below_size (by repeat (first | (with_reducible first | exact HB.out | apply below_alloc | apply pw_below_drewN | apply below_drew1) | exact HB.out))) : w.heap.size ≤ gb206)); clear HB; have HB := n0_; have BK206 := n1_; have GW206 := n2_; have GE206 := n3_; clear n0_ n1_ n2_ n3_; clear hb hbox hg; have hcz16_0 : w15.cell? ⟨gb206, 0, none⟩ = some (.slice A0_0 l0_0.length c0_0) := (blk_cell BK206.out 0).trans rfl; have hfz16_0 := blk_frozen BK206.out 0) | ((with_reducible refine gate_callee (f := 43) rfl ?_); refine goesL_ (some 8) rfl rfl Tryd.func43 (by kernel_rfl) rfl #[.slice A0_0 l0_0.length c0_0] rfl (by (try simp only [List.map_toArray, List.map_cons, List.map_nil]); first | done | rfl | (simp only [List.length_drop, List.length_take]; rfl)) ?_; (with_reducible refine (exactpplref19_Reduce.calls k _ _ l0_0 t207 t210 _ ?side1 ?side2 A2.out).mono ?_); (case side1 => repeat (first | exact (Kd.C_below HR0_0.out HB.out) | (with_reducible refine Kd.C_alloc ?_ _) | (with_reducible refine Kd.C_drewN ?_ _) | (with_reducible refine Kd.C_drew ?_))); (case side2 => exact HC0_0.out); rintro e w17 ⟨v208, rfl, ho0, hb⟩; refine ⟨_, rfl, ?_⟩; have n0_ := Aside0.mk (Kd.V_lower (Kd.V_mono (ok' := fun k_ => k_ ≠ gb206) ho0 (fun k_ hk_ => (Kd.freshB (g := gb206) (o := .cells #[.slice A0_0 l0_0.length c0_0] 31 (0, 0)) (by (with_reducible repeat (first | refine blk_drewN ?_ _ | refine blk_drew ?_ | refine blk_alloc ?_ _)); exact BK206.out) k_ hk_))) (below_size (by repeat (first | (with_reducible first | exact HB.out | apply below_alloc | apply pw_below_drewN | apply below_drew1 | refine below_set ?_ GE206.out) | exact HB.out)))); have n1_ := Aside0.mk (blk_below (g := gb206) (o := .cells #[.slice A0_0 l0_0.length c0_0] 31 (0, 0)) (by (with_reducible repeat (first | refine blk_drewN ?_ _ | refine blk_drew ?_ | refine blk_alloc ?_ _)); exact BK206.out) hb); have n2_ := Aside0.mk (below_step (by repeat (first | (with_reducible first | exact HB.out | apply below_alloc | apply pw_below_drewN | apply below_drew1 | refine below_set ?_ GE206.out) | exact HB.out)) hb); clear BK206; clear HB; have HO209 := n0_; have BK206 := n1_; have HB := n2_; clear n0_ n1_ n2_; (try clear hb); (try clear hb2); (try clear hk); (try clear hi); (try clear ho0)) | ((with_reducible refine gate_dst (N := 3) rfl ?_); refine box_event ?hg (N := 3) ?hd (cs := #[.slice none 0 0]) (t := 31) ?hr ?_; (case hd => rfl); (case hg => rfl); (case hr => first | (go_simp; done) | (go_simp; rfl)); intro gb211 hg w18 hbox hb; have n0_ := Aside0.mk (Kd.V_below (Kd.V_elderB (by (with_reducible repeat (first | apply Kd.V_alloc | apply Kd.V_drewN | apply Kd.V_drew)); exact HO209.out) gb211 (Nat.le_of_eq hg.symm)) hb); have n1_ := Aside0.mk (blk_below (g := gb206) (o := .cells #[.slice A0_0 l0_0.length c0_0] 31 (0, 0)) (by (with_reducible repeat (first | refine blk_drewN ?_ _ | refine blk_drew ?_ | refine blk_alloc ?_ _)); exact BK206.out) hb); have n2_ := Aside0.mk (below_step (by repeat (first | (with_reducible first | exact HB.out | apply below_alloc | apply pw_below_drewN | apply below_drew1 | refine below_set ?_ GE206.out) | exact HB.out)) hb); have n3_ := Aside0.mk (hbox); have n4_ := Aside0.mk ((by rw [hg]; exact (below_size (by repeat (first | (with_reducible first | exact HB.out | apply below_alloc | apply pw_below_drewN | apply below_drew1 | refine below_set ?_ GE206.out) | exact HB.out))) : w.heap.size ≤ gb211)); have n5_ := Aside0.mk ((by rw [hg]; exact (below_size (by repeat (first | (with_reducible first | exact HB.out | apply below_alloc | apply pw_below_drewN | apply below_drew1 | refine below_set ?_ GE206.out) | exact HB.out))) : w.heap.size ≤ gb211)); have n6_ := Aside0.mk ((by rw [hg]; exact Nat.ne_of_lt (blk_lt (g := gb206) (o := .cells #[.slice A0_0 l0_0.length c0_0] 31 (0, 0)) (by (with_reducible repeat (first | refine blk_drewN ?_ _ | refine blk_drew ?_ | refine blk_alloc ?_ _)); exact BK206.out)) : gb206 ≠ gb211)); have n7_ := Aside0.mk ((by rw [hg]; exact Nat.ne_of_gt (blk_lt (g := gb206) (o := .cells #[.slice A0_0 l0_0.length c0_0] 31 (0, 0)) (by (with_reducible repeat (first | refine blk_drewN ?_ _ | refine blk_drew ?_ | refine blk_alloc ?_ _)); exact BK206.out)) : gb211 ≠ gb206)); clear HO209; clear BK206; clear HB; have HO209 := n0_; have BK206 := n1_; have HB := n2_; have BK211 := n3_; have GW211 := n4_; have GE211 := n5_; have NB206_211 := n6_; have NB211_206 := n7_; clear n0_ n1_ n2_ n3_ n4_ n5_ n6_ n7_; clear hb hbox hg; obtain ⟨Ao19, co19, eo19⟩ := Kd.V_slice HO209.out; subst eo19; have hnb20 := NB211_206.out; have hnc20 := NB206_211.out; have hcz21_0 : w18.cell? ⟨gb211, 0, none⟩ = some (.slice none 0 0) := (blk_cell BK211.out 0).trans rfl; have hfz21_0 := blk_frozen BK211.out 0; have hcz22_0 : w18.cell? ⟨gb206, 0, none⟩ = some (.slice A0_0 l0_0.length c0_0) := (blk_cell BK206.out 0).trans rfl; have hfz22_0 := blk_frozen BK206.out 0) | ((with_reducible refine gate_callee (f := 20) rfl ?_); refine goesL_ (some 16) rfl rfl Tryd.func20 (by kernel_rfl) rfl #[.agg #[.slice Ao19 t207.length co19], .agg #[.slice A0_0 l0_0.length c0_0]] rfl (by (try simp only [List.map_toArray, List.map_cons, List.map_nil]); first | done | rfl | (simp only [List.length_drop, List.length_take]; rfl)) ?_; (with_reducible refine (exactpplref19_Same.calls k _ _ t207 _ _ l0_0 false _ ?side1 ?side2 ?side3 ?side4 A4.out).mono ?_); (case side1 => refine (Kd.V_reads' (e := 60) (base := w.heap.size) (ok := fun k_ => (k_ ≠ gb206 ∧ k_ ≠ gb211)) (n := t207.length) (c := co19) ?_).2.2; exact (by (with_reducible repeat (first | apply Kd.V_alloc | apply Kd.V_drewN | apply Kd.V_drew)); exact (Kd.V_mono (Kd.V_far (p := ⟨gb211, 0, none⟩) (Kd.V_mono HO209.out (fun k_ hk => (⟨hk, by first | exact hk.2 | exact hk.1 | exact hk.2 | exact hk.1.1 | exact hk.1.2⟩ : _ ∧ k_ ≠ gb211))) (fun _ hk => hk.2) (.slice Ao19 t207.length co19)) (fun _ h_ => h_.1)))); (case side2 => exact (Kd.V_reads' HO209.out).2.1); (case side3 => exact Kd.C_below HR0_0.out (by repeat (first | (with_reducible first | exact HB.out | apply below_alloc | apply pw_below_drewN | apply below_drew1 | refine below_set ?_ GE206.out | refine below_set ?_ GE211.out) | exact HB.out))); (case side4 => exact HC0_0.out); rintro e w23 ⟨rfl, hb⟩; refine ⟨_, rfl, ?_⟩; have n0_ := Aside0.mk (Kd.V_below (by (with_reducible repeat (first | apply Kd.V_alloc | apply Kd.V_drewN | apply Kd.V_drew)); exact (Kd.V_mono (Kd.V_far (p := ⟨gb211, 0, none⟩) (Kd.V_mono HO209.out (fun k_ hk => (⟨hk, by first | exact hk.2 | exact hk.1 | exact hk.2 | exact hk.1.1 | exact hk.1.2⟩ : _ ∧ k_ ≠ gb211))) (fun _ hk => hk.2) (.slice Ao19 t207.length co19)) (fun _ h_ => h_.1))) hb); have n1_ := Aside0.mk (blk_below (g := gb206) (o := .cells #[.slice A0_0 l0_0.length c0_0] 31 (0, 0)) (by (with_reducible repeat (first | refine blk_drewN ?_ _ | refine blk_drew ?_ | refine blk_alloc ?_ _)); refine blk_far ?_ NB206_211.out _; (with_reducible repeat (first | refine blk_drewN ?_ _ | refine blk_drew ?_ | refine blk_alloc ?_ _)); exact BK206.out) hb); have n2_ := Aside0.mk (blk_below (g := gb211) (o := .cells #[.slice Ao19 t207.length co19] 31 (0, 0)) (by (with_reducible repeat (first | refine blk_drewN ?_ _ | refine blk_drew ?_ | refine blk_alloc ?_ _)); refine blk_put (cs := #[.slice none 0 0]) ?_ 0 _ rfl; (with_reducible repeat (first | refine blk_drewN ?_ _ | refine blk_drew ?_ | refine blk_alloc ?_ _)); exact BK211.out) hb); have n3_ := Aside0.mk (below_step (by repeat (first | (with_reducible first | exact HB.out | apply below_alloc | apply pw_below_drewN | apply below_drew1 | refine below_set ?_ GE206.out | refine below_set ?_ GE211.out) | exact HB.out)) hb); clear HO209; clear BK206; clear BK211; clear HB; have HO209 := n0_; have BK206 := n1_; have BK211 := n2_; have HB := n3_; clear n0_ n1_ n2_ n3_; (try clear hb); (try clear hb2); (try clear hk); (try clear hi)))
      go_ret
      exact ⟨by first | rfl | (simp [errW_none, errW_some] <;> rfl) | (simp [*, errW_none, errW_some] <;> rfl), by repeat (first | (with_reducible first | exact HB.out | apply below_alloc | apply pw_below_drewN | apply below_drew1 | refine below_set ?_ GE206.out | refine below_set ?_ GE211.out) | exact HB.out)⟩
  · rw [if_neg c3] at H
    have c3b0 : (t210 == 0) = false := beq_eq_false_iff_ne.mpr c3
    have c3b1 : (t210 != 0) = true := bne_iff_ne.mpr c3
    obtain rfl := Option.some.inj H
    go_enter Tryd.func44, Tryd.ntmps44
    go_wp2_with (first | ((with_reducible refine gate_dst (N := 1) rfl ?_); refine box_event ?hg (N := 1) ?hd (cs := #[.slice A0_0 l0_0.length c0_0]) (t := 31) ?hr ?_; (case hd => rfl); (case hg => rfl); (case hr => first | (go_simp; done) | (go_simp; rfl)); intro gb206 hg w24 hbox hb; have n0_ := Aside0.mk (below_step (by repeat (first | (with_reducible first | exact HB.out | apply below_alloc | apply pw_below_drewN | apply below_drew1) | exact HB.out)) hb); have n1_ := Aside0.mk (hbox); have n2_ := Aside0.mk ((by rw [hg]; exact (below_size (by repeat (first | (with_reducible first | exact HB.out | apply below_alloc | apply pw_below_drewN | apply below_drew1) | exact HB.out))) : w.heap.size ≤ gb206)); have n3_ := Aside0.mk ((by rw [hg]; exact (below_size (by repeat (first | (with_reducible first | exact HB.out | apply below_alloc | apply pw_below_drewN | apply below_drew1) | exact HB.out))) : w.heap.size ≤ gb206)); clear HB; have HB := n0_; have BK206 := n1_; have GW206 := n2_; have GE206 := n3_; clear n0_ n1_ n2_ n3_; clear hb hbox hg; have hcz25_0 : w24.cell? ⟨gb206, 0, none⟩ = some (.slice A0_0 l0_0.length c0_0) := (blk_cell BK206.out 0).trans rfl; have hfz25_0 := blk_frozen BK206.out 0) | ((with_reducible refine gate_callee (f := 43) rfl ?_); refine goesL_ (some 8) rfl rfl Tryd.func43 (by kernel_rfl) rfl #[.slice A0_0 l0_0.length c0_0] rfl (by (try simp only [List.map_toArray, List.map_cons, List.map_nil]); first | done | rfl | (simp only [List.length_drop, List.length_take]; rfl)) ?_; (with_reducible refine (exactpplref19_Reduce.calls k _ _ l0_0 t207 t210 _ ?side1 ?side2 A2.out).mono ?_); (case side1 => repeat (first | exact (Kd.C_below HR0_0.out HB.out) | (with_reducible refine Kd.C_alloc ?_ _) | (with_reducible refine Kd.C_drewN ?_ _) | (with_reducible refine Kd.C_drew ?_))); (case side2 => exact HC0_0.out); rintro e w26 ⟨v208, rfl, ho0, hb⟩; refine ⟨_, rfl, ?_⟩; have n0_ := Aside0.mk (Kd.V_lower (Kd.V_mono (ok' := fun k_ => k_ ≠ gb206) ho0 (fun k_ hk_ => (Kd.freshB (g := gb206) (o := .cells #[.slice A0_0 l0_0.length c0_0] 31 (0, 0)) (by (with_reducible repeat (first | refine blk_drewN ?_ _ | refine blk_drew ?_ | refine blk_alloc ?_ _)); exact BK206.out) k_ hk_))) (below_size (by repeat (first | (with_reducible first | exact HB.out | apply below_alloc | apply pw_below_drewN | apply below_drew1 | refine below_set ?_ GE206.out) | exact HB.out)))); have n1_ := Aside0.mk (blk_below (g := gb206) (o := .cells #[.slice A0_0 l0_0.length c0_0] 31 (0, 0)) (by (with_reducible repeat (first | refine blk_drewN ?_ _ | refine blk_drew ?_ | refine blk_alloc ?_ _)); exact BK206.out) hb); have n2_ := Aside0.mk (below_step (by repeat (first | (with_reducible first | exact HB.out | apply below_alloc | apply pw_below_drewN | apply below_drew1 | refine below_set ?_ GE206.out) | exact HB.out)) hb); clear BK206; clear HB; have HO209 := n0_; have BK206 := n1_; have HB := n2_; clear n0_ n1_ n2_; (try clear hb); (try clear hb2); (try clear hk); (try clear hi); (try clear ho0)) | ((with_reducible refine gate_dst (N := 3) rfl ?_); refine box_event ?hg (N := 3) ?hd (cs := #[.slice none 0 0]) (t := 31) ?hr ?_; (case hd => rfl); (case hg => rfl); (case hr => first | (go_simp; done) | (go_simp; rfl)); intro gb211 hg w27 hbox hb; have n0_ := Aside0.mk (Kd.V_below (Kd.V_elderB (by (with_reducible repeat (first | apply Kd.V_alloc | apply Kd.V_drewN | apply Kd.V_drew)); exact HO209.out) gb211 (Nat.le_of_eq hg.symm)) hb); have n1_ := Aside0.mk (blk_below (g := gb206) (o := .cells #[.slice A0_0 l0_0.length c0_0] 31 (0, 0)) (by (with_reducible repeat (first | refine blk_drewN ?_ _ | refine blk_drew ?_ | refine blk_alloc ?_ _)); exact BK206.out) hb); have n2_ := Aside0.mk (below_step (by repeat (first | (with_reducible first | exact HB.out | apply below_alloc | apply pw_below_drewN | apply below_drew1 | refine below_set ?_ GE206.out) | exact HB.out)) hb); have n3_ := Aside0.mk (hbox); have n4_ := Aside0.mk ((by rw [hg]; exact (below_size (by repeat (first | (with_reducible first | exact HB.out | apply below_alloc | apply pw_below_drewN | apply below_drew1 | refine below_set ?_ GE206.out) | exact HB.out))) : w.heap.size ≤ gb211)); have n5_ := Aside0.mk ((by rw [hg]; exact (below_size (by repeat (first | (with_reducible first | exact HB.out | apply below_alloc | apply pw_below_drewN | apply below_drew1 | refine below_set ?_ GE206.out) | exact HB.out))) : w.heap.size ≤ gb211)); have n6_ := Aside0.mk ((by rw [hg]; exact Nat.ne_of_lt (blk_lt (g := gb206) (o := .cells #[.slice A0_0 l0_0.length c0_0] 31 (0, 0)) (by (with_reducible repeat (first | refine blk_drewN ?_ _ | refine blk_drew ?_ | refine blk_alloc ?_ _)); exact BK206.out)) : gb206 ≠ gb211)); have n7_ := Aside0.mk ((by rw [hg]; exact Nat.ne_of_gt (blk_lt (g := gb206) (o := .cells #[.slice A0_0 l0_0.length c0_0] 31 (0, 0)) (by (with_reducible repeat (first | refine blk_drewN ?_ _ | refine blk_drew ?_ | refine blk_alloc ?_ _)); exact BK206.out)) : gb211 ≠ gb206)); clear HO209; clear BK206; clear HB; have HO209 := n0_; have BK206 := n1_; have HB := n2_; have BK211 := n3_; have GW211 := n4_; have GE211 := n5_; have NB206_211 := n6_; have NB211_206 := n7_; clear n0_ n1_ n2_ n3_ n4_ n5_ n6_ n7_; clear hb hbox hg; obtain ⟨Ao28, co28, eo28⟩ := Kd.V_slice HO209.out; subst eo28; have hnb29 := NB211_206.out; have hnc29 := NB206_211.out; have hcz30_0 : w27.cell? ⟨gb211, 0, none⟩ = some (.slice none 0 0) := (blk_cell BK211.out 0).trans rfl; have hfz30_0 := blk_frozen BK211.out 0))
    go_ret
    exact ⟨by first | rfl | (simp [errW_none, errW_some] <;> rfl) | (simp [*, errW_none, errW_some] <;> rfl), by repeat (first | (with_reducible first | exact HB.out | apply below_alloc | apply pw_below_drewN | apply below_drew1 | refine below_set ?_ GE206.out | refine below_set ?_ GE211.out) | exact HB.out)⟩

end Go.Proofs.YtopbjginpmdebaaDoor.K
namespace Go.Proofs.YtopbjginpmdebaaDoor.K
open Go.RowKit Go.Proofs.YtopbjginpmdebaaDoorW.PrintWords Go.Proofs.YtopbjginpmdebaaDoorW.PrintLast Go.Proofs.YtopbjginpmdebaaDoorW.PrintMore
attribute [local go_sem] max2_int min2_int max_two min_two max_three min_three max_four min_four   -- for this text's walks alone
set_option linter.unusedVariables false
set_option linter.unusedSimpArgs false

/-! ### exactppllaw19_reduces: function 14 -/
def exactppllaw19_reduces.f (k : Nat) (l0 : List (S60)) : Option (Bool) := (diagram_Reduce.f l0).bind fun bt213 => ((exactpplref19_Reduce.f k l0).bind fun bt218 => (if bt213.2 = bt218.2 then ((exactpplref19_Same.f k bt213.1 bt218.1).bind fun t223 => (if t223 = true then ((diagram_Validate.f l0).bind fun t224 => ((exactpplref19_Validate.f k l0).bind fun t225 => (some (t224 == t225)))) else (some false))) else (some false)))
theorem exactppllaw19_reduces.mono : ∀ a0 k, LeO (exactppllaw19_reduces.f k a0) (exactppllaw19_reduces.f (k + 1) a0) := by
 intro a0 k
 unfold exactppllaw19_reduces.f
 repeat' first
   | (with_reducible exact exactpplref19_Reduce.mono _ _)
   | (with_reducible exact exactpplref19_Same.mono _ _ _)
   | (with_reducible exact exactpplref19_Validate.mono _ _)
   | (with_reducible exact LeO.refl _)
   | (with_reducible exact LeO.none _)
   | (with_reducible refine LeO.ite ?_ ?_)
   | (with_reducible refine LeO.bind ?_ (fun _ => ?_))
   | exact exactpplref19_Reduce.mono _ _
   | exact exactpplref19_Same.mono _ _ _
   | exact exactpplref19_Validate.mono _ _
   | exact LeO.none _
   | refine LeO.ite ?_ ?_
   | refine LeO.bind ?_ (fun _ => ?_)
set_option maxHeartbeats 8000000 in
set_option maxRecDepth 100000 in
theorem exactppllaw19_reduces.calls (k : Nat) (A0 : Option Addr) (c0 : Nat) (l0 : List (S60)) (r : Bool) (w : World) (hr0 : Kd.C k60 w A0 l0.length l0) (hc0 : l0.length ≤ c0) (h : exactppllaw19_reduces.f k l0 = some r) (htab : PowTab w.heap.size w) :
  Calls Tryd.prog 14 #[.slice A0 l0.length c0] w fun e w' => e = .returned (.bool r) ∧ Below w.heap.size w w' := by
 have HTAB := Aside0.mk htab
 clear htab
 have hu31 := Tryd.underlying31
 have HR0 := Aside0.mk hr0
 have HC0 := Aside0.mk hc0
 clear hr0 hc0
 have HB := Aside0.mk (Below.refl w.heap.size w)
 have H : ((diagram_Reduce.f l0).bind fun bt213 => ((exactpplref19_Reduce.f k l0).bind fun bt218 => (if bt213.2 = bt218.2 then ((exactpplref19_Same.f k bt213.1 bt218.1).bind fun t223 => (if t223 = true then ((diagram_Validate.f l0).bind fun t224 => ((exactpplref19_Validate.f k l0).bind fun t225 => (some (t224 == t225)))) else (some false))) else (some false)))) = some r := h
 clear h
 replace H := Option.bind_eq_some_iff.mp H
 obtain ⟨⟨t213, t216⟩, A20, H⟩ := H
 replace H : ((exactpplref19_Reduce.f k l0).bind fun bt218 => (if t216 = bt218.2 then ((exactpplref19_Same.f k t213 bt218.1).bind fun t223 => (if t223 = true then ((diagram_Validate.f l0).bind fun t224 => ((exactpplref19_Validate.f k l0).bind fun t225 => (some (t224 == t225)))) else (some false))) else (some false))) = some r := H
 have A2 := Aside0.mk A20
 clear A20
 replace H := Option.bind_eq_some_iff.mp H
 obtain ⟨⟨t218, t221⟩, A30, H⟩ := H
 replace H : (if t216 = t221 then ((exactpplref19_Same.f k t213 t218).bind fun t223 => (if t223 = true then ((diagram_Validate.f l0).bind fun t224 => ((exactpplref19_Validate.f k l0).bind fun t225 => (some (t224 == t225)))) else (some false))) else (some false)) = some r := H
 have A3 := Aside0.mk A30
 clear A30
 by_cases c4 : t216 = t221
 ·rw [if_pos c4] at H
  have c4b0 : (t216 == t221) = true := beq_iff_eq.mpr c4
  have c4b1 : (t216 != t221) = false := bne_eq_false_iff_eq.mpr c4
  clear c4
  replace H := Option.bind_eq_some_iff.mp H
  obtain ⟨t223, A50, H⟩ := H
  replace H : (if t223 = true then ((diagram_Validate.f l0).bind fun t224 => ((exactpplref19_Validate.f k l0).bind fun t225 => (some (t224 == t225)))) else (some false)) = some r := H
  have A5 := Aside0.mk A50
  clear A50
  by_cases c6 : t223 = true
  ·subst c6
   have H1 : ((diagram_Validate.f l0).bind fun t224 => ((exactpplref19_Validate.f k l0).bind fun t225 => (some (t224 == t225)))) = some r := by rw [if_pos rfl] at H; exact H
   clear H
   have H := H1
   clear H1
   replace H := Option.bind_eq_some_iff.mp H
   obtain ⟨t224, A70, H⟩ := H
   replace H : ((exactpplref19_Validate.f k l0).bind fun t225 => (some (t224 == t225))) = some r := H
   have A7 := Aside0.mk A70
   clear A70
   replace H := Option.bind_eq_some_iff.mp H
   obtain ⟨t225, A80, H⟩ := H
   replace H : (some (t224 == t225)) = some r := H
   have A8 := Aside0.mk A80
   clear A80
   obtain rfl := Option.some.inj H
   go_enter Tryd.func14, Tryd.ntmps14
   go_wp2_with (first | ((with_reducible refine gate_callee (f := 19) rfl ?_); refine goesL_ (some 9) rfl rfl Tryd.func19 (by kernel_rfl) rfl #[.slice A0 l0.length c0] rfl (by (try simp only [List.map_toArray, List.map_cons, List.map_nil]); first | done | rfl | (simp only [List.length_drop, List.length_take]; rfl)) ?_; (with_reducible refine (diagram_Reduce.calls _ _ l0 t213 t216 _ ?side1 ?side2 A2.out ?tab).mono ?_); (case tab => exact ptab HTAB.out bl_); (case side1 => repeat (first | exact HR0.out | (with_reducible refine Kd.C_alloc ?_ _) | (with_reducible refine Kd.C_drewN ?_ _) | (with_reducible refine Kd.C_drew ?_))); (case side2 => exact HC0.out); rintro e w9 ⟨v214, rfl, ho0, hb⟩; refine ⟨_, rfl, ?_⟩; have HO215 := Aside0.mk (Kd.V_lower (Kd.V_mono (ok' := fun k_ => True) ho0 (fun k_ hk_ => trivial)) (below_size bl_)); replace HB := Aside0.mk (below_step bl_ hb); (try clear hb); (try clear hb2); (try clear hk); (try clear hi); (try clear ho0)) | ((with_reducible refine gate_dst (N := 3) rfl ?_); refine box_event ?hg (N := 3) ?hd (cs := #[.slice none 0 0]) (t := 31) ?hr ?_; (case hd => rfl); (case hg => rfl); (case hr => first | (go_simp; done) | (go_simp; rfl)); intro gb217 hg w10 hbox hb; have BK217 := Aside0.mk (hbox); have GW217 : Aside0 (w.heap.size ≤ gb217) := gw_ hg (below_size bl_); have GE217 := GW217; replace HO215 := Aside0.mk (Kd.V_below (Kd.V_elderB (pV_ HO215.out) gb217 (Nat.le_of_eq hg.symm)) hb); replace HB := Aside0.mk (below_step bl_ hb); clear hb hbox hg; obtain ⟨Ao11, co11, eo11⟩ := Kd.V_slice HO215.out; subst eo11; obtain ⟨hcz12_0, hfz12_0⟩ := cf1_ BK217.out) | ((with_reducible refine gate_callee (f := 43) rfl ?_); refine goesL_ (some 14) rfl rfl Tryd.func43 (by kernel_rfl) rfl #[.slice A0 l0.length c0] rfl (by (try simp only [List.map_toArray, List.map_cons, List.map_nil]); first | done | rfl | (simp only [List.length_drop, List.length_take]; rfl)) ?_; (with_reducible refine (exactpplref19_Reduce.calls k _ _ l0 t218 t221 _ ?side1 ?side2 A3.out).mono ?_); (case side1 => exact Kd.C_below HR0.out bl_); (case side2 => exact HC0.out); rintro e w13 ⟨v219, rfl, ho0, hb⟩; refine ⟨_, rfl, ?_⟩; have HO220 := Aside0.mk (Kd.V_lower (Kd.V_mono (ok' := fun k_ => k_ ≠ gb217) ho0 (fun k_ hk_ => (Kd.freshB (g := gb217) (o := .cells #[.slice Ao11 t213.length co11] 31 (0, 0)) (by (with_reducible repeat (first | refine blk_drewN ?_ _ | refine blk_drew ?_ | refine blk_alloc ?_ _)); refine blk_put (cs := #[.slice none 0 0]) ?_ 0 _ rfl; (with_reducible repeat (first | refine blk_drewN ?_ _ | refine blk_drew ?_ | refine blk_alloc ?_ _)); exact BK217.out) k_ hk_))) (below_size bl_)); replace HO215 := Aside0.mk (Kd.V_below (by (with_reducible repeat (first | apply Kd.V_alloc | apply Kd.V_drewN | apply Kd.V_drew)); exact (Kd.V_mono (Kd.V_far (p := ⟨gb217, 0, none⟩) (Kd.V_mono HO215.out (fun k_ hk => (⟨hk, by first | exact hk.2 | exact hk.1 | exact hk.2 | exact hk.1.1 | exact hk.1.2⟩ : _ ∧ k_ ≠ gb217))) (fun _ hk => hk.2) (.slice Ao11 t213.length co11)) (fun _ h_ => h_.1))) hb); replace BK217 := Aside0.mk (blk_below (g := gb217) (o := .cells #[.slice Ao11 t213.length co11] 31 (0, 0)) (by (with_reducible repeat (first | refine blk_drewN ?_ _ | refine blk_drew ?_ | refine blk_alloc ?_ _)); refine blk_put (cs := #[.slice none 0 0]) ?_ 0 _ rfl; (with_reducible repeat (first | refine blk_drewN ?_ _ | refine blk_drew ?_ | refine blk_alloc ?_ _)); exact BK217.out) hb); replace HB := Aside0.mk (below_step bl_ hb); (try clear hb); (try clear hb2); (try clear hk); (try clear hi); (try clear ho0)) | ((with_reducible refine gate_dst (N := 5) rfl ?_); refine box_event ?hg (N := 5) ?hd (cs := #[.slice none 0 0]) (t := 31) ?hr ?_; (case hd => rfl); (case hg => rfl); (case hr => first | (go_simp; done) | (go_simp; rfl)); intro gb222 hg w14 hbox hb; have BK222 := Aside0.mk (hbox); have GW222 : Aside0 (w.heap.size ≤ gb222) := gw_ hg (below_size bl_); have GE222 := GW222; have NB217_222 := Aside0.mk ((by rw [hg]; exact Nat.ne_of_lt (blk_lt (g := gb217) (o := .cells #[.slice Ao11 t213.length co11] 31 (0, 0)) bk_) : gb217 ≠ gb222)); have NB222_217 := Aside0.mk ((by rw [hg]; exact Nat.ne_of_gt (blk_lt (g := gb217) (o := .cells #[.slice Ao11 t213.length co11] 31 (0, 0)) bk_) : gb222 ≠ gb217)); replace HO215 := Aside0.mk (Kd.V_below (Kd.V_elderB (pV_ HO215.out) gb222 (Nat.le_of_eq hg.symm)) hb); replace HO220 := Aside0.mk (Kd.V_below (Kd.V_elderB (pV_ HO220.out) gb222 (Nat.le_of_eq hg.symm)) hb); replace BK217 := Aside0.mk (blk_below (g := gb217) (o := .cells #[.slice Ao11 t213.length co11] 31 (0, 0)) bk_ hb); replace HB := Aside0.mk (below_step bl_ hb); clear hb hbox hg; obtain ⟨Ao15, co15, eo15⟩ := Kd.V_slice HO220.out; subst eo15; have hnb16 := NB222_217.out; have hnc16 := NB217_222.out; obtain ⟨hcz17_0, hfz17_0⟩ := cf1_ BK222.out; obtain ⟨hcz18_0, hfz18_0⟩ := cf1_ BK217.out) | (go_at_call 20; (with_reducible refine (exactpplref19_Same.calls k _ _ t213 _ _ t218 true _ ?side1 ?side2 ?side3 ?side4 A5.out).mono ?_); (case side1 => refine (Kd.V_reads' (e := 60) (base := w.heap.size) (ok := fun k_ => ((True ∧ k_ ≠ gb217) ∧ k_ ≠ gb222)) (n := t213.length) (c := co11) ?_).2.2; exact (by (with_reducible repeat (first | apply Kd.V_alloc | apply Kd.V_drewN | apply Kd.V_drew)); exact (Kd.V_mono (Kd.V_far (p := ⟨gb222, 0, none⟩) (Kd.V_mono HO215.out (fun k_ hk => (⟨hk, by first | exact hk.2 | exact hk.1 | exact hk.2 | exact hk.1.1 | exact hk.1.2⟩ : _ ∧ k_ ≠ gb222))) (fun _ hk => hk.2) (.slice Ao15 t218.length co15)) (fun _ h_ => h_.1)))); (case side2 => exact (Kd.V_reads' HO215.out).2.1); (case side3 => refine (Kd.V_reads' (e := 60) (base := w.heap.size) (ok := fun k_ => (k_ ≠ gb217 ∧ k_ ≠ gb222)) (n := t218.length) (c := co15) ?_).2.2; exact (by (with_reducible repeat (first | apply Kd.V_alloc | apply Kd.V_drewN | apply Kd.V_drew)); exact (Kd.V_mono (Kd.V_far (p := ⟨gb222, 0, none⟩) (Kd.V_mono HO220.out (fun k_ hk => (⟨hk, by first | exact hk.2 | exact hk.1 | exact hk.2 | exact hk.1.1 | exact hk.1.2⟩ : _ ∧ k_ ≠ gb222))) (fun _ hk => hk.2) (.slice Ao15 t218.length co15)) (fun _ h_ => h_.1)))); (case side4 => exact (Kd.V_reads' HO220.out).2.1); rintro e w19 ⟨rfl, hb⟩; replace HO215 := Aside0.mk (Kd.V_below (by (with_reducible repeat (first | apply Kd.V_alloc | apply Kd.V_drewN | apply Kd.V_drew)); exact (Kd.V_mono (Kd.V_far (p := ⟨gb222, 0, none⟩) (Kd.V_mono HO215.out (fun k_ hk => (⟨hk, by first | exact hk.2 | exact hk.1 | exact hk.2 | exact hk.1.1 | exact hk.1.2⟩ : _ ∧ k_ ≠ gb222))) (fun _ hk => hk.2) (.slice Ao15 t218.length co15)) (fun _ h_ => h_.1))) hb); replace HO220 := Aside0.mk (Kd.V_below (by (with_reducible repeat (first | apply Kd.V_alloc | apply Kd.V_drewN | apply Kd.V_drew)); exact (Kd.V_mono (Kd.V_far (p := ⟨gb222, 0, none⟩) (Kd.V_mono HO220.out (fun k_ hk => (⟨hk, by first | exact hk.2 | exact hk.1 | exact hk.2 | exact hk.1.1 | exact hk.1.2⟩ : _ ∧ k_ ≠ gb222))) (fun _ hk => hk.2) (.slice Ao15 t218.length co15)) (fun _ h_ => h_.1))) hb); replace BK217 := Aside0.mk (blk_below (g := gb217) (o := .cells #[.slice Ao11 t213.length co11] 31 (0, 0)) (by (with_reducible repeat (first | refine blk_drewN ?_ _ | refine blk_drew ?_ | refine blk_alloc ?_ _)); refine blk_far ?_ NB217_222.out _; (with_reducible repeat (first | refine blk_drewN ?_ _ | refine blk_drew ?_ | refine blk_alloc ?_ _)); exact BK217.out) hb); replace BK222 := Aside0.mk (blk_below (g := gb222) (o := .cells #[.slice Ao15 t218.length co15] 31 (0, 0)) (by (with_reducible repeat (first | refine blk_drewN ?_ _ | refine blk_drew ?_ | refine blk_alloc ?_ _)); refine blk_put (cs := #[.slice none 0 0]) ?_ 0 _ rfl; (with_reducible repeat (first | refine blk_drewN ?_ _ | refine blk_drew ?_ | refine blk_alloc ?_ _)); exact BK222.out) hb); replace HB := Aside0.mk (below_step bl_ hb); (try clear hb); (try clear hb2); (try clear hk); (try clear hi)) | (go_at_call 21; (with_reducible refine (diagram_Validate.calls _ _ l0 t224 _ ?side1 ?side2 A7.out ?tab).mono ?_); (case tab => exact ptab HTAB.out bl_); (case side1 => repeat (first | exact (Kd.C_below HR0.out HB.out) | (with_reducible refine Kd.C_alloc ?_ _) | (with_reducible refine Kd.C_drewN ?_ _) | (with_reducible refine Kd.C_drew ?_))); (case side2 => exact HC0.out); rintro e w20 ⟨rfl, hb⟩; replace HO215 := Aside0.mk (Kd.V_below (pV_ HO215.out) hb); replace HO220 := Aside0.mk (Kd.V_below (pV_ HO220.out) hb); replace BK217 := Aside0.mk (blk_below (g := gb217) (o := .cells #[.slice Ao11 t213.length co11] 31 (0, 0)) bk_ hb); replace BK222 := Aside0.mk (blk_below (g := gb222) (o := .cells #[.slice Ao15 t218.length co15] 31 (0, 0)) bk_ hb); replace HB := Aside0.mk (below_step bl_ hb); (try clear hb); (try clear hb2); (try clear hk); (try clear hi)) | (go_at_call 44; (with_reducible refine (exactpplref19_Validate.calls k _ _ l0 t225 _ ?side1 ?side2 A8.out).mono ?_); (case side1 => repeat (first | exact (Kd.C_below HR0.out HB.out) | (with_reducible refine Kd.C_alloc ?_ _) | (with_reducible refine Kd.C_drewN ?_ _) | (with_reducible refine Kd.C_drew ?_))); (case side2 => exact HC0.out); rintro e w21 ⟨rfl, hb⟩; replace HO215 := Aside0.mk (Kd.V_below (pV_ HO215.out) hb); replace HO220 := Aside0.mk (Kd.V_below (pV_ HO220.out) hb); replace BK217 := Aside0.mk (blk_below (g := gb217) (o := .cells #[.slice Ao11 t213.length co11] 31 (0, 0)) bk_ hb); replace BK222 := Aside0.mk (blk_below (g := gb222) (o := .cells #[.slice Ao15 t218.length co15] 31 (0, 0)) bk_ hb); replace HB := Aside0.mk (below_step bl_ hb); (try clear hb); (try clear hb2); (try clear hk); (try clear hi)))
   go_ret
   exact ⟨re_, bl_⟩
  ·replace c6 := Bool.eq_false_iff.mpr c6
   subst c6
   have H1 : (some false) = some r := by rw [if_neg (show ¬ (false = true) by decide)] at H; exact H
   clear H
   have H := H1
   clear H1
   obtain rfl := Option.some.inj H
   go_enter Tryd.func14, Tryd.ntmps14
   go_wp2_with (first | ((with_reducible refine gate_callee (f := 19) rfl ?_); refine goesL_ (some 9) rfl rfl Tryd.func19 (by kernel_rfl) rfl #[.slice A0 l0.length c0] rfl (by (try simp only [List.map_toArray, List.map_cons, List.map_nil]); first | done | rfl | (simp only [List.length_drop, List.length_take]; rfl)) ?_; (with_reducible refine (diagram_Reduce.calls _ _ l0 t213 t216 _ ?side1 ?side2 A2.out ?tab).mono ?_); (case tab => exact ptab HTAB.out bl_); (case side1 => repeat (first | exact HR0.out | (with_reducible refine Kd.C_alloc ?_ _) | (with_reducible refine Kd.C_drewN ?_ _) | (with_reducible refine Kd.C_drew ?_))); (case side2 => exact HC0.out); rintro e w22 ⟨v214, rfl, ho0, hb⟩; refine ⟨_, rfl, ?_⟩; have HO215 := Aside0.mk (Kd.V_lower (Kd.V_mono (ok' := fun k_ => True) ho0 (fun k_ hk_ => trivial)) (below_size bl_)); replace HB := Aside0.mk (below_step bl_ hb); (try clear hb); (try clear hb2); (try clear hk); (try clear hi); (try clear ho0)) | ((with_reducible refine gate_dst (N := 3) rfl ?_); refine box_event ?hg (N := 3) ?hd (cs := #[.slice none 0 0]) (t := 31) ?hr ?_; (case hd => rfl); (case hg => rfl); (case hr => first | (go_simp; done) | (go_simp; rfl)); intro gb217 hg w23 hbox hb; have BK217 := Aside0.mk (hbox); have GW217 : Aside0 (w.heap.size ≤ gb217) := gw_ hg (below_size bl_); have GE217 := GW217; replace HO215 := Aside0.mk (Kd.V_below (Kd.V_elderB (pV_ HO215.out) gb217 (Nat.le_of_eq hg.symm)) hb); replace HB := Aside0.mk (below_step bl_ hb); clear hb hbox hg; obtain ⟨Ao24, co24, eo24⟩ := Kd.V_slice HO215.out; subst eo24; obtain ⟨hcz25_0, hfz25_0⟩ := cf1_ BK217.out) | ((with_reducible refine gate_callee (f := 43) rfl ?_); refine goesL_ (some 14) rfl rfl Tryd.func43 (by kernel_rfl) rfl #[.slice A0 l0.length c0] rfl (by (try simp only [List.map_toArray, List.map_cons, List.map_nil]); first | done | rfl | (simp only [List.length_drop, List.length_take]; rfl)) ?_; (with_reducible refine (exactpplref19_Reduce.calls k _ _ l0 t218 t221 _ ?side1 ?side2 A3.out).mono ?_); (case side1 => exact Kd.C_below HR0.out bl_); (case side2 => exact HC0.out); rintro e w26 ⟨v219, rfl, ho0, hb⟩; refine ⟨_, rfl, ?_⟩; have HO220 := Aside0.mk (Kd.V_lower (Kd.V_mono (ok' := fun k_ => k_ ≠ gb217) ho0 (fun k_ hk_ => (Kd.freshB (g := gb217) (o := .cells #[.slice Ao24 t213.length co24] 31 (0, 0)) (by (with_reducible repeat (first | refine blk_drewN ?_ _ | refine blk_drew ?_ | refine blk_alloc ?_ _)); refine blk_put (cs := #[.slice none 0 0]) ?_ 0 _ rfl; (with_reducible repeat (first | refine blk_drewN ?_ _ | refine blk_drew ?_ | refine blk_alloc ?_ _)); exact BK217.out) k_ hk_))) (below_size bl_)); replace HO215 := Aside0.mk (Kd.V_below (by (with_reducible repeat (first | apply Kd.V_alloc | apply Kd.V_drewN | apply Kd.V_drew)); exact (Kd.V_mono (Kd.V_far (p := ⟨gb217, 0, none⟩) (Kd.V_mono HO215.out (fun k_ hk => (⟨hk, by first | exact hk.2 | exact hk.1 | exact hk.2 | exact hk.1.1 | exact hk.1.2⟩ : _ ∧ k_ ≠ gb217))) (fun _ hk => hk.2) (.slice Ao24 t213.length co24)) (fun _ h_ => h_.1))) hb); replace BK217 := Aside0.mk (blk_below (g := gb217) (o := .cells #[.slice Ao24 t213.length co24] 31 (0, 0)) (by (with_reducible repeat (first | refine blk_drewN ?_ _ | refine blk_drew ?_ | refine blk_alloc ?_ _)); refine blk_put (cs := #[.slice none 0 0]) ?_ 0 _ rfl; (with_reducible repeat (first | refine blk_drewN ?_ _ | refine blk_drew ?_ | refine blk_alloc ?_ _)); exact BK217.out) hb); replace HB := Aside0.mk (below_step bl_ hb); (try clear hb); (try clear hb2); (try clear hk); (try clear hi); (try clear ho0)) | ((with_reducible refine gate_dst (N := 5) rfl ?_); refine box_event ?hg (N := 5) ?hd (cs := #[.slice none 0 0]) (t := 31) ?hr ?_; (case hd => rfl); (case hg => rfl); (case hr => first | (go_simp; done) | (go_simp; rfl)); intro gb222 hg w27 hbox hb; have BK222 := Aside0.mk (hbox); have GW222 : Aside0 (w.heap.size ≤ gb222) := gw_ hg (below_size bl_); have GE222 := GW222; have NB217_222 := Aside0.mk ((by rw [hg]; exact Nat.ne_of_lt (blk_lt (g := gb217) (o := .cells #[.slice Ao24 t213.length co24] 31 (0, 0)) bk_) : gb217 ≠ gb222)); have NB222_217 := Aside0.mk ((by rw [hg]; exact Nat.ne_of_gt (blk_lt (g := gb217) (o := .cells #[.slice Ao24 t213.length co24] 31 (0, 0)) bk_) : gb222 ≠ gb217)); replace HO215 := Aside0.mk (Kd.V_below (Kd.V_elderB (pV_ HO215.out) gb222 (Nat.le_of_eq hg.symm)) hb); replace HO220 := Aside0.mk (Kd.V_below (Kd.V_elderB (pV_ HO220.out) gb222 (Nat.le_of_eq hg.symm)) hb); replace BK217 := Aside0.mk (blk_below (g := gb217) (o := .cells #[.slice Ao24 t213.length co24] 31 (0, 0)) bk_ hb); replace HB := Aside0.mk (below_step bl_ hb); clear hb hbox hg; obtain ⟨Ao28, co28, eo28⟩ := Kd.V_slice HO220.out; subst eo28; have hnb29 := NB222_217.out; have hnc29 := NB217_222.out; obtain ⟨hcz30_0, hfz30_0⟩ := cf1_ BK222.out; obtain ⟨hcz31_0, hfz31_0⟩ := cf1_ BK217.out) | (go_at_call 20; (with_reducible refine (exactpplref19_Same.calls k _ _ t213 _ _ t218 false _ ?side1 ?side2 ?side3 ?side4 A5.out).mono ?_); (case side1 => refine (Kd.V_reads' (e := 60) (base := w.heap.size) (ok := fun k_ => ((True ∧ k_ ≠ gb217) ∧ k_ ≠ gb222)) (n := t213.length) (c := co24) ?_).2.2; exact (by (with_reducible repeat (first | apply Kd.V_alloc | apply Kd.V_drewN | apply Kd.V_drew)); exact (Kd.V_mono (Kd.V_far (p := ⟨gb222, 0, none⟩) (Kd.V_mono HO215.out (fun k_ hk => (⟨hk, by first | exact hk.2 | exact hk.1 | exact hk.2 | exact hk.1.1 | exact hk.1.2⟩ : _ ∧ k_ ≠ gb222))) (fun _ hk => hk.2) (.slice Ao28 t218.length co28)) (fun _ h_ => h_.1)))); (case side2 => exact (Kd.V_reads' HO215.out).2.1); (case side3 => refine (Kd.V_reads' (e := 60) (base := w.heap.size) (ok := fun k_ => (k_ ≠ gb217 ∧ k_ ≠ gb222)) (n := t218.length) (c := co28) ?_).2.2; exact (by (with_reducible repeat (first | apply Kd.V_alloc | apply Kd.V_drewN | apply Kd.V_drew)); exact (Kd.V_mono (Kd.V_far (p := ⟨gb222, 0, none⟩) (Kd.V_mono HO220.out (fun k_ hk => (⟨hk, by first | exact hk.2 | exact hk.1 | exact hk.2 | exact hk.1.1 | exact hk.1.2⟩ : _ ∧ k_ ≠ gb222))) (fun _ hk => hk.2) (.slice Ao28 t218.length co28)) (fun _ h_ => h_.1)))); (case side4 => exact (Kd.V_reads' HO220.out).2.1); rintro e w32 ⟨rfl, hb⟩; replace HO215 := Aside0.mk (Kd.V_below (by (with_reducible repeat (first | apply Kd.V_alloc | apply Kd.V_drewN | apply Kd.V_drew)); exact (Kd.V_mono (Kd.V_far (p := ⟨gb222, 0, none⟩) (Kd.V_mono HO215.out (fun k_ hk => (⟨hk, by first | exact hk.2 | exact hk.1 | exact hk.2 | exact hk.1.1 | exact hk.1.2⟩ : _ ∧ k_ ≠ gb222))) (fun _ hk => hk.2) (.slice Ao28 t218.length co28)) (fun _ h_ => h_.1))) hb); replace HO220 := Aside0.mk (Kd.V_below (by (with_reducible repeat (first | apply Kd.V_alloc | apply Kd.V_drewN | apply Kd.V_drew)); exact (Kd.V_mono (Kd.V_far (p := ⟨gb222, 0, none⟩) (Kd.V_mono HO220.out (fun k_ hk => (⟨hk, by first | exact hk.2 | exact hk.1 | exact hk.2 | exact hk.1.1 | exact hk.1.2⟩ : _ ∧ k_ ≠ gb222))) (fun _ hk => hk.2) (.slice Ao28 t218.length co28)) (fun _ h_ => h_.1))) hb); replace BK217 := Aside0.mk (blk_below (g := gb217) (o := .cells #[.slice Ao24 t213.length co24] 31 (0, 0)) (by (with_reducible repeat (first | refine blk_drewN ?_ _ | refine blk_drew ?_ | refine blk_alloc ?_ _)); refine blk_far ?_ NB217_222.out _; (with_reducible repeat (first | refine blk_drewN ?_ _ | refine blk_drew ?_ | refine blk_alloc ?_ _)); exact BK217.out) hb); replace BK222 := Aside0.mk (blk_below (g := gb222) (o := .cells #[.slice Ao28 t218.length co28] 31 (0, 0)) (by (with_reducible repeat (first | refine blk_drewN ?_ _ | refine blk_drew ?_ | refine blk_alloc ?_ _)); refine blk_put (cs := #[.slice none 0 0]) ?_ 0 _ rfl; (with_reducible repeat (first | refine blk_drewN ?_ _ | refine blk_drew ?_ | refine blk_alloc ?_ _)); exact BK222.out) hb); replace HB := Aside0.mk (below_step bl_ hb); (try clear hb); (try clear hb2); (try clear hk); (try clear hi)))
   go_ret
   exact ⟨re_, bl_⟩
 ·rw [if_neg c4] at H
  have c4b0 : (t216 == t221) = false := beq_eq_false_iff_ne.mpr c4
  have c4b1 : (t216 != t221) = true := bne_iff_ne.mpr c4
  obtain rfl := Option.some.inj H
  go_enter Tryd.func14, Tryd.ntmps14
  go_wp2_with (first | ((with_reducible refine gate_callee (f := 19) rfl ?_); refine goesL_ (some 9) rfl rfl Tryd.func19 (by kernel_rfl) rfl #[.slice A0 l0.length c0] rfl (by (try simp only [List.map_toArray, List.map_cons, List.map_nil]); first | done | rfl | (simp only [List.length_drop, List.length_take]; rfl)) ?_; (with_reducible refine (diagram_Reduce.calls _ _ l0 t213 t216 _ ?side1 ?side2 A2.out ?tab).mono ?_); (case tab => exact ptab HTAB.out bl_); (case side1 => repeat (first | exact HR0.out | (with_reducible refine Kd.C_alloc ?_ _) | (with_reducible refine Kd.C_drewN ?_ _) | (with_reducible refine Kd.C_drew ?_))); (case side2 => exact HC0.out); rintro e w33 ⟨v214, rfl, ho0, hb⟩; refine ⟨_, rfl, ?_⟩; have HO215 := Aside0.mk (Kd.V_lower (Kd.V_mono (ok' := fun k_ => True) ho0 (fun k_ hk_ => trivial)) (below_size bl_)); replace HB := Aside0.mk (below_step bl_ hb); (try clear hb); (try clear hb2); (try clear hk); (try clear hi); (try clear ho0)) | ((with_reducible refine gate_dst (N := 3) rfl ?_); refine box_event ?hg (N := 3) ?hd (cs := #[.slice none 0 0]) (t := 31) ?hr ?_; (case hd => rfl); (case hg => rfl); (case hr => first | (go_simp; done) | (go_simp; rfl)); intro gb217 hg w34 hbox hb; have BK217 := Aside0.mk (hbox); have GW217 : Aside0 (w.heap.size ≤ gb217) := gw_ hg (below_size bl_); have GE217 := GW217; replace HO215 := Aside0.mk (Kd.V_below (Kd.V_elderB (pV_ HO215.out) gb217 (Nat.le_of_eq hg.symm)) hb); replace HB := Aside0.mk (below_step bl_ hb); clear hb hbox hg; obtain ⟨Ao35, co35, eo35⟩ := Kd.V_slice HO215.out; subst eo35; obtain ⟨hcz36_0, hfz36_0⟩ := cf1_ BK217.out) | ((with_reducible refine gate_callee (f := 43) rfl ?_); refine goesL_ (some 14) rfl rfl Tryd.func43 (by kernel_rfl) rfl #[.slice A0 l0.length c0] rfl (by (try simp only [List.map_toArray, List.map_cons, List.map_nil]); first | done | rfl | (simp only [List.length_drop, List.length_take]; rfl)) ?_; (with_reducible refine (exactpplref19_Reduce.calls k _ _ l0 t218 t221 _ ?side1 ?side2 A3.out).mono ?_); (case side1 => exact Kd.C_below HR0.out bl_); (case side2 => exact HC0.out); rintro e w37 ⟨v219, rfl, ho0, hb⟩; refine ⟨_, rfl, ?_⟩; have HO220 := Aside0.mk (Kd.V_lower (Kd.V_mono (ok' := fun k_ => k_ ≠ gb217) ho0 (fun k_ hk_ => (Kd.freshB (g := gb217) (o := .cells #[.slice Ao35 t213.length co35] 31 (0, 0)) (by (with_reducible repeat (first | refine blk_drewN ?_ _ | refine blk_drew ?_ | refine blk_alloc ?_ _)); refine blk_put (cs := #[.slice none 0 0]) ?_ 0 _ rfl; (with_reducible repeat (first | refine blk_drewN ?_ _ | refine blk_drew ?_ | refine blk_alloc ?_ _)); exact BK217.out) k_ hk_))) (below_size bl_)); replace HO215 := Aside0.mk (Kd.V_below (by (with_reducible repeat (first | apply Kd.V_alloc | apply Kd.V_drewN | apply Kd.V_drew)); exact (Kd.V_mono (Kd.V_far (p := ⟨gb217, 0, none⟩) (Kd.V_mono HO215.out (fun k_ hk => (⟨hk, by first | exact hk.2 | exact hk.1 | exact hk.2 | exact hk.1.1 | exact hk.1.2⟩ : _ ∧ k_ ≠ gb217))) (fun _ hk => hk.2) (.slice Ao35 t213.length co35)) (fun _ h_ => h_.1))) hb); replace BK217 := Aside0.mk (blk_below (g := gb217) (o := .cells #[.slice Ao35 t213.length co35] 31 (0, 0)) (by (with_reducible repeat (first | refine blk_drewN ?_ _ | refine blk_drew ?_ | refine blk_alloc ?_ _)); refine blk_put (cs := #[.slice none 0 0]) ?_ 0 _ rfl; (with_reducible repeat (first | refine blk_drewN ?_ _ | refine blk_drew ?_ | refine blk_alloc ?_ _)); exact BK217.out) hb); replace HB := Aside0.mk (below_step bl_ hb); (try clear hb); (try clear hb2); (try clear hk); (try clear hi); (try clear ho0)) | ((with_reducible refine gate_dst (N := 5) rfl ?_); refine box_event ?hg (N := 5) ?hd (cs := #[.slice none 0 0]) (t := 31) ?hr ?_; (case hd => rfl); (case hg => rfl); (case hr => first | (go_simp; done) | (go_simp; rfl)); intro gb222 hg w38 hbox hb; have BK222 := Aside0.mk (hbox); have GW222 : Aside0 (w.heap.size ≤ gb222) := gw_ hg (below_size bl_); have GE222 := GW222; have NB217_222 := Aside0.mk ((by rw [hg]; exact Nat.ne_of_lt (blk_lt (g := gb217) (o := .cells #[.slice Ao35 t213.length co35] 31 (0, 0)) bk_) : gb217 ≠ gb222)); have NB222_217 := Aside0.mk ((by rw [hg]; exact Nat.ne_of_gt (blk_lt (g := gb217) (o := .cells #[.slice Ao35 t213.length co35] 31 (0, 0)) bk_) : gb222 ≠ gb217)); replace HO215 := Aside0.mk (Kd.V_below (Kd.V_elderB (pV_ HO215.out) gb222 (Nat.le_of_eq hg.symm)) hb); replace HO220 := Aside0.mk (Kd.V_below (Kd.V_elderB (pV_ HO220.out) gb222 (Nat.le_of_eq hg.symm)) hb); replace BK217 := Aside0.mk (blk_below (g := gb217) (o := .cells #[.slice Ao35 t213.length co35] 31 (0, 0)) bk_ hb); replace HB := Aside0.mk (below_step bl_ hb); clear hb hbox hg; obtain ⟨Ao39, co39, eo39⟩ := Kd.V_slice HO220.out; subst eo39; have hnb40 := NB222_217.out; have hnc40 := NB217_222.out; obtain ⟨hcz41_0, hfz41_0⟩ := cf1_ BK222.out))
  go_ret
  exact ⟨re_, bl_⟩

end Go.Proofs.YtopbjginpmdebaaDoor.K
namespace Go.Proofs.YtopbjginpmdebaaDoor.K
open Go.RowKit Go.Proofs.YtopbjginpmdebaaDoorW.PrintWords Go.Proofs.YtopbjginpmdebaaDoorW.PrintLast Go.Proofs.YtopbjginpmdebaaDoorW.PrintMore
attribute [local go_sem] max2_int min2_int max_two min_two max_three min_three max_four min_four   -- for this text's walks alone
set_option linter.unusedVariables false
set_option linter.unusedSimpArgs false

/-! ### exactppllaw19_small: function 18 -/
mutual
def exactppllaw19_small.l0 : Nat → List (S60) → Int → Option (Bool)
  | 0, _, _ => none
  | k + 1, x0, x3 => if x3 < (x0.length : Int) then (exactppllaw19_small.j1 k x0 x3 (decide (x3 < 25))) else (exactppllaw19_small.j1 k x0 x3 false)
def exactppllaw19_small.j1 : Nat → List (S60) → Int → Bool → Option (Bool)
  | 0, _, _, _ => none
  | k + 1, x0, x3, x11 => if x11 = true then (if 0 ≤ x3 then (if x3 < (x0.length : Int) then (if (((rd_T60 x0 x3).f2).length : Int) > 20 then (some false) else (exactppllaw19_small.l0 k x0 (wrap64 (x3 + 1)))) else (none)) else (none)) else (some (decide ((x0.length : Int) ≤ 24)))
end
def exactppllaw19_small.f (k : Nat) (l0 : List (S60)) : Option (Bool) := exactppllaw19_small.l0 k l0 0
theorem exactppllaw19_small.mono_l : ∀ k, (∀ y0 y1, LeO (exactppllaw19_small.l0 k y0 y1) (exactppllaw19_small.l0 (k + 1) y0 y1)) ∧ (∀ y0 y1 y2, LeO (exactppllaw19_small.j1 k y0 y1 y2) (exactppllaw19_small.j1 (k + 1) y0 y1 y2))
  | 0 => ⟨fun _ _ r h => by simp [exactppllaw19_small.l0] at h, fun _ _ _ r h => by simp [exactppllaw19_small.j1] at h⟩
  | k + 1 => by
    obtain ⟨ih0, ih1⟩ := exactppllaw19_small.mono_l k
    refine ⟨?_, ?_⟩
    · intro y0 y1
      unfold exactppllaw19_small.l0
      repeat' first
      | (with_reducible exact ih0 _ _)
      | (with_reducible exact ih1 _ _ _)
      | (with_reducible exact LeO.refl _)
      | (with_reducible exact LeO.none _)
      | (with_reducible refine LeO.ite ?_ ?_)
      | (with_reducible refine LeO.bind ?_ (fun _ => ?_))
      | exact ih0 _ _
      | exact ih1 _ _ _
      | exact LeO.none _
      | refine LeO.ite ?_ ?_
      | refine LeO.bind ?_ (fun _ => ?_)
    · intro y0 y1 y2
      unfold exactppllaw19_small.j1
      repeat' first
      | (with_reducible exact ih0 _ _)
      | (with_reducible exact ih1 _ _ _)
      | (with_reducible exact LeO.refl _)
      | (with_reducible exact LeO.none _)
      | (with_reducible refine LeO.ite ?_ ?_)
      | (with_reducible refine LeO.bind ?_ (fun _ => ?_))
      | exact ih0 _ _
      | exact ih1 _ _ _
      | exact LeO.none _
      | refine LeO.ite ?_ ?_
      | refine LeO.bind ?_ (fun _ => ?_)
theorem exactppllaw19_small.mono : ∀ a0 k, LeO (exactppllaw19_small.f k a0) (exactppllaw19_small.f (k + 1) a0) := by
  intro a0 k
  obtain ⟨ih0, ih1⟩ := exactppllaw19_small.mono_l k
  unfold exactppllaw19_small.f
  repeat' first
      | (with_reducible exact ih0 _ _)
      | (with_reducible exact ih1 _ _ _)
      | (with_reducible exact LeO.refl _)
      | (with_reducible exact LeO.none _)
      | (with_reducible refine LeO.ite ?_ ?_)
      | (with_reducible refine LeO.bind ?_ (fun _ => ?_))
      | exact ih0 _ _
      | exact ih1 _ _ _
      | exact LeO.none _
      | refine LeO.ite ?_ ?_
      | refine LeO.bind ?_ (fun _ => ?_)
set_option maxHeartbeats 8000000 in
set_option maxRecDepth 100000 in
theorem exactppllaw19_small.calls (k : Nat) (A0 : Option Addr) (c0 : Nat) (l0 : List (S60)) (r : Bool) (w : World) (hr0 : Kd.C k60 w A0 l0.length l0) (hc0 : l0.length ≤ c0) (h : exactppllaw19_small.f k l0 = some r) :
    Calls Tryd.prog 18 #[.slice A0 l0.length c0] w fun e w' => e = .returned (.bool r) ∧ Drawn0 w w' := by
  have HR0 := Aside0.mk hr0
  have HC0 := Aside0.mk hc0
  clear hr0 hc0
  have H : (exactppllaw19_small.l0 k l0 0) = some r := h
  clear h
  have H' := Aside0.mk H
  clear H
  go_enter Tryd.func18, Tryd.ntmps18
  go_wp2
  go_loopg [3] k (fun kq v3 w' => ∃ (x3_1 : Int), v3 = .int .i64 x3_1 ∧ Aside0 (exactppllaw19_small.l0 kq l0 x3_1 = some r) ∧ Aside0 (kq ≤ k) ∧ Drawn0 w w')
  case atStart => exact ⟨(0), (by first | rfl | (simp; done) | (simp [*]; done)), H', ⟨Nat.le_refl _⟩, by repeat (first | exact Drawn0.refl _ | apply Drawn0.step)⟩
  case round =>
    clear H'
    try clear c1
    obtain ⟨x3_1, rfl, HA, HK1, ⟨m1, rfl⟩⟩ := hrel
    cases gk with
    | zero => exact absurd HA.out (by simp [exactppllaw19_small.l0])
    | succ k1 =>
      have H := HA.out
      clear HA
      simp only [exactppllaw19_small.l0] at H
      have HC2 := Aside0.mk H
      clear H
      go_upto_region 2 with (fail)
      go_cut [11] (fun v11 wc => ∃ (kq : Nat) (x11_1 : Bool), v11 = .bool x11_1 ∧ Aside0 (exactppllaw19_small.j1 kq l0 x3_1 x11_1 = some r) ∧ Aside0 (kq ≤ k1) ∧ Drawn0 w wc)
      case first =>
        have H := HC2.out
        clear HC2
        by_cases c3 : x3_1 < (l0.length : Int)
        · rw [if_pos c3] at H
          have c3b0 : decide (x3_1 < (l0.length : Int)) = true := decide_eq_true c3
          clear c3
          (first | rw [c3b0] | (simp only [i64_w, i32_w]; rw [c3b0]) | skip)
          have H' := Aside0.mk H
          clear H
          go_wp2
          go_meet
          case rel => exact ⟨_, (decide (x3_1 < 25)), (by first | rfl | (simp; done) | (simp [*]; done)), H', ⟨by have := HK1.out; first | omega | exact Nat.le_refl _⟩, by repeat (first | exact Drawn0.refl _ | apply Drawn0.step)⟩
        · rw [if_neg c3] at H
          have c3b0 : decide (x3_1 < (l0.length : Int)) = false := decide_eq_false c3
          clear c3
          (first | rw [c3b0] | (simp only [i64_w, i32_w]; rw [c3b0]) | skip)
          have H' := Aside0.mk H
          clear H
          go_wp2
          go_meet
          case rel => exact ⟨_, (false), (by first | rfl | (simp; done) | (simp [*]; done)), H', ⟨by have := HK1.out; first | omega | exact Nat.le_refl _⟩, by repeat (first | exact Drawn0.refl _ | apply Drawn0.step)⟩
      case rest =>
        clear HC2
        try clear c1
        try clear p2
        try clear c3
        try clear c3b0
        obtain ⟨kq, x11_1, rfl, HA, HJ1, ⟨mc1, rfl⟩⟩ := hcut
        cases kq with
        | zero => exact absurd HA.out (by simp [exactppllaw19_small.j1])
        | succ kj1 =>
          have H := HA.out
          clear HA
          simp only [exactppllaw19_small.j1] at H
          by_cases c4 : x11_1 = true
          · subst c4
            have H1 : (if 0 ≤ x3_1 then (if x3_1 < (l0.length : Int) then (if (((rd_T60 l0 x3_1).f2).length : Int) > 20 then (some false) else (exactppllaw19_small.l0 kj1 l0 (wrap64 (x3_1 + 1)))) else (none)) else (none)) = some r := by rw [if_pos rfl] at H; exact H
            clear H
            have H := H1
            clear H1
            by_cases c5 : 0 ≤ x3_1
            · rw [if_pos c5] at H
              have c5b0 : decide (0 ≤ x3_1) = true := decide_eq_true c5
              clear c5
              by_cases c6 : x3_1 < (l0.length : Int)
              · rw [if_pos c6] at H
                have c6b0 : decide (x3_1 < (l0.length : Int)) = true := decide_eq_true c6
                clear c6
                by_cases c7 : (((rd_T60 l0 x3_1).f2).length : Int) > 20
                · rw [if_pos c7] at H
                  have c7b0 : decide (20 < (((rd_T60 l0 x3_1).f2).length : Int)) = true := decide_eq_true c7
                  have c7b1 : decide (20 < ((rd_T60 l0 x3_1).f2).length) = true := decide_eq_true (by omega)
                  clear c7
                  obtain rfl := Option.some.inj H
                  have p304 : 0 ≤ (x3_1 : Int) := of_decide_eq_true (by first | (with_reducible assumption) | assumption)
                  have q304 : x3_1 < (l0.length : Int) := of_decide_eq_true (by first | (with_reducible assumption) | assumption)
                  obtain ⟨ad304, A304_2, c304_2, e304, hx304_0, hx304_1, hx304_2, hl304_2, hi304_2⟩ := at_T60 HR0.out x3_1 p304 q304
                  cases e304
                  have HR304_2 := Aside0.mk hi304_2
                  have HC304_2 := Aside0.mk hl304_2
                  clear hi304_2 hl304_2
                  replace p304 := eq_true p304
                  replace q304 := eq_true q304
                  go_wp2
                  go_ret
                  exact ⟨by first | rfl | (simp; done) | (simp [*]; done), by repeat (first | exact Drawn0.refl _ | apply Drawn0.step)⟩
                · rw [if_neg c7] at H
                  have c7b0 : decide (20 < (((rd_T60 l0 x3_1).f2).length : Int)) = false := decide_eq_false c7
                  have c7b1 : decide (20 < ((rd_T60 l0 x3_1).f2).length) = false := decide_eq_false (by omega)
                  clear c7
                  have H' := Aside0.mk H
                  clear H
                  have p304 : 0 ≤ (x3_1 : Int) := of_decide_eq_true (by first | (with_reducible assumption) | assumption)
                  have q304 : x3_1 < (l0.length : Int) := of_decide_eq_true (by first | (with_reducible assumption) | assumption)
                  obtain ⟨ad304, A304_2, c304_2, e304, hx304_0, hx304_1, hx304_2, hl304_2, hi304_2⟩ := at_T60 HR0.out x3_1 p304 q304
                  cases e304
                  have HR304_2 := Aside0.mk hi304_2
                  have HC304_2 := Aside0.mk hl304_2
                  clear hi304_2 hl304_2
                  replace p304 := eq_true p304
                  replace q304 := eq_true q304
                  go_wp2
                  go_roundg kj1
                  case measure => have := HK1.out; have := HJ1.out; omega
                  case rel => exact ⟨(wrap64 (x3_1 + 1)), (by first | rfl | (simp; done) | (simp [*]; done)), H', ⟨by have := HK1.out; have := HJ1.out; omega⟩, by repeat (first | exact Drawn0.refl _ | apply Drawn0.step)⟩
              · rw [if_neg c6] at H
                exact absurd H (by simp)
            · rw [if_neg c5] at H
              exact absurd H (by simp)
          · replace c4 := Bool.eq_false_iff.mpr c4
            subst c4
            have H1 : (some (decide ((l0.length : Int) ≤ 24))) = some r := by rw [if_neg (show ¬ (false = true) by decide)] at H; exact H
            clear H
            have H := H1
            clear H1
            obtain rfl := Option.some.inj H
            go_wp2
            go_ret
            exact ⟨by first | rfl | (simp; done) | (simp [*]; done), by repeat (first | exact Drawn0.refl _ | apply Drawn0.step)⟩

end Go.Proofs.YtopbjginpmdebaaDoor.K
namespace Go.Proofs.YtopbjginpmdebaaDoor.K
open Go.RowKit Go.Proofs.YtopbjginpmdebaaDoorW.PrintWords Go.Proofs.YtopbjginpmdebaaDoorW.PrintLast Go.Proofs.YtopbjginpmdebaaDoorW.PrintMore
attribute [local go_sem] max2_int min2_int max_two min_two max_three min_three max_four min_four   -- for this text's walks alone
set_option linter.unusedVariables false
set_option linter.unusedSimpArgs false

/-! ### exactppllaw19_DiagramAny: function 4 -/
def exactppllaw19_DiagramAny.f (k : Nat) (l0 : List (S60)) : Option (Bool) := (exactppllaw19_small.f k l0).bind fun t305 => (if t305 = true then ((exactppllaw19_reduces.f k l0).bind fun t306 => (if t306 = true then ((exactppllaw19_awake.f).bind fun t307 => (some t307)) else (some false))) else (some true))
theorem exactppllaw19_DiagramAny.mono : ∀ a0 k, LeO (exactppllaw19_DiagramAny.f k a0) (exactppllaw19_DiagramAny.f (k + 1) a0) := by
  intro a0 k
  unfold exactppllaw19_DiagramAny.f
  repeat' first
      | (with_reducible exact exactppllaw19_reduces.mono _ _)
      | (with_reducible exact exactppllaw19_small.mono _ _)
      | (with_reducible exact LeO.refl _)
      | (with_reducible exact LeO.none _)
      | (with_reducible refine LeO.ite ?_ ?_)
      | (with_reducible refine LeO.bind ?_ (fun _ => ?_))
      | exact exactppllaw19_reduces.mono _ _
      | exact exactppllaw19_small.mono _ _
      | exact LeO.none _
      | refine LeO.ite ?_ ?_
      | refine LeO.bind ?_ (fun _ => ?_)
set_option maxHeartbeats 8000000 in
set_option maxRecDepth 100000 in
theorem exactppllaw19_DiagramAny.calls (k : Nat) (A0 : Option Addr) (c0 : Nat) (l0 : List (S60)) (r : Bool) (w : World) (hr0 : Kd.C k60 w A0 l0.length l0) (hc0 : l0.length ≤ c0) (h : exactppllaw19_DiagramAny.f k l0 = some r) (htab : PowTab w.heap.size w) :
    Calls Tryd.prog 4 #[.slice A0 l0.length c0] w fun e w' => e = .returned (.bool r) ∧ Below w.heap.size w w' := by
  have HTAB := Aside0.mk htab
  clear htab
  have HR0 := Aside0.mk hr0
  have HC0 := Aside0.mk hc0
  clear hr0 hc0
  have HB := Aside0.mk (Below.refl w.heap.size w)
  have H : ((exactppllaw19_small.f k l0).bind fun t305 => (if t305 = true then ((exactppllaw19_reduces.f k l0).bind fun t306 => (if t306 = true then ((exactppllaw19_awake.f).bind fun t307 => (some t307)) else (some false))) else (some true))) = some r := h
  clear h
  replace H := Option.bind_eq_some_iff.mp H
  obtain ⟨t305, A20, H⟩ := H
  replace H : (if t305 = true then ((exactppllaw19_reduces.f k l0).bind fun t306 => (if t306 = true then ((exactppllaw19_awake.f).bind fun t307 => (some t307)) else (some false))) else (some true)) = some r := H
  have A2 := Aside0.mk A20
  clear A20
  by_cases c3 : t305 = true
  · subst c3
    have H1 : ((exactppllaw19_reduces.f k l0).bind fun t306 => (if t306 = true then ((exactppllaw19_awake.f).bind fun t307 => (some t307)) else (some false))) = some r := by rw [if_pos rfl] at H; exact H
    clear H
    have H := H1
    clear H1
    replace H := Option.bind_eq_some_iff.mp H
    obtain ⟨t306, A40, H⟩ := H
    replace H : (if t306 = true then ((exactppllaw19_awake.f).bind fun t307 => (some t307)) else (some false)) = some r := H
    have A4 := Aside0.mk A40
    clear A40
    by_cases c5 : t306 = true
    · subst c5
      have H1 : ((exactppllaw19_awake.f).bind fun t307 => (some t307)) = some r := by rw [if_pos rfl] at H; exact H
      clear H
      have H := H1
      clear H1
      replace H := Option.bind_eq_some_iff.mp H
      obtain ⟨t307, A60, H⟩ := H
      replace H : (some t307) = some r := H
      have A6 := Aside0.mk A60
      clear A60
      obtain rfl := Option.some.inj H
      go_enter Tryd.func4, Tryd.ntmps4
      go_wp2_with (first | ((with_reducible refine gate_callee (f := 18) rfl ?_); refine goesL_ (some 4) rfl rfl Tryd.func18 (by kernel_rfl) rfl #[.slice A0 l0.length c0] rfl (by (try simp only [List.map_toArray, List.map_cons, List.map_nil]); first | done | rfl | (simp only [List.length_drop, List.length_take]; rfl)) ?_; (with_reducible refine (exactppllaw19_small.calls k _ _ l0 true _ ?side1 ?side2 A2.out).mono ?_); (case side1 => repeat (first | exact HR0.out | (with_reducible refine Kd.C_alloc ?_ _) | (with_reducible refine Kd.C_drewN ?_ _) | (with_reducible refine Kd.C_drew ?_))); (case side2 => exact HC0.out); rintro e w' ⟨rfl, ⟨nd, rfl⟩⟩; refine ⟨_, rfl, ?_⟩) | (go_at_call 14; (with_reducible refine (exactppllaw19_reduces.calls k _ _ l0 true _ ?side1 ?side2 A4.out ?tab).mono ?_); (case tab => exact ptab HTAB.out (by repeat (first | (with_reducible first | exact HB.out | apply below_alloc | apply pw_below_drewN | apply below_drew1) | exact HB.out))); (case side1 => repeat (first | exact HR0.out | (with_reducible refine Kd.C_alloc ?_ _) | (with_reducible refine Kd.C_drewN ?_ _) | (with_reducible refine Kd.C_drew ?_))); (case side2 => exact HC0.out); rintro e w7 ⟨rfl, hb⟩; have n0_ := Aside0.mk (below_step (by repeat (first | (with_reducible first | exact HB.out | apply below_alloc | apply pw_below_drewN | apply below_drew1) | exact HB.out)) hb); clear HB; have HB := n0_; clear n0_; (try clear hb); (try clear hb2); (try clear hk); (try clear hi)) | (go_at_call 17; (with_reducible refine (exactppllaw19_awake.calls  t307 _ A6.out ?tab).mono ?_); (case tab => exact ptab HTAB.out (by repeat (first | (with_reducible first | exact HB.out | apply below_alloc | apply pw_below_drewN | apply below_drew1) | exact HB.out))); rintro e w8 ⟨rfl, hb⟩; have n0_ := Aside0.mk (below_step (by repeat (first | (with_reducible first | exact HB.out | apply below_alloc | apply pw_below_drewN | apply below_drew1) | exact HB.out)) hb); clear HB; have HB := n0_; clear n0_; (try clear hb); (try clear hb2); (try clear hk); (try clear hi)))
      go_ret
      exact ⟨by first | rfl | (simp [errW_none, errW_some] <;> rfl) | (simp [*, errW_none, errW_some] <;> rfl), by repeat (first | (with_reducible first | exact HB.out | apply below_alloc | apply pw_below_drewN | apply below_drew1) | exact HB.out)⟩
    · replace c5 := Bool.eq_false_iff.mpr c5
      subst c5
      have H1 : (some false) = some r := by rw [if_neg (show ¬ (false = true) by decide)] at H; exact H
      clear H
      have H := H1
      clear H1
      obtain rfl := Option.some.inj H
      go_enter Tryd.func4, Tryd.ntmps4
      go_wp2_with (first | ((with_reducible refine gate_callee (f := 18) rfl ?_); refine goesL_ (some 4) rfl rfl Tryd.func18 (by kernel_rfl) rfl #[.slice A0 l0.length c0] rfl (by (try simp only [List.map_toArray, List.map_cons, List.map_nil]); first | done | rfl | (simp only [List.length_drop, List.length_take]; rfl)) ?_; (with_reducible refine (exactppllaw19_small.calls k _ _ l0 true _ ?side1 ?side2 A2.out).mono ?_); (case side1 => repeat (first | exact HR0.out | (with_reducible refine Kd.C_alloc ?_ _) | (with_reducible refine Kd.C_drewN ?_ _) | (with_reducible refine Kd.C_drew ?_))); (case side2 => exact HC0.out); rintro e w' ⟨rfl, ⟨nd, rfl⟩⟩; refine ⟨_, rfl, ?_⟩) | (go_at_call 14; (with_reducible refine (exactppllaw19_reduces.calls k _ _ l0 false _ ?side1 ?side2 A4.out ?tab).mono ?_); (case tab => exact ptab HTAB.out (by repeat (first | (with_reducible first | exact HB.out | apply below_alloc | apply pw_below_drewN | apply below_drew1) | exact HB.out))); (case side1 => repeat (first | exact HR0.out | (with_reducible refine Kd.C_alloc ?_ _) | (with_reducible refine Kd.C_drewN ?_ _) | (with_reducible refine Kd.C_drew ?_))); (case side2 => exact HC0.out); rintro e w9 ⟨rfl, hb⟩; have n0_ := Aside0.mk (below_step (by repeat (first | (with_reducible first | exact HB.out | apply below_alloc | apply pw_below_drewN | apply below_drew1) | exact HB.out)) hb); clear HB; have HB := n0_; clear n0_; (try clear hb); (try clear hb2); (try clear hk); (try clear hi)))
      go_ret
      exact ⟨by first | rfl | (simp [errW_none, errW_some] <;> rfl) | (simp [*, errW_none, errW_some] <;> rfl), by repeat (first | (with_reducible first | exact HB.out | apply below_alloc | apply pw_below_drewN | apply below_drew1) | exact HB.out)⟩
  · replace c3 := Bool.eq_false_iff.mpr c3
    subst c3
    have H1 : (some true) = some r := by rw [if_neg (show ¬ (false = true) by decide)] at H; exact H
    clear H
    have H := H1
    clear H1
    obtain rfl := Option.some.inj H
    go_enter Tryd.func4, Tryd.ntmps4
    go_wp2_with (first | ((with_reducible refine gate_callee (f := 18) rfl ?_); refine goesL_ (some 4) rfl rfl Tryd.func18 (by kernel_rfl) rfl #[.slice A0 l0.length c0] rfl (by (try simp only [List.map_toArray, List.map_cons, List.map_nil]); first | done | rfl | (simp only [List.length_drop, List.length_take]; rfl)) ?_; (with_reducible refine (exactppllaw19_small.calls k _ _ l0 false _ ?side1 ?side2 A2.out).mono ?_); (case side1 => repeat (first | exact HR0.out | (with_reducible refine Kd.C_alloc ?_ _) | (with_reducible refine Kd.C_drewN ?_ _) | (with_reducible refine Kd.C_drew ?_))); (case side2 => exact HC0.out); rintro e w' ⟨rfl, ⟨nd, rfl⟩⟩; refine ⟨_, rfl, ?_⟩))
    go_ret
    exact ⟨by first | rfl | (simp [errW_none, errW_some] <;> rfl) | (simp [*, errW_none, errW_some] <;> rfl), by repeat (first | (with_reducible first | exact HB.out | apply below_alloc | apply pw_below_drewN | apply below_drew1) | exact HB.out)⟩

end Go.Proofs.YtopbjginpmdebaaDoor.K
-- a []api.Node parameter, opened
namespace Go.Proofs.YtopbjginpmdebaaDoor.K
open Go.RowKit Go.ChangeShapes Go.Proofs.YtopbjginpmdebaaDoorW.PrintWords Go.Proofs.YtopbjginpmdebaaDoorW.PrintLast Go.Proofs.YtopbjginpmdebaaDoorW.PrintMore
variable {H : Type} {enc : TypeId × Value → H} {w : World} {base : Nat} {spare : Nat → Bool} {held : Bool}
theorem add_zero_ (a : Addr) (i j : Nat) : (a.add i).add j = a.add (i + j) := by
  by_cases h0 : i = 0 <;> by_cases h1 : j = 0 <;> simp [Addr.add, h0, h1, Nat.add_assoc]
set_option maxRecDepth 100000 in
theorem open_node {n : Nat} {cs : List Value} {x : DataW H × List MemPlace} (h : DataW.trod enc Tryd.prog w base spare held n 60 cs = some x) :
    cs.length = 3 ∧ ∃ s : S60, k60.K w s cs ∧ (Lit.int .i64 s.f0).wf = true ∧ (Lit.int .i64 s.f1).wf = true := by
  obtain ⟨xs, m, _, _, hl, hlen, hf⟩ := DataW.trod_struct Tryd.underlying60 h
  have h3 : Tryd.prog.cellsOf 60 = 3 := by kernel_rfl
  have c3 : Tryd.prog.cellsOf 3 = 1 := by kernel_rfl
  have c22 : Tryd.prog.cellsOf 22 = 1 := by kernel_rfl
  rw [h3] at hl
  match cs, hl with
  | [u0, u1, u2], _ =>
  replace hlen : xs.length = 3 := hlen
  match xs, hlen with
  | [y0, y1, y2], _ =>
  have f0 : DataW.trod enc Tryd.prog w base spare held m 3 (([u0, u1, u2].drop 0).take (Tryd.prog.cellsOf 3)) = some y0 := hf 0 _ rfl
  have f1 : DataW.trod enc Tryd.prog w base spare held m 3 (([u0, u1, u2].drop 1).take (Tryd.prog.cellsOf 3)) = some y1 := hf 1 _ rfl
  have f2 : DataW.trod enc Tryd.prog w base spare held m 22 (([u0, u1, u2].drop 2).take (Tryd.prog.cellsOf 22)) = some y2 := hf 2 _ rfl
  rw [c3] at f0 f1
  rw [c22] at f2
  obtain ⟨n0, e0, _, w0⟩ := DataW.trod_int Tryd.underlying3 f0
  obtain ⟨n1, e1, _, w1⟩ := DataW.trod_int Tryd.underlying3 f1
  obtain rfl : u0 = .int .i64 n0 := by simpa using e0
  obtain rfl : u1 = .int .i64 n1 := by simpa using e1
  rcases open_ints Tryd.underlying22 Tryd.underlying3 c3 f2 with ⟨e2, _⟩ | ⟨a, l, c, zs, e2, _, hlc, hm, hz, _, hcell, hwz⟩
  · obtain rfl : u2 = .slice none 0 0 := by simpa using e2
    exact ⟨rfl, ⟨n0, n1, []⟩, k60_mk w ⟨n0, n1, []⟩ (A2 := none) (c2 := 0) (Nat.le_refl _) (Kd.C_nil _ w), w0, w1⟩
  · obtain rfl : u2 = .slice (some a) l c := by simpa using e2
    have hl2 : (zs.take l).length = l := by rw [List.length_take]; split at hz <;> omega
    have hml : c ≤ 9223372036854775807 := hm
    refine ⟨rfl, ⟨n0, n1, zs.take l⟩, ?_, w0, w1⟩
    have k := k60_mk w ⟨n0, n1, zs.take l⟩ (A2 := some a) (c2 := c) (by show (zs.take l).length ≤ c; omega) (Kd.C_of_reads (d := (0 : Int)) (h1 := fun _ => rfl) ⟨rfl, by show (zs.take l).length ≤ _; omega, fun _ => ⟨a, rfl, fun j hj => by
      have hj : j < (zs.take l).length := hj
      have hjz : j < zs.length := by rw [List.length_take] at hj; omega
      rw [hcell j hjz]
      congr 2
      rw [List.getD_eq_getElem?_getD, List.getD_eq_getElem?_getD, List.getElem?_take_of_lt (by omega)]⟩⟩)
    have e : ({ f0 := n0, f1 := n1, f2 := zs.take l } : S60).f2.length = l := hl2
    rw [e] at k
    exact k
theorem open_nodes {t : TypeId} (ht : Tryd.prog.underlying t = some (.slice 60)) {fuel : Nat} {cs : List Value} {x : DataW H × List MemPlace} (h : DataW.trod enc Tryd.prog w base spare held fuel t cs = some x) :
    ∃ A cap, ∃ zs : List S60, cs = [.slice A zs.length cap] ∧ zs.length ≤ cap ∧ Kd.C k60 w A zs.length zs ∧ ∀ s ∈ zs, (Lit.int .i64 s.f0).wf = true ∧ (Lit.int .i64 s.f1).wf = true := by
  rcases DataW.trod_slice ht h with ⟨rfl, _⟩ | ⟨a, len, cap, elems, rest, n, _, rfl, _, hb, hl, hm, hlen, hel, _, _⟩
  · exact ⟨none, 0, [], rfl, Nat.le_refl _, Kd.C_nil _ w, by simp⟩
  have h3 : Tryd.prog.cellsOf 60 = 3 := by kernel_rfl
  have each : ∀ i, ∃ s : S60, i < len → (∃ c, c.length = 3 ∧ k60.K w s c ∧ ∀ j u, c[j]? = some u → w.cell? (a.add (i * 3 + j)) = some u) ∧ (Lit.int .i64 s.f0).wf = true ∧ (Lit.int .i64 s.f1).wf = true := by
    intro i
    by_cases hi : i < len
    · have he := hel i hi
      rw [List.getElem?_eq_getElem (by omega), h3, Option.bind_eq_some_iff] at he
      obtain ⟨c, hc, hy⟩ := he
      obtain ⟨hcl, s, hk, w0, w1⟩ := open_node hy
      obtain ⟨_, _, hcc⟩ := World.cells?_some hc
      refine ⟨s, fun _ => ⟨⟨c, hcl, hk, fun j u hj => ?_⟩, w0, w1⟩⟩
      have hj3 : j < 3 := by have := (List.getElem?_eq_some_iff.1 hj).1; omega
      rw [← add_zero_, hcc j hj3, hj]
    · exact ⟨z60, fun hh => absurd hh hi⟩
  obtain ⟨g, hg⟩ := Classical.axiomOfChoice each
  have hz : ((List.range len).map g).length = len := by simp
  have hml : cap ≤ 9223372036854775807 := hm
  refine ⟨some a, cap, (List.range len).map g, by rw [hz], by omega, ⟨rfl, by omega, fun _ => ⟨a, rfl, fun j p hj => ?_⟩⟩, ?_⟩
  · have hjl : j < len := by have := (List.getElem?_eq_some_iff.1 hj).1; omega
    obtain rfl : g j = p := by simpa [hjl] using hj
    exact (hg j hjl).1
  · intro s hs
    obtain ⟨j, hj, rfl⟩ := List.mem_map.1 hs
    exact (hg j (by simpa using hj)).2
end Go.Proofs.YtopbjginpmdebaaDoor.K
-- the reference's Graph says what isGraph says
namespace Go.Proofs.YtopbjginpmdebaaDoor.K
open Go.RowKit Go.Maps Go.Proofs.YtopbjginpmdebaaDoorW.PrintWords Go.Proofs.YtopbjginpmdebaaDoorW.PrintLast Go.Proofs.YtopbjginpmdebaaDoorW.PrintMore
set_option linter.unusedVariables false
set_option linter.unusedSimpArgs false
/-- branches of one site ahead of node i have as many kids -/
def ShpAt (nodes : List Nd) (i : Nat) (s : Int) (n : Nat) (j : Nat) : Prop := ∀ k : Nat, j ≤ k → k < i → (nth nodes (k : Int)).f0 = s → (nth nodes (k : Int)).f2.length = n
/-- a kid, as the reference wants it -/
def KidR (nodes : List Nd) (i : Nat) (s c : Int) : Prop := (0 ≤ c ∧ c < (i : Int)) ∧ ¬ ((nth nodes c).f0 ≠ -1 ∧ (nth nodes c).f0 ≤ s)
theorem sd_l1 (nodes : List Nd) (i : Nat) (hi : i ≤ nodes.length) (hb : nodes.length < 4611686018427387904) (s v : Int) (ks : List Int) : ∀ (m j fuel : Nat), i - j ≤ m → j ≤ i → m < fuel →
    ∃ b, exactpplref19_sound.l1 fuel nodes (i : Int) (j : Int) s v ks = some b ∧ (b = true ↔ ShpAt nodes i s ks.length j) := by
  intro m
  induction m with
  | zero =>
    intro j fuel h1 h2 h3
    obtain ⟨f, rfl⟩ : ∃ f, fuel = f + 1 := ⟨fuel - 1, by omega⟩
    have e : j = i := by omega
    subst e
    simp only [exactpplref19_sound.l1]
    rw [if_neg (by omega)]
    exact ⟨true, rfl, fun _ k h4 h5 => by omega, fun _ => rfl⟩
  | succ m ih =>
    intro j fuel h1 h2 h3
    obtain ⟨f, rfl⟩ : ∃ f, fuel = f + 1 := ⟨fuel - 1, by omega⟩
    by_cases hj : j < i
    · simp only [exactpplref19_sound.l1]
      rw [if_pos (by omega), if_pos (by omega), if_pos (by omega), w64_succ (by omega), rd_nth]
      obtain ⟨b, hb1, hb2⟩ := ih (j + 1) f (by omega) (by omega) (by omega)
      by_cases hs : (nth nodes (j : Int)).f0 = s
      · rw [if_pos hs]
        by_cases hl : ((nth nodes (j : Int)).f2.length : Int) = (ks.length : Int)
        · rw [if_pos hl]
          refine ⟨b, hb1, hb2.trans ⟨fun h k h4 h5 h6 => ?_, fun h k h4 h5 h6 => h k (by omega) h5 h6⟩⟩
          rcases Nat.lt_or_ge j k with h7 | h7
          · exact h k h7 h5 h6
          · obtain rfl : k = j := by omega
            omega
        · rw [if_neg hl]
          exact ⟨false, rfl, (fun h => by cases h), fun h => absurd (h j (Nat.le_refl _) hj hs) (by omega)⟩
      · rw [if_neg hs]
        refine ⟨b, hb1, hb2.trans ⟨fun h k h4 h5 h6 => ?_, fun h k h4 h5 h6 => h k (by omega) h5 h6⟩⟩
        rcases Nat.lt_or_ge j k with h7 | h7
        · exact h k h7 h5 h6
        · obtain rfl : k = j := by omega
          exact absurd h6 hs
    · have e : j = i := by omega
      subst e
      simp only [exactpplref19_sound.l1]
      rw [if_neg (by omega)]
      exact ⟨true, rfl, fun _ k h4 h5 => by omega, fun _ => rfl⟩
theorem sd_l0 (nodes : List Nd) (i : Nat) (hi : i ≤ nodes.length) (hb : nodes.length < 4611686018427387904) (s v : Int) (ks : List Int) (hk : ks.length < 4611686018427387904) : ∀ (m j fuel : Nat), ks.length - j ≤ m → j ≤ ks.length → m + i + 1 < fuel →
    ∃ b, exactpplref19_sound.l0 fuel nodes (i : Int) (j : Int) s v ks = some b ∧ (b = true ↔ (∀ c ∈ ks.drop j, KidR nodes i s c) ∧ ShpAt nodes i s ks.length 0) := by
  intro m
  induction m with
  | zero =>
    intro j fuel h1 h2 h3
    obtain ⟨f, rfl⟩ : ∃ f, fuel = f + 1 := ⟨fuel - 1, by omega⟩
    have e : j = ks.length := by omega
    subst e
    simp only [exactpplref19_sound.l0]
    rw [if_neg (by omega)]
    obtain ⟨b, h4, h5⟩ := sd_l1 nodes i hi hb s v ks i 0 f (by omega) (by omega) (by omega)
    exact ⟨b, h4, h5.trans ⟨fun h => ⟨by simp, h⟩, fun h => h.2⟩⟩
  | succ m ih =>
    intro j fuel h1 h2 h3
    obtain ⟨f, rfl⟩ : ∃ f, fuel = f + 1 := ⟨fuel - 1, by omega⟩
    by_cases hj : j < ks.length
    · obtain ⟨b, hb1, hb2⟩ := ih (j + 1) f (by omega) (by omega) (by omega)
      have hd : ks.drop j = ks[j] :: ks.drop (j + 1) := List.drop_eq_getElem_cons hj
      simp only [exactpplref19_sound.l0]
      rw [if_pos (by omega), if_pos (by omega), rd_get hj, w64_succ (by omega), hd]
      have hno : ∀ h : ¬ KidR nodes i s ks[j], (false = true ↔ (∀ c ∈ ks[j] :: ks.drop (j + 1), KidR nodes i s c) ∧ ShpAt nodes i s ks.length 0) := fun h => ⟨(fun e => by cases e), fun e => absurd (e.1 _ List.mem_cons_self) h⟩
      by_cases h4 : ks[j] < 0
      · rw [if_pos h4]
        exact ⟨false, rfl, hno (fun e => by have := e.1.1; omega)⟩
      · rw [if_neg h4]
        by_cases h5 : ks[j] ≥ (i : Int)
        · rw [if_pos h5]
          exact ⟨false, rfl, hno (fun e => by have := e.1.2; omega)⟩
        · rw [if_neg h5, if_pos (by omega), if_pos (by omega), show rd_T60 nodes ks[j] = nth nodes ks[j] from rfl, exactpplref19_IsBranch.f, Option.bind_some]
          have hyes : ∀ h : KidR nodes i s ks[j], (b = true ↔ (∀ c ∈ ks[j] :: ks.drop (j + 1), KidR nodes i s c) ∧ ShpAt nodes i s ks.length 0) := fun h => hb2.trans ⟨fun e => ⟨fun c hc => (List.mem_cons.1 hc).elim (fun e2 => by rw [e2]; exact h) (e.1 c), e.2⟩, fun e => ⟨fun c hc => e.1 c (List.mem_cons_of_mem _ hc), e.2⟩⟩
          by_cases h6 : (nth nodes ks[j]).f0 = -1
          · rw [show ((nth nodes ks[j]).f0 != -1) = false by simp [h6], if_neg (by decide)]
            exact ⟨b, hb1, hyes ⟨⟨by omega, by omega⟩, fun e => e.1 h6⟩⟩
          · rw [show ((nth nodes ks[j]).f0 != -1) = true by simp [h6], if_pos rfl]
            by_cases h7 : (nth nodes ks[j]).f0 ≤ s
            · rw [if_pos h7]
              exact ⟨false, rfl, hno (fun e => e.2 ⟨h6, h7⟩)⟩
            · rw [if_neg h7]
              exact ⟨b, hb1, hyes ⟨⟨by omega, by omega⟩, fun e => h7 e.2⟩⟩
    · have e : j = ks.length := by omega
      subst e
      simp only [exactpplref19_sound.l0]
      rw [if_neg (by omega)]
      obtain ⟨b, h4, h5⟩ := sd_l1 nodes i hi hb s v ks i 0 f (by omega) (by omega) (by omega)
      exact ⟨b, h4, h5.trans ⟨fun h => ⟨by simp, h⟩, fun h => h.2⟩⟩
/-- node i is as a graph demands it, as the reference says it -/
def Snd (nodes : List Nd) (i : Nat) : Prop := ((nth nodes (i : Int)).f0 = -1 ∧ (nth nodes (i : Int)).f2 = [] ∧ -1073741824 ≤ (nth nodes (i : Int)).f1 ∧ (nth nodes (i : Int)).f1 ≤ 1073741824) ∨
  ((0 ≤ (nth nodes (i : Int)).f0 ∧ (nth nodes (i : Int)).f0 < 64 ∧ (nth nodes (i : Int)).f1 = 0 ∧ 1 ≤ (nth nodes (i : Int)).f2.length ∧ (nth nodes (i : Int)).f2.length ≤ 16) ∧ (∀ c ∈ (nth nodes (i : Int)).f2, KidR nodes i (nth nodes (i : Int)).f0 c) ∧ ShpAt nodes i (nth nodes (i : Int)).f0 (nth nodes (i : Int)).f2.length 0)
theorem sd_f (nodes : List Nd) (i : Nat) (hi : i < nodes.length) (hb : nodes.length < 4611686018427387904) (hk : (nth nodes (i : Int)).f2.length < 4611686018427387904) (fuel : Nat) (hf : (nth nodes (i : Int)).f2.length + i + 4 < fuel) :
    ∃ b, exactpplref19_sound.f fuel nodes (i : Int) = some b ∧ (b = true ↔ Snd nodes i) := by
  obtain ⟨f, rfl⟩ : ∃ f, fuel = f + 1 := ⟨fuel - 1, by omega⟩
  unfold exactpplref19_sound.f
  rw [if_pos (by omega), if_pos (by omega), rd_nth]
  have hnd : nth nodes (i : Int) = nth nodes (i : Int) := rfl
  unfold Snd
  generalize nth nodes (i : Int) = n at hk hf ⊢
  rw [exactpplref19_IsBranch.f, Option.bind_some]
  obtain ⟨b, h4, h5⟩ := sd_l0 nodes i (by omega) hb n.f0 n.f1 n.f2 hk n.f2.length 0 f (by omega) (by omega) (by omega)
  rw [List.drop_zero] at h5
  simp only [exactpplref19_sound.j0, if_true]
  by_cases h6 : n.f0 = -1
  · rw [show (n.f0 != -1) = false by simp [h6], if_neg (by decide)]
    have h0 : ((n.f2.length : Int) = 0) ↔ n.f2 = [] := by rw [← List.length_eq_zero_iff]; omega
    by_cases h7 : (n.f2.length : Int) = 0
    · rw [if_pos h7]
      by_cases h8 : n.f1 ≥ -1073741824
      · rw [if_pos h8]
        refine ⟨_, rfl, ?_⟩
        rw [decide_eq_true_eq]
        exact ⟨fun h => .inl ⟨h6, h0.1 h7, h8, h⟩, fun h => h.elim (fun e => e.2.2.2) (fun e => by omega)⟩
      · rw [if_neg h8]
        exact ⟨_, rfl, (fun h => by cases h), fun h => h.elim (fun e => by omega) (fun e => by omega)⟩
    · rw [if_neg h7]
      exact ⟨_, rfl, (fun h => by cases h), fun h => h.elim (fun e => absurd (h0.2 e.2.1) h7) (fun e => by omega)⟩
  · rw [show (n.f0 != -1) = true by simp [h6], if_pos rfl]
    have hno : ∀ h : ¬ (0 ≤ n.f0 ∧ n.f0 < 64 ∧ n.f1 = 0 ∧ 1 ≤ n.f2.length ∧ n.f2.length ≤ 16), (false = true ↔ (n.f0 = -1 ∧ n.f2 = [] ∧ -1073741824 ≤ n.f1 ∧ n.f1 ≤ 1073741824) ∨ ((0 ≤ n.f0 ∧ n.f0 < 64 ∧ n.f1 = 0 ∧ 1 ≤ n.f2.length ∧ n.f2.length ≤ 16) ∧ (∀ c ∈ n.f2, KidR nodes i n.f0 c) ∧ ShpAt nodes i n.f0 n.f2.length 0)) :=
      fun h => ⟨(fun e => by cases e), fun e => e.elim (fun e => absurd e.1 h6) (fun e => absurd e.1 h)⟩
    by_cases h7 : n.f0 < 0
    · rw [if_pos h7]; exact ⟨false, rfl, hno (by omega)⟩
    · rw [if_neg h7]
      by_cases h8 : n.f0 ≥ 64
      · rw [if_pos h8]; exact ⟨false, rfl, hno (by omega)⟩
      · rw [if_neg h8]
        by_cases h9 : n.f1 = 0
        · rw [if_pos h9]
          by_cases h10 : (n.f2.length : Int) < 1
          · rw [if_pos h10]; exact ⟨false, rfl, hno (by omega)⟩
          · rw [if_neg h10]
            by_cases h11 : (n.f2.length : Int) > 16
            · rw [decide_eq_true h11, if_pos rfl]; exact ⟨false, rfl, hno (by omega)⟩
            · rw [decide_eq_false h11, if_neg (by decide)]
              exact ⟨b, h4, h5.trans ⟨fun h => .inr ⟨by omega, h⟩, fun h => h.elim (fun e => absurd e.1 h6) (fun e => e.2)⟩⟩
        · rw [if_neg h9]; exact ⟨false, rfl, hno (fun e => h9 e.2.2.1)⟩
theorem gr_l0 (nodes : List Nd) (hb : nodes.length < 4611686018427387904) (q : Nat) (hq : q < 4611686018427387904) (hx : ∀ n ∈ nodes, n.f2.length ≤ q) : ∀ (m j fuel : Nat), nodes.length - j ≤ m → j ≤ nodes.length → m + q + nodes.length + 5 < fuel →
    ∃ b, exactpplref19_Graph.l0 fuel nodes (j : Int) = some b ∧ (b = true ↔ (∀ i : Nat, j ≤ i → i < nodes.length → Snd nodes i) ∧ 0 < nodes.length) := by
  intro m
  induction m with
  | zero =>
    intro j fuel h1 h2 h3
    obtain ⟨f, rfl⟩ : ∃ f, fuel = f + 1 := ⟨fuel - 1, by omega⟩
    have e : j = nodes.length := by omega
    subst e
    simp only [exactpplref19_Graph.l0]
    rw [if_neg (by omega)]
    exact ⟨_, rfl, by rw [decide_eq_true_eq]; exact ⟨fun h => ⟨fun i h4 h5 => by omega, by omega⟩, fun h => by omega⟩⟩
  | succ m ih =>
    intro j fuel h1 h2 h3
    obtain ⟨f, rfl⟩ : ∃ f, fuel = f + 1 := ⟨fuel - 1, by omega⟩
    by_cases hj : j < nodes.length
    · have hmem : nth nodes (j : Int) ∈ nodes := by rw [nth_lt hj]; exact List.getElem_mem hj
      have hl := hx _ hmem
      obtain ⟨b, h4, h5⟩ := sd_f nodes j hj hb (by omega) f (by omega)
      simp only [exactpplref19_Graph.l0]
      rw [if_pos (by omega), h4, Option.bind_some, w64_succ (by omega)]
      cases b with
      | true =>
        obtain ⟨c, h6, h7⟩ := ih (j + 1) f (by omega) (by omega) (by omega)
        rw [if_pos rfl]
        refine ⟨c, h6, h7.trans ⟨fun h => ⟨fun i h8 h9 => ?_, h.2⟩, fun h => ⟨fun i h8 h9 => h.1 i (by omega) h9, h.2⟩⟩⟩
        rcases Nat.lt_or_ge j i with h10 | h10
        · exact h.1 i h10 h9
        · obtain rfl : i = j := by omega
          exact h5.1 rfl
      | false =>
        rw [if_neg (by decide)]
        exact ⟨false, rfl, (fun h => by cases h), fun h => h5.2 (h.1 j (Nat.le_refl _) hj)⟩
    · have e : j = nodes.length := by omega
      subst e
      simp only [exactpplref19_Graph.l0]
      rw [if_neg (by omega)]
      exact ⟨_, rfl, by rw [decide_eq_true_eq]; exact ⟨fun h => ⟨fun i h4 h5 => by omega, by omega⟩, fun h => by omega⟩⟩
/-- what Shapes accepts -/
theorem shp_iff : ∀ (l : List Nd) (g : PM), (shp g l).isSome = true ↔ (∀ n ∈ l, 0 ≤ n.f0 → ∀ v, g n.f0 = some v → v = (n.f2.length : Int)) ∧ l.Pairwise (fun a b => 0 ≤ a.f0 → a.f0 = b.f0 → a.f2.length = b.f2.length)
  | [], g => by simp [shp]
  | n :: l, g => by
    simp only [shp]
    by_cases h0 : n.f0 < 0
    · rw [if_pos h0, shp_iff l g, List.pairwise_cons]
      constructor
      · rintro ⟨h1, h2⟩
        exact ⟨fun m hm h3 => (List.mem_cons.1 hm).elim (fun e => by subst e; omega) (fun h => h1 m h h3), fun b _ h3 => by omega, h2⟩
      · rintro ⟨h1, _, h2⟩
        exact ⟨fun m hm => h1 m (List.mem_cons_of_mem _ hm), h2⟩
    · rw [if_neg h0]
      by_cases h1 : (g n.f0).isSome = true ∧ (g n.f0).getD 0 ≠ (n.f2.length : Int)
      · rw [if_pos h1]
        constructor
        · intro h; cases h
        · rintro ⟨h2, _⟩
          obtain ⟨v, hv⟩ := Option.isSome_iff_exists.1 h1.1
          have := h2 n List.mem_cons_self (by omega) v hv
          rw [hv] at h1
          exact absurd this h1.2
      · rw [if_neg h1, shp_iff l _, List.pairwise_cons]
        have hg : ∀ v, g n.f0 = some v → v = (n.f2.length : Int) := by
          intro v hv
          refine Classical.byContradiction fun hne => h1 ⟨by rw [hv]; rfl, by rw [hv]; exact hne⟩
        constructor
        · rintro ⟨h2, h3⟩
          refine ⟨fun m hm h4 v hv => ?_, fun b hb h4 h5 => ?_, h3⟩
          · rcases List.mem_cons.1 hm with rfl | hm
            · exact hg v hv
            · by_cases e : m.f0 = n.f0
              · have := h2 m hm h4 (n.f2.length : Int) (by unfold upd; rw [if_pos e])
                rw [e] at hv
                rw [hg v hv]; exact this
              · exact h2 m hm h4 v (by unfold upd; rw [if_neg e]; exact hv)
          · have := h2 b hb (by omega) (n.f2.length : Int) (by unfold upd; rw [if_pos h5.symm])
            omega
        · rintro ⟨h2, h3, h4⟩
          refine ⟨fun m hm h5 v hv => ?_, h4⟩
          unfold upd at hv
          by_cases e : m.f0 = n.f0
          · rw [if_pos e] at hv
            have := h3 m hm (by omega) e.symm
            injection hv with hv
            omega
          · rw [if_neg e] at hv
            exact h2 m (List.mem_cons_of_mem _ hm) h5 v hv
theorem gr_snd (nodes : List Nd) : grB nodes = true ↔ (∀ i : Nat, 0 ≤ i → i < nodes.length → Snd nodes i) ∧ 0 < nodes.length := by
  unfold grB
  rw [Bool.and_eq_true, Bool.and_eq_true, decide_eq_true_eq, shp_iff, List.all_eq_true]
  constructor
  · rintro ⟨h1, h2, _, h3⟩
    have hlb : ∀ i : Nat, i < nodes.length → lfB (nth nodes (i : Int)) = true ∨ brB nodes (i : Int) (nth nodes (i : Int)) = true := fun i hi => by have := h1 i (List.mem_range.2 hi); simpa using this
    refine ⟨fun i _ hi => ?_, h2⟩
    rcases hlb i hi with h4 | h4
    · exact .inl (lf_iff.1 h4)
    · obtain ⟨h5, h6⟩ := br_iff.1 h4
      refine .inr ⟨h5, fun c hc => ⟨(h6 c hc).1, fun e => (h6 c hc).2 ⟨?_, e.2⟩⟩, fun k _ hk he => ?_⟩
      · have h7 := (h6 c hc).1
        rcases hlb c.toNat (by omega) with h8 | h8
        · have := (lf_iff.1 h8).1
          rw [show ((c.toNat : Nat) : Int) = c by omega] at this
          exact absurd this e.1
        · have := (br_iff.1 h8).1.1
          rw [show ((c.toNat : Nat) : Int) = c by omega] at this
          exact this
      · have h7 := (List.pairwise_iff_getElem.1 h3) k i (by omega) hi hk
        rw [← nth_lt (show k < nodes.length by omega), ← nth_lt hi] at h7
        exact h7 (by omega) he
  · rintro ⟨h1, h2⟩
    have hf0 : ∀ i : Nat, i < nodes.length → (nth nodes (i : Int)).f0 = -1 ∨ 0 ≤ (nth nodes (i : Int)).f0 := fun i hi => (h1 i (Nat.zero_le _) hi).elim (fun e => .inl e.1) (fun e => .inr e.1.1)
    refine ⟨fun i hi => ?_, h2, (fun n _ _ v hv => by cases hv), List.pairwise_iff_getElem.2 fun i j hi hj hij h3 h4 => ?_⟩
    · have hi := List.mem_range.1 hi
      rw [Bool.or_eq_true]
      rcases h1 i (Nat.zero_le _) hi with h3 | h3
      · exact .inl (lf_iff.2 h3)
      · refine .inr (br_iff.2 ⟨h3.1, fun c hc => ⟨(h3.2.1 c hc).1, fun e => (h3.2.1 c hc).2 ⟨by omega, e.2⟩⟩⟩)
    · rw [← nth_lt hi] at h3 h4 ⊢
      rw [← nth_lt hj] at h4 ⊢
      rcases h1 j (Nat.zero_le _) hj with h5 | h5
      · omega
      · exact h5.2.2 i (Nat.zero_le _) hij h4
theorem graph_f (nodes : List Nd) (hb : nodes.length < 4611686018427387904) (q : Nat) (hq : q < 4611686018427387904) (hx : ∀ n ∈ nodes, n.f2.length ≤ q) (fuel : Nat) (hf : q + nodes.length + nodes.length + 5 < fuel) : exactpplref19_Graph.f fuel nodes = some (grB nodes) := by
  unfold exactpplref19_Graph.f
  obtain ⟨b, h1, h2⟩ := gr_l0 nodes hb q hq hx nodes.length 0 fuel (by omega) (by omega) (by omega)
  have : b = grB nodes := by rw [Bool.eq_iff_iff, h2, gr_snd]
  rw [← this]
  exact h1
end Go.Proofs.YtopbjginpmdebaaDoor.K
namespace Go.Proofs.YtopbjginpmdebaaDoor.K
open Go.RowKit Go.Proofs.YtopbjginpmdebaaDoorW.PrintWords Go.Proofs.YtopbjginpmdebaaDoorW.PrintLast Go.Proofs.YtopbjginpmdebaaDoorW.PrintMore
attribute [local go_sem] max2_int min2_int max_two min_two max_three min_three max_four min_four   -- for this text's walks alone
set_option linter.unusedVariables false
set_option linter.unusedSimpArgs false

/-- A state of type 58 at block g of W; what its slices lead to came in by w0. -/
def IsS58 (w0 W : World) (g : Nat) (f0 : List Int) (f1 : Int) (f2 : Int) : Prop := ∃ A0 c0, W.heap[g]? = some (.cells #[.slice A0 f0.length c0, .int .i64 f1, .int .i64 f2] 58 (0, 0)) ∧ w0.heap.size ≤ g ∧ Kd.C (Kd.int .i64) w0 A0 f0.length f0
theorem IsS58.grown {w0 W : World} {g : Nat} {f0 : List Int} {f1 : Int} {f2 : Int} {W1 : World} {row : Option Nat} (h : IsS58 w0 W g f0 f1 f2) (hw : W.grownBy W1 row) (hne : some g ≠ row) : IsS58 w0 W1 g f0 f1 f2 := by
  obtain ⟨A0, c0, hb, hg, hr0⟩ := h
  exact ⟨A0, c0, blk_grown hb hw hne, hg, hr0⟩
theorem IsS58.own_neN {w0 W : World} {g : Nat} {f0 : List Int} {f1 : Int} {f2 : Int} {α : Type} {d : Kd α} {e : Nat} {base : Nat} {ok : Nat → Prop} {v : Value} {xs : List α} (h : IsS58 w0 W g f0 f1 f2) (ho : Kd.N d e W base ok v xs) (ht : e ≠ 58) : some g ≠ v.ownBlock := by
  obtain ⟨A0, c0, hb, hg, hr0⟩ := h
  exact Kd.N_ne ho hb ht
theorem IsS58.fresh {w0 W : World} {g : Nat} {f0 : List Int} {f1 : Int} {f2 : Int} (h : IsS58 w0 W g f0 f1 f2) : ∀ k, W.heap.size ≤ k → k ≠ g := by
  obtain ⟨A0, c0, hb, hg, hr0⟩ := h
  exact Kd.freshB hb
theorem IsS58.kept {w0 W : World} {g : Nat} {f0 : List Int} {f1 : Int} {f2 : Int} {W1 : World} {S : Nat → Prop} (h : IsS58 w0 W g f0 f1 f2) (hk : Kept W W1 S) (hne : ¬ S g) : IsS58 w0 W1 g f0 f1 f2 := by
  obtain ⟨A0, c0, hb, hg, hr0⟩ := h
  exact ⟨A0, c0, blk_kept hb hk hne, hg, hr0⟩
theorem IsS58.below {w0 W : World} {g : Nat} {f0 : List Int} {f1 : Int} {f2 : Int} {W1 : World} (h : IsS58 w0 W g f0 f1 f2) (hw : Below W.heap.size W W1) : IsS58 w0 W1 g f0 f1 f2 := h.grown (grown_of_below hw none) (by simp)
theorem IsS58.alloc {w0 W : World} {g : Nat} {f0 : List Int} {f1 : Int} {f2 : Int} (h : IsS58 w0 W g f0 f1 f2) (o : Obj) : IsS58 w0 (W.alloc o) g f0 f1 f2 := h.below (below_alloc (Below.refl _ _) o)
theorem IsS58.drewN {w0 W : World} {g : Nat} {f0 : List Int} {f1 : Int} {f2 : Int} (h : IsS58 w0 W g f0 f1 f2) (m : Nat) : IsS58 w0 (W.drewN m) g f0 f1 f2 := h
theorem IsS58.drew {w0 W : World} {g : Nat} {f0 : List Int} {f1 : Int} {f2 : Int} (h : IsS58 w0 W g f0 f1 f2) : IsS58 w0 W.drew g f0 f1 f2 := h
theorem IsS58.at_ {w0 W : World} {g : Nat} {f0 : List Int} {f1 : Int} {f2 : Int} {w' : World} {m : Nat} (hq : W.drewN m = w') (h : IsS58 w0 W g f0 f1 f2) : IsS58 w0 w' g f0 f1 f2 := by subst hq; exact IsS58.drewN h m
theorem IsS58.apart {w0 W : World} {g : Nat} {f0 : List Int} {f1 : Int} {f2 : Int} {α : Type} {d : Kd α} {e : Nat} {base : Nat} {ok : Nat → Prop} {v : Value} {xs : List α} (h : IsS58 w0 W g f0 f1 f2) (ho : d.R e W base ok v xs) (ht : ∀ q, q ∈ e :: d.E → q ≠ 58) : d.R e W base (fun k => ok k ∧ k ≠ g) v xs := by
  obtain ⟨A0, c0, hb, hg, hr0⟩ := h
  exact Kd.R_types ho hb ht
theorem IsS58.own_ne {w0 W : World} {g : Nat} {f0 : List Int} {f1 : Int} {f2 : Int} {α : Type} {d : Kd α} {e : Nat} {base : Nat} {ok : Nat → Prop} {v : Value} {xs : List α} (h : IsS58 w0 W g f0 f1 f2) (ho : d.R e W base ok v xs) (ht : e ≠ 58) : some g ≠ v.ownBlock := by
  obtain ⟨A0, c0, hb, hg, hr0⟩ := h
  exact Kd.R_ne ho hb ht
theorem IsS58.apartQ {w0 W : World} {g : Nat} {f0 : List Int} {f1 : Int} {f2 : Int} {α : Type} {d : Kd α} {e : Nat} {base : Nat} {ok : Nat → Prop} {v : Value} {xs : List α} (h : IsS58 w0 W g f0 f1 f2) (ho : d.Q e W base ok v xs) (ht : ∀ q, q ∈ e :: d.E → q ≠ 58) : d.Q e W base (fun k => ok k ∧ k ≠ g) v xs := by
  obtain ⟨A0, c0, hb, hg, hr0⟩ := h
  exact Kd.Q_types ho hb ht
theorem IsS58.own_neQ {w0 W : World} {g : Nat} {f0 : List Int} {f1 : Int} {f2 : Int} {α : Type} {d : Kd α} {e : Nat} {base : Nat} {ok : Nat → Prop} {v : Value} {xs : List α} (h : IsS58 w0 W g f0 f1 f2) (ho : d.Q e W base ok v xs) (ht : e ≠ 58) : some g ≠ v.ownBlock := by
  obtain ⟨A0, c0, hb, hg, hr0⟩ := h
  exact Kd.Q_ne ho hb ht
theorem IsS58.apartS {w0 W : World} {g : Nat} {f0 : List Int} {f1 : Int} {f2 : Int} {α : Type} {d : Kd α} {e : Nat} {base : Nat} {ok : Nat → Prop} {v : Value} {xs : List α} (h : IsS58 w0 W g f0 f1 f2) (ho : d.S e W base ok v xs) (ht : ∀ q, q ∈ e :: d.E → q ≠ 58) : d.S e W base (fun k => ok k ∧ k ≠ g) v xs := by
  obtain ⟨A0, c0, hb, hg, hr0⟩ := h
  exact Kd.S_types ho hb ht
theorem IsS58.own_neS {w0 W : World} {g : Nat} {f0 : List Int} {f1 : Int} {f2 : Int} {α : Type} {d : Kd α} {e : Nat} {base : Nat} {ok : Nat → Prop} {v : Value} {xs : List α} (h : IsS58 w0 W g f0 f1 f2) (ho : d.S e W base ok v xs) (ht : e ≠ 58) : some g ≠ v.ownBlock := by
  obtain ⟨A0, c0, hb, hg, hr0⟩ := h
  exact Kd.S_ne ho hb ht
theorem IsS58.lt {w0 W : World} {g : Nat} {f0 : List Int} {f1 : Int} {f2 : Int} (h : IsS58 w0 W g f0 f1 f2) : g < W.heap.size := by
  obtain ⟨A0, c0, hb, hg, hr0⟩ := h
  exact blk_lt hb
theorem IsS58.ge {w0 W : World} {g : Nat} {f0 : List Int} {f1 : Int} {f2 : Int} (h : IsS58 w0 W g f0 f1 f2) : w0.heap.size ≤ g := by
  obtain ⟨A0, c0, hb, hg, hr0⟩ := h
  exact hg
theorem IsS58.ne_blk {w0 W : World} {g : Nat} {f0 : List Int} {f1 : Int} {f2 : Int} {a : Nat} {cs : Array Value} {t : TypeId} {fr : Nat × Nat} (h : IsS58 w0 W g f0 f1 f2) (hb2 : W.heap[a]? = some (.cells cs t fr)) (ht : t ≠ 58) : g ≠ a := by
  obtain ⟨A0, c0, hb, hg, hr0⟩ := h
  rintro rfl
  rw [hb] at hb2
  injection hb2 with hb2
  injection hb2 with _ ht2
  exact ht ht2.symm
theorem IsS58.far {w0 W : World} {g : Nat} {f0 : List Int} {f1 : Int} {f2 : Int} {p : Addr} (h : IsS58 w0 W g f0 f1 f2) (hne : g ≠ p.block) (u : Value) : IsS58 w0 (W.setCell p u) g f0 f1 f2 := by
  obtain ⟨A0, c0, hb, hg, hr0⟩ := h
  exact ⟨A0, c0, blk_far hb hne u, hg, hr0⟩
theorem cellS58_0 {W : World} {g : Nat} {A0 : Option Addr} {c0 : Nat} {f0 : List Int} {f1 : Int} {f2 : Int} (h : W.heap[g]? = some (.cells #[.slice A0 f0.length c0, .int .i64 f1, .int .i64 f2] 58 (0, 0))) : W.cell? ⟨g, 0, none⟩ = some (.slice A0 f0.length c0) := (blk_cell h 0).trans rfl
theorem cellS58_1 {W : World} {g : Nat} {A0 : Option Addr} {c0 : Nat} {f0 : List Int} {f1 : Int} {f2 : Int} (h : W.heap[g]? = some (.cells #[.slice A0 f0.length c0, .int .i64 f1, .int .i64 f2] 58 (0, 0))) : W.cell? ⟨g, 1, none⟩ = some (.int .i64 f1) := (blk_cell h 1).trans rfl
theorem IsS58.set_1 {w0 W : World} {g : Nat} {f0 : List Int} {f1 : Int} {f2 : Int} (h : IsS58 w0 W g f0 f1 f2) (x : Int) : IsS58 w0 (W.setCell ⟨g, 1, none⟩ (.int .i64 x)) g f0 x f2 := by
  obtain ⟨A0, c0, hb, hg, hr0⟩ := h
  exact ⟨A0, c0, by simpa using blk_set hb 1 (.int .i64 x), hg, hr0⟩
theorem cellS58_2 {W : World} {g : Nat} {A0 : Option Addr} {c0 : Nat} {f0 : List Int} {f1 : Int} {f2 : Int} (h : W.heap[g]? = some (.cells #[.slice A0 f0.length c0, .int .i64 f1, .int .i64 f2] 58 (0, 0))) : W.cell? ⟨g, 2, none⟩ = some (.int .i64 f2) := (blk_cell h 2).trans rfl
theorem IsS58.set_2 {w0 W : World} {g : Nat} {f0 : List Int} {f1 : Int} {f2 : Int} (h : IsS58 w0 W g f0 f1 f2) (x : Int) : IsS58 w0 (W.setCell ⟨g, 2, none⟩ (.int .i64 x)) g f0 f1 x := by
  obtain ⟨A0, c0, hb, hg, hr0⟩ := h
  exact ⟨A0, c0, by simpa using blk_set hb 2 (.int .i64 x), hg, hr0⟩
theorem IsS58.new (w0 W : World) (A0 : Option Addr) (c0 : Nat) (f0 : List Int) (f1 : Int) (f2 : Int) (hB : Below w0.heap.size w0 W) (hr0 : Kd.C (Kd.int .i64) w0 A0 f0.length f0) : IsS58 w0 (W.alloc (.cells #[.slice A0 f0.length c0, .int .i64 f1, .int .i64 f2] 58)) W.heap.size f0 f1 f2 := ⟨A0, c0, by simpa using heap_alloc_new W _, hB.size, hr0⟩

/-! ### exactpplmake_New: function 15 -/
def exactpplmake_New.f (l0 : List Int) : Option (List Int × Int × Int) := if (l0.length : Int) > 1000 then (if 1000 ≤ (l0.length : Int) then (some (l0.take 1000, 0, 0)) else (none)) else (some (l0, 0, 0))
set_option maxHeartbeats 8000000 in
set_option maxRecDepth 100000 in
theorem exactpplmake_New.calls (A0 : Option Addr) (c0 : Nat) (l0 : List Int) (r1 : List Int) (r2 : Int) (r3 : Int) (w0 w : World) (hB : Below w0.heap.size w0 w) (hr0 : Kd.C (Kd.int .i64) w0 A0 l0.length l0) (hc0 : l0.length ≤ c0) (h : exactpplmake_New.f l0 = some (r1, r2, r3)) :
    Calls Tryd.prog 15 #[.slice A0 l0.length c0] w fun e w' => ∃ g_ : Nat, e = .returned (.pointer (some ⟨g_, 0, none⟩)) ∧ IsS58 w0 w' g_ r1 r2 r3 ∧ Below w0.heap.size w0 w' ∧ Below w.heap.size w w' := by
  have hu58 := Tryd.underlying58
  have HR0 := Aside0.mk hr0
  have HC0 := Aside0.mk hc0
  clear hr0 hc0
  have HBW := Aside0.mk (Below.refl w.heap.size w)
  have HW0 := Aside0.mk hB.size
  have HB := Aside0.mk hB
  clear hB
  have H : (if (l0.length : Int) > 1000 then (if 1000 ≤ (l0.length : Int) then (some (l0.take 1000, 0, 0)) else (none)) else (some (l0, 0, 0))) = some (r1, r2, r3) := h
  clear h
  by_cases c2 : (l0.length : Int) > 1000
  · rw [if_pos c2] at H
    have c2b0 : decide (1000 < (l0.length : Int)) = true := decide_eq_true c2
    have c2b1 : decide (1000 < l0.length) = true := decide_eq_true (by omega)
    clear c2
    by_cases c3 : 1000 ≤ (l0.length : Int)
    · rw [if_pos c3] at H
      have c3b0 := eq_true c3
      have c3b1 : decide (1000 ≤ (l0.length : Int)) = true := decide_eq_true c3
      clear c3
      simp only [Option.some.injEq, Prod.mk.injEq] at H
      obtain ⟨rfl, rfl, rfl⟩ := H
      obtain ⟨i04, hi04, _, hsz4, _⟩ := info_parts info3
      obtain ⟨hcut4, hA4, hC4⟩ := print_take_of (P := Tryd.prog) (Value.int .i64) 0 22 3 .i64 Tryd.underlying22 hi04 hsz4 A0 c0 l0 1000 (by omega) (of_decide_eq_true (by first | (with_reducible assumption) | assumption)) HC0.out
      have HR226 := Aside0.mk (Kd.C_of_reads (h1 := fun _ => rfl) (hA4 _ (Kd.reads_of_C HR0.out)))
      have HC226 := Aside0.mk hC4
      clear hA4 hC4 hi04 hsz4
      go_enter Tryd.func15, Tryd.ntmps15
      go_wp2_with (first | ((with_reducible refine gate_dst (N := 10) rfl ?_); refine box_event ?hg (N := 10) ?hd (cs := #[.slice A0 (l0.take 1000).length c0, .int .i64 0, .int .i64 0]) (t := 58) ?hr ?_; (case hd => rfl); (case hg => rfl); (case hr => first | (go_simp; done) | (go_simp; rfl)); intro gb227 hg w5 hbox hb; have n0_ := Aside0.mk (below_step HBW.out hb); have n1_ := Aside0.mk (below_step (by repeat (first | (with_reducible first | exact HB.out | apply below_alloc | apply pw_below_drewN | apply below_drew1) | exact HB.out)) hb); have n2_ := Aside0.mk (hbox); have n3_ := Aside0.mk ((by rw [hg]; exact (below_size (by repeat (first | (with_reducible first | exact HBW.out | apply below_alloc | apply pw_below_drewN | apply below_drew1) | exact HBW.out))) : w.heap.size ≤ gb227)); have n4_ := Aside0.mk ((Nat.le_trans HW0.out (by rw [hg]; exact (below_size (by repeat (first | (with_reducible first | exact HBW.out | apply below_alloc | apply pw_below_drewN | apply below_drew1) | exact HBW.out))) : w.heap.size ≤ gb227) : w0.heap.size ≤ gb227)); clear HBW; clear HB; have HBW := n0_; have HB := n1_; have BK227 := n2_; have GW227 := n3_; have GE227 := n4_; clear n0_ n1_ n2_ n3_ n4_; clear hb hbox hg))
      go_ret
      exact ⟨_, rfl, (show IsS58 w0 _ gb227 (l0.take 1000) 0 0 from ⟨_, _, by (with_reducible repeat (first | refine blk_drewN ?_ _ | refine blk_drew ?_ | refine blk_alloc ?_ _)); exact BK227.out, GE227.out, HR226.out⟩), by repeat (first | (with_reducible first | exact HB.out | apply below_alloc | apply pw_below_drewN | apply below_drew1 | refine below_set ?_ GE227.out) | exact HB.out), by repeat (first | (with_reducible first | exact HBW.out | apply below_alloc | apply pw_below_drewN | apply below_drew1 | refine below_set ?_ GW227.out) | exact HBW.out)⟩
    · rw [if_neg c3] at H
      exact absurd H (by simp)
  · rw [if_neg c2] at H
    have c2b0 : decide (1000 < (l0.length : Int)) = false := decide_eq_false c2
    have c2b1 : decide (1000 < l0.length) = false := decide_eq_false (by omega)
    clear c2
    simp only [Option.some.injEq, Prod.mk.injEq] at H
    obtain ⟨rfl, rfl, rfl⟩ := H
    go_enter Tryd.func15, Tryd.ntmps15
    go_wp2_with (first | ((with_reducible refine gate_dst (N := 10) rfl ?_); refine box_event ?hg (N := 10) ?hd (cs := #[.slice A0 l0.length c0, .int .i64 0, .int .i64 0]) (t := 58) ?hr ?_; (case hd => rfl); (case hg => rfl); (case hr => first | (go_simp; done) | (go_simp; rfl)); intro gb228 hg w6 hbox hb; have n0_ := Aside0.mk (below_step HBW.out hb); have n1_ := Aside0.mk (below_step (by repeat (first | (with_reducible first | exact HB.out | apply below_alloc | apply pw_below_drewN | apply below_drew1) | exact HB.out)) hb); have n2_ := Aside0.mk (hbox); have n3_ := Aside0.mk ((by rw [hg]; exact (below_size (by repeat (first | (with_reducible first | exact HBW.out | apply below_alloc | apply pw_below_drewN | apply below_drew1) | exact HBW.out))) : w.heap.size ≤ gb228)); have n4_ := Aside0.mk ((Nat.le_trans HW0.out (by rw [hg]; exact (below_size (by repeat (first | (with_reducible first | exact HBW.out | apply below_alloc | apply pw_below_drewN | apply below_drew1) | exact HBW.out))) : w.heap.size ≤ gb228) : w0.heap.size ≤ gb228)); clear HBW; clear HB; have HBW := n0_; have HB := n1_; have BK228 := n2_; have GW228 := n3_; have GE228 := n4_; clear n0_ n1_ n2_ n3_ n4_; clear hb hbox hg))
    go_ret
    exact ⟨_, rfl, (show IsS58 w0 _ gb228 l0 0 0 from ⟨_, _, by (with_reducible repeat (first | refine blk_drewN ?_ _ | refine blk_drew ?_ | refine blk_alloc ?_ _)); exact BK228.out, GE228.out, HR0.out⟩), by repeat (first | (with_reducible first | exact HB.out | apply below_alloc | apply pw_below_drewN | apply below_drew1 | refine below_set ?_ GE228.out) | exact HB.out), by repeat (first | (with_reducible first | exact HBW.out | apply below_alloc | apply pw_below_drewN | apply below_drew1 | refine below_set ?_ GW228.out) | exact HBW.out)⟩

end Go.Proofs.YtopbjginpmdebaaDoor.K
namespace Go.Proofs.YtopbjginpmdebaaDoor.K
open Go.RowKit Go.Proofs.YtopbjginpmdebaaDoorW.PrintWords Go.Proofs.YtopbjginpmdebaaDoorW.PrintLast Go.Proofs.YtopbjginpmdebaaDoorW.PrintMore
attribute [local go_sem] max2_int min2_int max_two min_two max_three min_three max_four min_four   -- for this text's walks alone
set_option linter.unusedVariables false
set_option linter.unusedSimpArgs false

/-! ### exactpplmake_Src_Raw: function 54 -/
def exactpplmake_Src_Raw.f (s0_0 : List Int) (s0_1 : Int) (s0_2 : Int) : Option (Int × Int × Int) := if s0_1 ≥ (s0_0.length : Int) then (some (0, s0_1, s0_2)) else (if 0 ≤ (wrap64 ((wrap64 (s0_1 + 1)) - 1)) then (if (wrap64 ((wrap64 (s0_1 + 1)) - 1)) < (s0_0.length : Int) then (some (rd s0_0 (wrap64 ((wrap64 (s0_1 + 1)) - 1)), wrap64 (s0_1 + 1), s0_2)) else (none)) else (none))
set_option maxHeartbeats 8000000 in
set_option maxRecDepth 100000 in
theorem exactpplmake_Src_Raw.calls (g : Nat) (s0_0 : List Int) (s0_1 : Int) (s0_2 : Int) (r1 : Int) (r2 : Int) (r3 : Int) (w0 w : World) (hI : IsS58 w0 w g s0_0 s0_1 s0_2) (hB : Below w0.heap.size w0 w) (h : exactpplmake_Src_Raw.f s0_0 s0_1 s0_2 = some (r1, r2, r3)) :
    Calls Tryd.prog 54 #[.pointer (some ⟨g, 0, none⟩)] w fun e w' => e = .returned (.int .i64 r1) ∧ IsS58 w0 w' g s0_0 r2 r3 ∧ Below w0.heap.size w0 w' ∧ KeepBut w w' g none := by
  have HI0 := Aside0.mk hI
  have HK := Aside0.mk (KeepBut.refl w g none)
  have HL := Aside0.mk hB.size
  clear hI
  have HW0 := Aside0.mk hB.size
  have HB := Aside0.mk hB
  clear hB
  have H : (if s0_1 ≥ (s0_0.length : Int) then (some (0, s0_1, s0_2)) else (if 0 ≤ (wrap64 ((wrap64 (s0_1 + 1)) - 1)) then (if (wrap64 ((wrap64 (s0_1 + 1)) - 1)) < (s0_0.length : Int) then (some (rd s0_0 (wrap64 ((wrap64 (s0_1 + 1)) - 1)), wrap64 (s0_1 + 1), s0_2)) else (none)) else (none))) = some (r1, r2, r3) := h
  clear h
  by_cases c2 : s0_1 ≥ (s0_0.length : Int)
  · rw [if_pos c2] at H
    have c2b0 : decide ((s0_0.length : Int) ≤ s0_1) = true := decide_eq_true c2
    clear c2
    simp only [Option.some.injEq, Prod.mk.injEq] at H
    obtain ⟨rfl, rfl, rfl⟩ := H
    obtain ⟨ASz3_0, cSz3_0, HGz3, hgz3, HSz3_0⟩ := HI0.out
    have hcz3_0 := cellS58_0 HGz3
    have hcz3_1 := cellS58_1 HGz3
    have hcz3_2 := cellS58_2 HGz3
    have hfz3_1 := blk_frozen HGz3 1
    have hfz3_2 := blk_frozen HGz3 2
    clear HGz3 hgz3
    go_enter Tryd.func54, Tryd.ntmps54
    go_wp2
    repeat (go_quiet (fail); try go_wp2)
    go_ret
    exact ⟨by first | rfl | (simp [errW_none, errW_some] <;> rfl) | (simp [*, errW_none, errW_some] <;> rfl), by repeat (first | (with_reducible first | exact HI0.out | apply IsS58.alloc | apply IsS58.drewN | apply IsS58.drew | apply IsS58.set_1 | apply IsS58.set_2) | exact HI0.out), by repeat (first | (with_reducible first | exact HB.out | apply below_alloc | apply pw_below_drewN | apply below_drew1 | refine below_set ?_ (IsS58.ge HI0.out)) | exact HB.out), by repeat (first | (with_reducible first | exact HK.out | apply KeepBut.set_ | apply keep_drewN | apply keep_drew | apply keep_alloc) | exact HK.out)⟩
  · rw [if_neg c2] at H
    have c2b0 : decide ((s0_0.length : Int) ≤ s0_1) = false := decide_eq_false c2
    clear c2
    obtain ⟨ji4, hji4⟩ : ∃ j_ : Int, (wrap64 ((wrap64 (s0_1 + 1)) - 1)) = j_ := ⟨_, rfl⟩
    replace H : (if 0 ≤ (ji4) then (if (ji4) < (s0_0.length : Int) then (some (rd s0_0 (ji4), wrap64 (s0_1 + 1), s0_2)) else (none)) else (none)) = some (r1, r2, r3) := by first | (rw [hji4] at H; exact H) | (simp only [hji4] at H ⊢; exact H)
    have hji4w : (IntKind.i64.wrap ((wrap64 (s0_1 + 1)) - 1)) = ji4 := (i64_w _).trans hji4
    by_cases c5 : 0 ≤ (ji4)
    · rw [if_pos c5] at H
      have c5b0 : decide (0 ≤ (ji4)) = true := decide_eq_true c5
      clear c5
      by_cases c6 : (ji4) < (s0_0.length : Int)
      · rw [if_pos c6] at H
        have c6b0 : decide ((ji4) < (s0_0.length : Int)) = true := decide_eq_true c6
        clear c6
        simp only [Option.some.injEq, Prod.mk.injEq] at H
        obtain ⟨rfl, rfl, rfl⟩ := H
        obtain ⟨ASz7_0, cSz7_0, HGz7, hgz7, HSz7_0⟩ := HI0.out
        have hcz7_0 := cellS58_0 HGz7
        have hcz7_1 := cellS58_1 HGz7
        have hcz7_2 := cellS58_2 HGz7
        have hfz7_1 := blk_frozen HGz7 1
        have hfz7_2 := blk_frozen HGz7 2
        clear HGz7 hgz7
        have p229 : 0 ≤ ((ji4) : Int) := of_decide_eq_true (by first | (with_reducible assumption) | assumption)
        have q229 : (ji4) < (s0_0.length : Int) := of_decide_eq_true (by first | (with_reducible assumption) | assumption)
        obtain ⟨ad229, e229, hx229_0⟩ := Kd.at_int HSz7_0 (ji4) p229 q229
        cases e229
        have hn229_0 : ad229.block ≠ g := Nat.ne_of_lt (Nat.lt_of_lt_of_le (by have := World.block_lt_of_cell? _ _ hx229_0; first | rwa [add_block] at this | exact this) (IsS58.ge HI0.out))
        replace hx229_0 := pw_cell_below HB.out hx229_0
        replace hx229_0 := (cell_far (p := ⟨g, 1, none⟩) (by first | (rw [add_block]; exact hn229_0) | (show (Addr.add _ _).block ≠ _; rw [add_block]; exact hn229_0) | exact hn229_0) (.int .i64 (wrap64 (s0_1 + 1)))).trans hx229_0
        (try have hy229_0 := fun (n_ : Nat) => (show (((w.drewN n_).setCell ⟨g, 1, none⟩ (.int .i64 (wrap64 (s0_1 + 1))))).cell? _ = some _ from hx229_0))
        clear hn229_0
        replace p229 := eq_true p229
        replace q229 := eq_true q229
        go_enter Tryd.func54, Tryd.ntmps54
        go_wp2
        repeat (go_quiet (fail); try go_wp2)
        all_goals go_ret
        all_goals exact ⟨by first | rfl | (simp [errW_none, errW_some] <;> rfl) | (simp only [← hji4]; first | rfl | (simp [errW_none, errW_some] <;> rfl)) | (simp; rw [← hji4]; (first | unfold mn | unfold mx); split <;> omega) | (simp; (first | unfold mn at hji4 | unfold mx at hji4); split at hji4 <;> omega) | (simp [*, errW_none, errW_some] <;> rfl), by repeat (first | (with_reducible first | exact HI0.out | apply IsS58.alloc | apply IsS58.drewN | apply IsS58.drew | apply IsS58.set_1 | apply IsS58.set_2) | exact HI0.out), by repeat (first | (with_reducible first | exact HB.out | apply below_alloc | apply pw_below_drewN | apply below_drew1 | refine below_set ?_ (IsS58.ge HI0.out)) | exact HB.out), by repeat (first | (with_reducible first | exact HK.out | apply KeepBut.set_ | apply keep_drewN | apply keep_drew | apply keep_alloc) | exact HK.out)⟩
      · rw [if_neg c6] at H
        exact absurd H (by simp)
    · rw [if_neg c5] at H
      exact absurd H (by simp)

end Go.Proofs.YtopbjginpmdebaaDoor.K
namespace Go.Proofs.YtopbjginpmdebaaDoor.K
open Go.RowKit Go.Proofs.YtopbjginpmdebaaDoorW.PrintWords Go.Proofs.YtopbjginpmdebaaDoorW.PrintLast Go.Proofs.YtopbjginpmdebaaDoorW.PrintMore
attribute [local go_sem] max2_int min2_int max_two min_two max_three min_three max_four min_four   -- for this text's walks alone
set_option linter.unusedVariables false
set_option linter.unusedSimpArgs false

/-! ### exactpplmake_Src_N: function 23 -/
def exactpplmake_Src_N.f (s0_0 : List Int) (s0_1 : Int) (s0_2 : Int) (a1 : Int) : Option (Int × Int × Int) := if a1 < 1 then (some (0, s0_1, s0_2)) else ((exactpplmake_Src_Raw.f s0_0 s0_1 s0_2).bind fun bt230 => (if a1 = 0 then (none) else (if (Int.tmod bt230.1 a1) < 0 then (some (wrap64 ((Int.tmod bt230.1 a1) + a1), bt230.2.1, bt230.2.2)) else (some (Int.tmod bt230.1 a1, bt230.2.1, bt230.2.2)))))
set_option maxHeartbeats 8000000 in
set_option maxRecDepth 100000 in
theorem exactpplmake_Src_N.calls (g : Nat) (s0_0 : List Int) (s0_1 : Int) (s0_2 : Int) (a1 : Int) (r1 : Int) (r2 : Int) (r3 : Int) (w0 w : World) (hI : IsS58 w0 w g s0_0 s0_1 s0_2) (hB : Below w0.heap.size w0 w) (h : exactpplmake_Src_N.f s0_0 s0_1 s0_2 a1 = some (r1, r2, r3)) :
    Calls Tryd.prog 23 #[.pointer (some ⟨g, 0, none⟩), .int .i64 a1] w fun e w' => e = .returned (.int .i64 r1) ∧ IsS58 w0 w' g s0_0 r2 r3 ∧ Below w0.heap.size w0 w' ∧ KeepBut w w' g none := by
  have HI0 := Aside0.mk hI
  have HK := Aside0.mk (KeepBut.refl w g none)
  have HL := Aside0.mk hB.size
  clear hI
  have HW0 := Aside0.mk hB.size
  have HB := Aside0.mk hB
  clear hB
  have H : (if a1 < 1 then (some (0, s0_1, s0_2)) else ((exactpplmake_Src_Raw.f s0_0 s0_1 s0_2).bind fun bt230 => (if a1 = 0 then (none) else (if (Int.tmod bt230.1 a1) < 0 then (some (wrap64 ((Int.tmod bt230.1 a1) + a1), bt230.2.1, bt230.2.2)) else (some (Int.tmod bt230.1 a1, bt230.2.1, bt230.2.2)))))) = some (r1, r2, r3) := h
  clear h
  by_cases c3 : a1 < 1
  · rw [if_pos c3] at H
    have c3b0 : decide (a1 < 1) = true := decide_eq_true c3
    clear c3
    simp only [Option.some.injEq, Prod.mk.injEq] at H
    obtain ⟨rfl, rfl, rfl⟩ := H
    go_enter Tryd.func23, Tryd.ntmps23
    go_wp2
    go_ret
    exact ⟨by first | rfl | (simp [errW_none, errW_some] <;> rfl) | (simp [*, errW_none, errW_some] <;> rfl), by repeat (first | (with_reducible first | exact HI0.out | apply IsS58.alloc | apply IsS58.drewN | apply IsS58.drew | apply IsS58.set_1 | apply IsS58.set_2) | exact HI0.out), by repeat (first | (with_reducible first | exact HB.out | apply below_alloc | apply pw_below_drewN | apply below_drew1 | refine below_set ?_ (IsS58.ge HI0.out)) | exact HB.out), by repeat (first | (with_reducible first | exact HK.out | apply KeepBut.set_ | apply keep_drewN | apply keep_drew | apply keep_alloc) | exact HK.out)⟩
  · rw [if_neg c3] at H
    have c3b0 : decide (a1 < 1) = false := decide_eq_false c3
    clear c3
    replace H := Option.bind_eq_some_iff.mp H
    obtain ⟨⟨t230, t231, t232⟩, A40, H⟩ := H
    replace H : (if a1 = 0 then (none) else (if (Int.tmod t230 a1) < 0 then (some (wrap64 ((Int.tmod t230 a1) + a1), t231, t232)) else (some (Int.tmod t230 a1, t231, t232)))) = some (r1, r2, r3) := H
    have A4 := Aside0.mk A40
    clear A40
    by_cases c5 : a1 = 0
    · rw [if_pos c5] at H
      exact absurd H (by simp)
    · rw [if_neg c5] at H
      have c5b0 : (a1 == 0) = false := beq_eq_false_iff_ne.mpr c5
      have c5b1 : (a1 != 0) = true := bne_iff_ne.mpr c5
      by_cases c6 : (Int.tmod t230 a1) < 0
      · rw [if_pos c6] at H
        have c6b0 : decide ((Int.tmod t230 a1) < 0) = true := decide_eq_true c6
        clear c6
        simp only [Option.some.injEq, Prod.mk.injEq] at H
        obtain ⟨rfl, rfl, rfl⟩ := H
        go_enter Tryd.func23, Tryd.ntmps23
        go_wp2_with (first | ((with_reducible refine gate_callee (f := 54) rfl ?_); refine goesL_ (some 9) rfl rfl Tryd.func54 (by kernel_rfl) rfl #[.pointer (some ⟨g, 0, none⟩)] rfl (by (try simp only [List.map_toArray, List.map_cons, List.map_nil]); first | done | rfl | (simp only [List.length_drop, List.length_take]; rfl)) ?_; (with_reducible refine (exactpplmake_Src_Raw.calls g s0_0 s0_1 s0_2 t230 t231 t232 w0 _ ?side1 ?side2 A4.out).mono ?_); (case side1 => repeat (first | (with_reducible first | exact HI0.out | apply IsS58.alloc | apply IsS58.drewN | apply IsS58.drew | apply IsS58.set_1 | apply IsS58.set_2) | exact HI0.out)); (case side2 => repeat (first | (with_reducible first | exact HB.out | apply below_alloc | apply pw_below_drewN | apply below_drew1 | refine below_set ?_ (IsS58.ge HI0.out)) | exact HB.out)); rintro e w7 ⟨rfl, hi, hb, hk⟩; refine ⟨_, rfl, ?_⟩; have n0_ := Aside0.mk (KeepBut.trans (by repeat (first | (with_reducible first | exact HK.out | apply KeepBut.set_ | apply keep_drewN | apply keep_drew | apply keep_alloc) | exact HK.out)) hk (.inl rfl)); have n1_ := Aside0.mk (hb); have n2_ := Aside0.mk (hi); clear HK; clear HB; clear HI0; have HK := n0_; have HB := n1_; have HI0 := n2_; clear n0_ n1_ n2_; (try clear hb); (try clear hb2); (try clear hk); (try clear hi)))
        go_ret
        exact ⟨by first | rfl | (simp [errW_none, errW_some] <;> rfl) | (simp [*, errW_none, errW_some] <;> rfl), by repeat (first | (with_reducible first | exact HI0.out | apply IsS58.alloc | apply IsS58.drewN | apply IsS58.drew | apply IsS58.set_1 | apply IsS58.set_2) | exact HI0.out), by repeat (first | (with_reducible first | exact HB.out | apply below_alloc | apply pw_below_drewN | apply below_drew1 | refine below_set ?_ (IsS58.ge HI0.out)) | exact HB.out), by repeat (first | (with_reducible first | exact HK.out | apply KeepBut.set_ | apply keep_drewN | apply keep_drew | apply keep_alloc) | exact HK.out)⟩
      · rw [if_neg c6] at H
        have c6b0 : decide ((Int.tmod t230 a1) < 0) = false := decide_eq_false c6
        clear c6
        simp only [Option.some.injEq, Prod.mk.injEq] at H
        obtain ⟨rfl, rfl, rfl⟩ := H
        go_enter Tryd.func23, Tryd.ntmps23
        go_wp2_with (first | ((with_reducible refine gate_callee (f := 54) rfl ?_); refine goesL_ (some 9) rfl rfl Tryd.func54 (by kernel_rfl) rfl #[.pointer (some ⟨g, 0, none⟩)] rfl (by (try simp only [List.map_toArray, List.map_cons, List.map_nil]); first | done | rfl | (simp only [List.length_drop, List.length_take]; rfl)) ?_; (with_reducible refine (exactpplmake_Src_Raw.calls g s0_0 s0_1 s0_2 t230 t231 t232 w0 _ ?side1 ?side2 A4.out).mono ?_); (case side1 => repeat (first | (with_reducible first | exact HI0.out | apply IsS58.alloc | apply IsS58.drewN | apply IsS58.drew | apply IsS58.set_1 | apply IsS58.set_2) | exact HI0.out)); (case side2 => repeat (first | (with_reducible first | exact HB.out | apply below_alloc | apply pw_below_drewN | apply below_drew1 | refine below_set ?_ (IsS58.ge HI0.out)) | exact HB.out)); rintro e w8 ⟨rfl, hi, hb, hk⟩; refine ⟨_, rfl, ?_⟩; have n0_ := Aside0.mk (KeepBut.trans (by repeat (first | (with_reducible first | exact HK.out | apply KeepBut.set_ | apply keep_drewN | apply keep_drew | apply keep_alloc) | exact HK.out)) hk (.inl rfl)); have n1_ := Aside0.mk (hb); have n2_ := Aside0.mk (hi); clear HK; clear HB; clear HI0; have HK := n0_; have HB := n1_; have HI0 := n2_; clear n0_ n1_ n2_; (try clear hb); (try clear hb2); (try clear hk); (try clear hi)))
        go_ret
        exact ⟨by first | rfl | (simp [errW_none, errW_some] <;> rfl) | (simp [*, errW_none, errW_some] <;> rfl), by repeat (first | (with_reducible first | exact HI0.out | apply IsS58.alloc | apply IsS58.drewN | apply IsS58.drew | apply IsS58.set_1 | apply IsS58.set_2) | exact HI0.out), by repeat (first | (with_reducible first | exact HB.out | apply below_alloc | apply pw_below_drewN | apply below_drew1 | refine below_set ?_ (IsS58.ge HI0.out)) | exact HB.out), by repeat (first | (with_reducible first | exact HK.out | apply KeepBut.set_ | apply keep_drewN | apply keep_drew | apply keep_alloc) | exact HK.out)⟩

end Go.Proofs.YtopbjginpmdebaaDoor.K
namespace Go.Proofs.YtopbjginpmdebaaDoor.K
open Go.RowKit Go.Proofs.YtopbjginpmdebaaDoorW.PrintWords Go.Proofs.YtopbjginpmdebaaDoorW.PrintLast Go.Proofs.YtopbjginpmdebaaDoorW.PrintMore
attribute [local go_sem] max2_int min2_int max_two min_two max_three min_three max_four min_four   -- for this text's walks alone
set_option linter.unusedVariables false
set_option linter.unusedSimpArgs false

/-! ### exactpplmake_Src_Pick: function 32 -/
def exactpplmake_Src_Pick.f (s0_0 : List Int) (s0_1 : Int) (s0_2 : Int) (l1 : List Int) : Option (Int × Int × Int) := (exactpplmake_Src_N.f s0_0 s0_1 s0_2 (l1.length : Int)).bind fun bt236 => (if 0 ≤ bt236.1 then (if bt236.1 < (l1.length : Int) then (some (rd l1 bt236.1, bt236.2.1, bt236.2.2)) else (none)) else (none))
set_option maxHeartbeats 8000000 in
set_option maxRecDepth 100000 in
theorem exactpplmake_Src_Pick.calls (g : Nat) (s0_0 : List Int) (s0_1 : Int) (s0_2 : Int) (A1 : Option Addr) (c1 : Nat) (l1 : List Int) (r1 : Int) (r2 : Int) (r3 : Int) (w0 w : World) (hI : IsS58 w0 w g s0_0 s0_1 s0_2) (hB : Below w0.heap.size w0 w) (hr1 : Kd.C (Kd.int .i64) w A1 l1.length l1) (hc1 : l1.length ≤ c1) (hf1 : ∀ ad, A1 = some ad → 0 < l1.length → ad.block ≠ g) (h : exactpplmake_Src_Pick.f s0_0 s0_1 s0_2 l1 = some (r1, r2, r3)) :
    Calls Tryd.prog 32 #[.pointer (some ⟨g, 0, none⟩), .slice A1 l1.length c1] w fun e w' => e = .returned (.int .i64 r1) ∧ IsS58 w0 w' g s0_0 r2 r3 ∧ Below w0.heap.size w0 w' ∧ KeepBut w w' g none := by
  have HR1 := Aside0.mk hr1
  have HC1 := Aside0.mk hc1
  clear hr1 hc1
  have HI0 := Aside0.mk hI
  have HK := Aside0.mk (KeepBut.refl w g none)
  have HL := Aside0.mk hB.size
  clear hI
  have HW0 := Aside0.mk hB.size
  have HB := Aside0.mk hB
  clear hB
  have H : ((exactpplmake_Src_N.f s0_0 s0_1 s0_2 (l1.length : Int)).bind fun bt236 => (if 0 ≤ bt236.1 then (if bt236.1 < (l1.length : Int) then (some (rd l1 bt236.1, bt236.2.1, bt236.2.2)) else (none)) else (none))) = some (r1, r2, r3) := h
  clear h
  replace H := Option.bind_eq_some_iff.mp H
  obtain ⟨⟨t236, t237, t238⟩, A30, H⟩ := H
  replace H : (if 0 ≤ t236 then (if t236 < (l1.length : Int) then (some (rd l1 t236, t237, t238)) else (none)) else (none)) = some (r1, r2, r3) := H
  have A3 := Aside0.mk A30
  clear A30
  by_cases c4 : 0 ≤ t236
  · rw [if_pos c4] at H
    have c4b0 : decide (0 ≤ t236) = true := decide_eq_true c4
    clear c4
    by_cases c5 : t236 < (l1.length : Int)
    · rw [if_pos c5] at H
      have c5b0 : decide (t236 < (l1.length : Int)) = true := decide_eq_true c5
      clear c5
      simp only [Option.some.injEq, Prod.mk.injEq] at H
      obtain ⟨rfl, rfl, rfl⟩ := H
      go_enter Tryd.func32, Tryd.ntmps32
      go_wp2_with (first | ((with_reducible refine gate_callee (f := 23) rfl ?_); refine goesL_ (some 9) rfl rfl Tryd.func23 (by kernel_rfl) rfl #[.pointer (some ⟨g, 0, none⟩), .int .i64 (l1.length : Int)] rfl (by (try simp only [List.map_toArray, List.map_cons, List.map_nil]); first | done | rfl | (simp only [List.length_drop, List.length_take]; rfl)) ?_; (with_reducible refine (exactpplmake_Src_N.calls g s0_0 s0_1 s0_2 (l1.length : Int) t236 t237 t238 w0 _ ?side1 ?side2 A3.out).mono ?_); (case side1 => repeat (first | (with_reducible first | exact HI0.out | apply IsS58.alloc | apply IsS58.drewN | apply IsS58.drew | apply IsS58.set_1 | apply IsS58.set_2) | exact HI0.out)); (case side2 => repeat (first | (with_reducible first | exact HB.out | apply below_alloc | apply pw_below_drewN | apply below_drew1 | refine below_set ?_ (IsS58.ge HI0.out)) | exact HB.out)); rintro e w6 ⟨rfl, hi, hb, hk⟩; refine ⟨_, rfl, ?_⟩; have n0_ := Aside0.mk (KeepBut.trans (by repeat (first | (with_reducible first | exact HK.out | apply KeepBut.set_ | apply keep_drewN | apply keep_drew | apply keep_alloc) | exact HK.out)) hk (.inl rfl)); have n1_ := Aside0.mk (hb); have n2_ := Aside0.mk (hi); clear HK; clear HB; clear HI0; have HK := n0_; have HB := n1_; have HI0 := n2_; clear n0_ n1_ n2_; (try clear hb); (try clear hb2); (try clear hk); (try clear hi); have p239 : 0 ≤ (t236 : Int) := of_decide_eq_true (by first | (with_reducible assumption) | assumption); have q239 : t236 < (l1.length : Int) := of_decide_eq_true (by first | (with_reducible assumption) | assumption); obtain ⟨ad239, e239, hx239_0⟩ := Kd.at_int HR1.out t236 p239 q239; cases e239; replace hx239_0 := keep_cell HK.out hx239_0 (by first | (rw [add_block]; exact hf1 _ rfl (by omega)) | exact hf1 _ rfl (by omega) | exact hf1 ad239 rfl (by omega)); replace p239 := eq_true p239; replace q239 := eq_true q239))
      go_ret
      exact ⟨by first | rfl | (simp [errW_none, errW_some] <;> rfl) | (simp [*, errW_none, errW_some] <;> rfl), by repeat (first | (with_reducible first | exact HI0.out | apply IsS58.alloc | apply IsS58.drewN | apply IsS58.drew | apply IsS58.set_1 | apply IsS58.set_2) | exact HI0.out), by repeat (first | (with_reducible first | exact HB.out | apply below_alloc | apply pw_below_drewN | apply below_drew1 | refine below_set ?_ (IsS58.ge HI0.out)) | exact HB.out), by repeat (first | (with_reducible first | exact HK.out | apply KeepBut.set_ | apply keep_drewN | apply keep_drew | apply keep_alloc) | exact HK.out)⟩
    · rw [if_neg c5] at H
      exact absurd H (by simp)
  · rw [if_neg c4] at H
    exact absurd H (by simp)

end Go.Proofs.YtopbjginpmdebaaDoor.K
namespace Go.Proofs.YtopbjginpmdebaaDoor.K
open Go.RowKit Go.Proofs.YtopbjginpmdebaaDoorW.PrintWords Go.Proofs.YtopbjginpmdebaaDoorW.PrintLast Go.Proofs.YtopbjginpmdebaaDoorW.PrintMore
attribute [local go_sem] max2_int min2_int max_two min_two max_three min_three max_four min_four   -- for this text's walks alone
set_option linter.unusedVariables false
set_option linter.unusedSimpArgs false

/-! ### exactpplmake_Width: function 42 -/
def exactpplmake_Width.f (a0 : Int) : Option (Int) := some (wrap64 (2 + (Int.tmod a0 2)))
set_option maxHeartbeats 8000000 in
set_option maxRecDepth 100000 in
theorem exactpplmake_Width.calls (a0 : Int) (r : Int) (w : World) (h : exactpplmake_Width.f a0 = some r) :
    Calls Tryd.prog 42 #[.int .i64 a0] w fun e w' => e = .returned (.int .i64 r) ∧ Drawn0 w w' := by
  have H : (some (wrap64 (2 + (Int.tmod a0 2)))) = some r := h
  clear h
  obtain rfl := Option.some.inj H
  go_enter Tryd.func42, Tryd.ntmps42
  go_wp2
  go_ret
  exact ⟨by first | rfl | (simp; done) | (simp [*]; done), by repeat (first | exact Drawn0.refl _ | apply Drawn0.step)⟩

end Go.Proofs.YtopbjginpmdebaaDoor.K
namespace Go.Proofs.YtopbjginpmdebaaDoor.K
open Go.RowKit Go.Proofs.YtopbjginpmdebaaDoorW.PrintWords Go.Proofs.YtopbjginpmdebaaDoorW.PrintLast Go.Proofs.YtopbjginpmdebaaDoorW.PrintMore
attribute [local go_sem] max2_int min2_int max_two min_two max_three min_three max_four min_four   -- for this text's walks alone
set_option linter.unusedVariables false
set_option linter.unusedSimpArgs false

/-! ### exactpplmake_Src_Range: function 25 -/
def exactpplmake_Src_Range.f (s0_0 : List Int) (s0_1 : Int) (s0_2 : Int) (a1 : Int) (a2 : Int) : Option (Int × Int × Int) := (exactpplmake_Src_N.f s0_0 s0_1 s0_2 (wrap64 ((wrap64 (a2 - a1)) + 1))).bind fun bt233 => (some (wrap64 (a1 + bt233.1), bt233.2.1, bt233.2.2))
set_option maxHeartbeats 8000000 in
set_option maxRecDepth 100000 in
theorem exactpplmake_Src_Range.calls (g : Nat) (s0_0 : List Int) (s0_1 : Int) (s0_2 : Int) (a1 : Int) (a2 : Int) (r1 : Int) (r2 : Int) (r3 : Int) (w0 w : World) (hI : IsS58 w0 w g s0_0 s0_1 s0_2) (hB : Below w0.heap.size w0 w) (h : exactpplmake_Src_Range.f s0_0 s0_1 s0_2 a1 a2 = some (r1, r2, r3)) :
    Calls Tryd.prog 25 #[.pointer (some ⟨g, 0, none⟩), .int .i64 a1, .int .i64 a2] w fun e w' => e = .returned (.int .i64 r1) ∧ IsS58 w0 w' g s0_0 r2 r3 ∧ Below w0.heap.size w0 w' ∧ KeepBut w w' g none := by
  have HI0 := Aside0.mk hI
  have HK := Aside0.mk (KeepBut.refl w g none)
  have HL := Aside0.mk hB.size
  clear hI
  have HW0 := Aside0.mk hB.size
  have HB := Aside0.mk hB
  clear hB
  have H : ((exactpplmake_Src_N.f s0_0 s0_1 s0_2 (wrap64 ((wrap64 (a2 - a1)) + 1))).bind fun bt233 => (some (wrap64 (a1 + bt233.1), bt233.2.1, bt233.2.2))) = some (r1, r2, r3) := h
  clear h
  replace H := Option.bind_eq_some_iff.mp H
  obtain ⟨⟨t233, t234, t235⟩, A40, H⟩ := H
  replace H : (some (wrap64 (a1 + t233), t234, t235)) = some (r1, r2, r3) := H
  have A4 := Aside0.mk A40
  clear A40
  simp only [Option.some.injEq, Prod.mk.injEq] at H
  obtain ⟨rfl, rfl, rfl⟩ := H
  go_enter Tryd.func25, Tryd.ntmps25
  go_wp2_with (first | ((with_reducible refine gate_callee (f := 23) rfl ?_); refine goesL_ (some 13) rfl rfl Tryd.func23 (by kernel_rfl) rfl #[.pointer (some ⟨g, 0, none⟩), .int .i64 (wrap64 ((wrap64 (a2 - a1)) + 1))] rfl (by (try simp only [List.map_toArray, List.map_cons, List.map_nil]); first | done | rfl | (simp only [List.length_drop, List.length_take]; rfl)) ?_; (with_reducible refine (exactpplmake_Src_N.calls g s0_0 s0_1 s0_2 (wrap64 ((wrap64 (a2 - a1)) + 1)) t233 t234 t235 w0 _ ?side1 ?side2 A4.out).mono ?_); (case side1 => repeat (first | (with_reducible first | exact HI0.out | apply IsS58.alloc | apply IsS58.drewN | apply IsS58.drew | apply IsS58.set_1 | apply IsS58.set_2) | exact HI0.out)); (case side2 => repeat (first | (with_reducible first | exact HB.out | apply below_alloc | apply pw_below_drewN | apply below_drew1 | refine below_set ?_ (IsS58.ge HI0.out)) | exact HB.out)); rintro e w5 ⟨rfl, hi, hb, hk⟩; refine ⟨_, rfl, ?_⟩; have n0_ := Aside0.mk (KeepBut.trans (by repeat (first | (with_reducible first | exact HK.out | apply KeepBut.set_ | apply keep_drewN | apply keep_drew | apply keep_alloc) | exact HK.out)) hk (.inl rfl)); have n1_ := Aside0.mk (hb); have n2_ := Aside0.mk (hi); clear HK; clear HB; clear HI0; have HK := n0_; have HB := n1_; have HI0 := n2_; clear n0_ n1_ n2_; (try clear hb); (try clear hb2); (try clear hk); (try clear hi)))
  go_ret
  exact ⟨by first | rfl | (simp [errW_none, errW_some] <;> rfl) | (simp [*, errW_none, errW_some] <;> rfl), by repeat (first | (with_reducible first | exact HI0.out | apply IsS58.alloc | apply IsS58.drewN | apply IsS58.drew | apply IsS58.set_1 | apply IsS58.set_2) | exact HI0.out), by repeat (first | (with_reducible first | exact HB.out | apply below_alloc | apply pw_below_drewN | apply below_drew1 | refine below_set ?_ (IsS58.ge HI0.out)) | exact HB.out), by repeat (first | (with_reducible first | exact HK.out | apply KeepBut.set_ | apply keep_drewN | apply keep_drew | apply keep_alloc) | exact HK.out)⟩

end Go.Proofs.YtopbjginpmdebaaDoor.K
-- the reference's Reduce, Validate; reduces; the numbers that are read
namespace Go.Proofs.YtopbjginpmdebaaDoor.K
open Go.RowKit Go.Maps Go.Proofs.YtopbjginpmdebaaDoorW.PrintWords Go.Proofs.YtopbjginpmdebaaDoorW.PrintLast Go.Proofs.YtopbjginpmdebaaDoorW.PrintMore
set_option linter.unusedVariables false
set_option linter.unusedSimpArgs false
/-- rounds enough for a list -/
def rnd (l : List Nd) : Nat := 1073741824 + l.length + l.length + 20006
theorem refReduce_f (l : List Nd) (h : ndOk l = true) (k : Nat) (hk : rnd l ≤ k) : exactpplref19_Reduce.f k l = some (redL l, redE l) := by
  have hr := ndOk_room h
  have hI := ndOk_I h
  unfold rnd at hk
  unfold exactpplref19_Reduce.f
  rw [graph_f l (by omega) 1073741824 (by decide) (fun n hn => (hI n hn).2.2) k (by omega), Option.bind_some]
  by_cases hg : grB l = true
  · rw [if_pos hg, exactpplref19_Canon.f, if_pos hg, if_pos h, Option.bind_some]
    unfold exactpplref19_Fit.f redL redE
    rw [if_pos hg]
    by_cases hl : (cn l).length ≤ 20000
    · rw [if_neg (by omega), if_pos hl]; rfl
    · rw [if_pos (by omega), if_neg hl]; rfl
  · rw [if_neg hg]
    unfold redL redE
    rw [if_neg hg]; rfl
theorem redL_len (l : List Nd) : (redL l).length ≤ 20000 := redL_kids
theorem refValidate_f (l : List Nd) (h : ndOk l = true) (k : Nat) (hk : rnd l ≤ k) : exactpplref19_Validate.f k l = some (valE l) := by
  unfold exactpplref19_Validate.f
  rw [refReduce_f l h k hk, Option.bind_some]
  have hl := redL_len l
  unfold rnd at hk
  unfold valE
  by_cases h0 : redE l = 0
  · rw [if_pos h0, if_pos h0, same_f (redL l) l (by omega) 1073741824 (by decide) (fun n hn => Nat.le_trans (redL_kids16 l n hn) (by decide)) k (by omega), Option.bind_some]
    have e : redL l = cn l := by unfold redL; rw [if_pos h0]
    rw [e]
    by_cases hq : cn l = l
    · rw [decide_eq_true hq, if_pos rfl, if_pos hq]
    · rw [decide_eq_false hq, if_neg (by decide), if_neg hq]
  · rw [if_neg h0, if_neg h0]
theorem mono_le {α : Type} {f : Nat → Option α} (h : ∀ k, LeO (f k) (f (k + 1))) {k k' : Nat} (hk : k ≤ k') {r : α} (e : f k = some r) : f k' = some r := by
  induction hk with
  | refl => exact e
  | step _ ih => exact h _ _ ih
/-- what a source is while it is read -/
structure Src (L : List Int) (at_ : Int) : Prop where
  len : L.length ≤ 1000
  i64 : ∀ x ∈ L, -9223372036854775808 ≤ x ∧ x ≤ 9223372036854775807
  lo : 0 ≤ at_
  hi : at_ ≤ (L.length : Int)
theorem new_f (l : List Int) (h : ∀ x ∈ l, -9223372036854775808 ≤ x ∧ x ≤ 9223372036854775807) : ∃ L, exactpplmake_New.f l = some (L, 0, 0) ∧ Src L 0 := by
  unfold exactpplmake_New.f
  by_cases h1 : (l.length : Int) > 1000
  · rw [if_pos h1, if_pos (by omega)]
    exact ⟨_, rfl, by simp; omega, fun x hx => h x (List.mem_of_mem_take hx), by omega, by omega⟩
  · rw [if_neg h1]
    exact ⟨_, rfl, by omega, h, by omega, by omega⟩
theorem w64_id {x : Int} (h : -9223372036854775808 ≤ x) (h2 : x ≤ 9223372036854775807) : wrap64 x = x := by unfold wrap64; omega
theorem raw_f {L : List Int} {a : Int} (h : Src L a) (st : Int) : ∃ x a', exactpplmake_Src_Raw.f L a st = some (x, a', st) ∧ (-9223372036854775808 ≤ x ∧ x ≤ 9223372036854775807) ∧ Src L a' := by
  have hl := h.len
  have h0 := h.lo
  have h1 := h.hi
  unfold exactpplmake_Src_Raw.f
  by_cases he : a ≥ (L.length : Int)
  · rw [if_pos he]
    exact ⟨0, a, rfl, by omega, h⟩
  · rw [if_neg he, w64_id (x := a + 1) (by omega) (by omega), w64_id (x := a + 1 - 1) (by omega) (by omega), if_pos (by omega), if_pos (by omega)]
    refine ⟨_, _, rfl, ?_, ⟨hl, h.i64, by omega, by omega⟩⟩
    refine h.i64 _ ?_
    have hj : a.toNat < L.length := by omega
    have e : rd L (a + 1 - 1) = L[a.toNat] := by rw [show a + 1 - 1 = ((a.toNat : Nat) : Int) by omega, rd_get hj]
    rw [e]; exact List.getElem_mem hj
theorem n_f {L : List Int} {a : Int} (h : Src L a) (st n : Int) (h1 : 1 ≤ n) (h2 : n ≤ 1000000000000) : ∃ x a', exactpplmake_Src_N.f L a st n = some (x, a', st) ∧ (0 ≤ x ∧ x < n) ∧ Src L a' := by
  unfold exactpplmake_Src_N.f
  obtain ⟨x, a', e, hx, h'⟩ := raw_f h st
  rw [if_neg (by omega), e, Option.bind_some, if_neg (by omega)]
  have ht1 := Int.lt_tmod_of_pos x (show 0 < n by omega)
  have ht2 := Int.tmod_lt_of_pos x (show 0 < n by omega)
  by_cases hn : Int.tmod x n < 0
  · simp only
    rw [if_pos hn, w64_id (by omega) (by omega)]
    exact ⟨_, _, rfl, by omega, h'⟩
  · simp only
    rw [if_neg hn]
    exact ⟨_, _, rfl, by omega, h'⟩
theorem n0_f {L : List Int} {a : Int} (h : Src L a) (st n : Int) (h1 : n < 1) : exactpplmake_Src_N.f L a st n = some (0, a, st) := by
  unfold exactpplmake_Src_N.f
  rw [if_pos h1]
theorem range_f {L : List Int} {a : Int} (h : Src L a) (st lo hi : Int) (h1 : lo ≤ hi) (h2 : -100000000000 ≤ lo) (h3 : hi ≤ 100000000000) : ∃ x a', exactpplmake_Src_Range.f L a st lo hi = some (x, a', st) ∧ (lo ≤ x ∧ x ≤ hi) ∧ Src L a' := by
  unfold exactpplmake_Src_Range.f
  rw [w64_id (x := hi - lo) (by omega) (by omega), w64_id (x := hi - lo + 1) (by omega) (by omega)]
  obtain ⟨x, a', e, hx, h'⟩ := n_f h st (hi - lo + 1) (by omega) (by omega)
  rw [e, Option.bind_some]
  simp only
  rw [w64_id (by omega) (by omega)]
  exact ⟨_, _, rfl, by omega, h'⟩
theorem pick_f {L : List Int} {a : Int} (h : Src L a) (st : Int) (l : List Int) (h1 : l ≠ []) (h2 : l.length ≤ 1000) : ∃ x a', exactpplmake_Src_Pick.f L a st l = some (x, a', st) ∧ x ∈ l ∧ Src L a' := by
  have hp := List.length_pos_iff.2 h1
  unfold exactpplmake_Src_Pick.f
  obtain ⟨x, a', e, hx, h'⟩ := n_f h st (l.length : Int) (by omega) (by omega)
  rw [e, Option.bind_some]
  simp only
  rw [if_pos (by omega), if_pos (by omega)]
  refine ⟨_, _, rfl, ?_, h'⟩
  have hj : x.toNat < l.length := by omega
  rw [show x = ((x.toNat : Nat) : Int) by omega, rd_get hj]
  exact List.getElem_mem hj
theorem width_f (s : Int) (h1 : 0 ≤ s) (h2 : s ≤ 1000000) : exactpplmake_Width.f s = some (2 + s % 2) := by
  unfold exactpplmake_Width.f
  rw [Int.tmod_eq_emod_of_nonneg h1, w64_id (by omega) (by omega)]
end Go.Proofs.YtopbjginpmdebaaDoor.K
