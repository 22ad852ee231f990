/- Lemmas for: Proved: the tied card of exactppllaw19.DiagramRestricts (for every list, site and outcome the law returns true). Conditions: none beyond the given row. -/
import Derived.StillTailTactics
import Derived.SizedLaws
import Derived.ChangeSlices
import Derived.Test.YtopbjginpmdebaaDoorRs2
import Derived.Test.YtopbjginpmdebaaDoorRs4
import Derived.Test.YtopbjginpmdebaaDoorRs5
-- diagram.Restrict, walked
namespace Go.Proofs.YtopbjginpmdebaaDoor.K
open Go.RowKit Go.Maps Go.Proofs.YtopbjginpmdebaaDoorW.PrintWords Go.Proofs.YtopbjginpmdebaaDoorW.PrintLast Go.Proofs.YtopbjginpmdebaaDoorW.PrintMore
set_option linter.unusedVariables false
set_option linter.unusedSimpArgs false
theorem TbSt.on {w W W2 : World} {base t mb N : Nat} {ok : Nat → Prop} {U : List Nd} {at_ : List Int} (h : TbSt w W base t mb ok U at_ N) (hb : Below W.heap.size W W2) : TbSt w W2 base t mb ok U at_ N :=
  ⟨h.tab.below hb, h.touch.trans (Touch.of_below hb ok t mb), h.arr.move (hb.block _ h.arr.lt)⟩
theorem Frm_of {nodes : List Nd} (h : grB nodes = true) : ∀ n ∈ nodes, Frm n := gr_frm h
set_option maxHeartbeats 32000000 in
set_option maxRecDepth 100000 in
theorem restrict_calls (nodes : List Nd) (site oc : Int) (A : Option Addr) (c : Nat) (w : World) (hC : k60.C w A nodes.length nodes) (hc : nodes.length ≤ c) (hI : ∀ n ∈ nodes, I64 n.f0 ∧ I64 n.f1 ∧ n.f2.length ≤ 1073741824) (hroom : (nodes.length + 1) * 40 ≤ 140737488355328) (htab : PowTab w.heap.size w) :
    Calls Tryd.prog 30 #[.agg #[.slice A nodes.length c], .int .i64 site, .int .i64 oc] w (DgPost w (rsL site oc nodes) (rsE site oc nodes)) := by
  have e1 : (w.alloc (.cells #[.slice A nodes.length c] 31)).heap.size = w.heap.size + 1 := by simp
  have hb0 : Below w.heap.size w ((w.alloc (.cells #[.slice A nodes.length c] 31)).alloc (.cells #[.slice none 0 0] 31)) := ((Below.refl _ w).alloc (Nat.le_refl _) _).alloc (by rw [e1]; omega) _
  have hs0 : ((w.alloc (.cells #[.slice A nodes.length c] 31)).alloc (.cells #[.slice none 0 0] 31)).heap.size = w.heap.size + 2 := by simp
  have hd0 : ((w.alloc (.cells #[.slice A nodes.length c] 31)).alloc (.cells #[.slice none 0 0] 31)).heap[w.heap.size]? = some (.cells #[.slice A nodes.length c] 31 (0, 0)) := (Below.heap_alloc _ _ _ (by rw [e1]; omega)).trans (heap_alloc_new w _)
  have hr0 : ((w.alloc (.cells #[.slice A nodes.length c] 31)).alloc (.cells #[.slice none 0 0] 31)).heap[w.heap.size + 1]? = some (.cells #[.slice none 0 0] 31 (0, 0)) := by
    have := heap_alloc_new (w.alloc (.cells #[.slice A nodes.length c] 31)) (.cells #[.slice none 0 0] 31)
    rwa [e1] at this
  have hV := validate_calls nodes A c _ (Kd.C_below hC hb0) hc hI hroom (PowTab.up (htab.on hb0) hb0.size) (fun n hn => Nat.le_trans (redL_kids16 nodes n hn) (by decide))
  have HC := Lib.hid hC
  have HI := Lib.hid hI
  have HTAB := Lib.hid htab
  have HRM := Lib.hid hroom
  obtain ⟨N, hN⟩ : ∃ N, N = nodes.length := ⟨_, rfl⟩
  have HN := Lib.hid hN
  rw [← hN] at hV hc hb0 hs0 hd0 hr0 ⊢
  have b00 : ((w.alloc (Obj.cells #[.slice A N c] 31)).alloc (.cells #[.slice none 0 0] 31)).cell? ⟨w.heap.size, 0, none⟩ = some (.slice A N c) := (blk_cell hd0 0).trans rfl
  have HB0 := Lib.hid hb0
  have HD0 := Lib.hid hd0
  have HR0 := Lib.hid hr0
  have HS0 := Lib.hid hs0
  clear hC hI htab hroom hN hb0 hd0 hr0 hs0 e1
  by_cases h0 : valE nodes = 0
  · have HV0 := Lib.hid h0
    rw [h0] at hV
    obtain ⟨hgr, hcn, hl20⟩ := val_ok h0
    have hp := gr_pos hgr
    have HGR := Lib.hid hgr
    rw [← HN.out] at hp hl20
    clear h0 hcn hgr
    have hmk := print_make (P := Tryd.prog) 22 3 .i64 8 Tryd.underlying22 info3 (by decide) N (by omega)
    go_enter Tryd.func30, Tryd.ntmps30
    go_wp2_with (first
      | (go_at_call 21; refine hV.mono ?_; clear hV; rintro e w1 ⟨rfl, hb1⟩; have HB1 := Lib.hid (HB0.out.trans (hb1.mono (by have := HS0.out; omega))); have hd1 := (hb1.block _ (blk_lt HD0.out)).trans HD0.out; have hr1 := (hb1.block _ (blk_lt HR0.out)).trans HR0.out; have b1 : w1.cell? ⟨w.heap.size, 0, none⟩ = some (.slice A N c) := (blk_cell hd1 0).trans rfl; have HD1 := Lib.hid hd1; have HR1 := Lib.hid hr1; have hs1 := blk_lt hr1; clear hb1 hd1 hr1)
      | (go_at_call 46; refine (new_calls w1).mono ?_; rintro e w2 ⟨rfl, hb2, hs2, hT2⟩; have HB2 := Lib.hid (HB1.out.trans (hb2.mono HB1.out.size)); have hd2 := (hb2.block _ (blk_lt HD1.out)).trans HD1.out; have hr2 := (hb2.block _ (blk_lt HR1.out)).trans HR1.out; have b2 : w2.cell? ⟨w.heap.size, 0, none⟩ = some (.slice A N c) := (blk_cell hd2 0).trans rfl; have hltd := blk_lt hd2; have HD2 := Lib.hid hd2; have HR2 := Lib.hid hr2; have HS2 := Lib.hid hs2; have hlt2 := blk_lt hr2; have HT2 := Lib.hid (TbSt.first (hT2 w1.heap.size (Nat.le_refl _)) N (by omega)); clear hb2 hs2 hT2 hd2 hr2))
    have hO0 := okNew_ok w1.heap.size (Nat.le_refl _) HS2.out
    have HO := Lib.hid hO0
    have ht : w1.heap.size + 1 < w2.heap.size := by have := HS2.out; omega
    have hmb : w1.heap.size < w2.heap.size := by omega
    have hwsz := HB1.out.size
    have htab2 : PowTab w1.heap.size w2 := PowTab.up (HTAB.out.on HB2.out) hwsz
    have HT2b := Lib.hid htab2
    clear hO0 htab2 b00 b1
    go_loopw [32] (fun i wr => ∃ k : Nat, i = .int .i64 k ∧ k ≤ N ∧ TbSt w2 wr w1.heap.size (w1.heap.size + 1) w1.heap.size (okNew w1.heap.size (w1.heap.size + 1) w1.heap.size) (fx site oc [] [] (nodes.take k)).1 (fx site oc [] [] (nodes.take k)).2 N ∧ Aside0 (OcOk site oc (nodes.take k))) (fun i _ => N - (intOf i).toNat)
    case atStart => exact ⟨0, rfl, Nat.zero_le _, by simpa [fx] using HT2.out, ⟨by intro n hn; simp at hn⟩⟩
    case round =>
      obtain ⟨k, rfl, hk, hst, hoc⟩ := hrel
      have HOC := Lib.hid hoc.out
      obtain ⟨U, hUe⟩ : ∃ U, U = (fx site oc [] [] (nodes.take k)).1 := ⟨_, rfl⟩
      obtain ⟨at_, hae⟩ : ∃ at_, at_ = (fx site oc [] [] (nodes.take k)).2 := ⟨_, rfl⟩
      rw [← hUe, ← hae] at hst
      have hat : at_.length = k := by rw [hae, fx_len]; simp; have := HN.out; omega
      obtain ⟨tT, tL⟩ := fx_tbl' (site := site) (oc := oc) (gr_fit HGR.out) (k := k) (by have := HN.out; omega) HOC.out
      rw [← hUe, ← hae] at tT
      rw [← hUe] at tL
      have huk : ∀ x ∈ U, x.f2.length ≤ 16 := by rw [hUe]; exact fx_kids site oc (nodes.take k) [] [] (by simp) (fun x hx => gr_kids HGR.out x (List.mem_of_mem_take hx))
      have hB2 := hst.touch.below (by omega) HO.out
      have hB := HB2.out.trans (hB2.mono hwsz)
      have hsz := hst.touch.size
      have hab := hst.arr.lt
      have hrr : wr.heap[w.heap.size + 1]? = some (.cells #[.slice none 0 0] 31 (0, 0)) := (hB2.block _ (blk_lt HR1.out)).trans HR2.out
      have HRR := Lib.hid hrr
      have HST := Lib.hid hst
      have HUE := Lib.hid hUe
      have HAE := Lib.hid hae
      have HAT := Lib.hid hat
      have HT := Lib.hid tT
      have HTL := Lib.hid tL
      have HUK := Lib.hid huk
      have HBW := Lib.hid hB
      have HBW2 := Lib.hid hB2
      clear hst hUe hae hat tT tL huk hoc hB hB2 hrr
      by_cases hlt : k < N
      · have hkn : k < nodes.length := by have := HN.out; omega
        have hnm : nth nodes k ∈ nodes := by rw [nth_lt hkn]; exact List.getElem_mem hkn
        obtain ⟨ad, A2, c2, rfl, d0, d1, d2, l2, g2⟩ := at_T60 (Kd.C_below HC.out HBW.out) (k : Int) (by omega) (by omega)
        rw [Int.toNat_natCast] at d0 d1 d2
        rw [rd_nth] at d0 d1 d2 l2 g2
        obtain ⟨n, hn⟩ : ∃ n, n = nth nodes (k : Int) := ⟨_, rfl⟩
        rw [← hn] at d0 d1 d2 l2 g2 hnm
        obtain ⟨hI0, hI1, -⟩ := HI.out n hnm
        have hI2 : n.f2.length ≤ 16 := gr_kids HGR.out n hnm
        have hfrm := Frm_of HGR.out n hnm
        have hkids : ∀ c ∈ n.f2, 0 ≤ c ∧ c < (k : Int) := by rw [hn]; exact (gr_fit HGR.out).1 k hkn
        have hsucc : fx site oc [] [] (nodes.take (k + 1)) = ((fx1 site oc U at_ n).1, at_ ++ [(fx1 site oc U at_ n).2]) := by rw [take_snoc' hkn, fx_snoc, ← hn, ← HUE.out, ← HAE.out]
        have hocs : (0 ≤ n.f0 → n.f0 = site → 0 ≤ oc ∧ oc < (n.f2.length : Int)) → OcOk site oc (nodes.take (k + 1)) := fun h => take_mem_oc hkn HOC.out (by rw [← hn]; exact h)
        have hO1 : ∀ W : World, wr.heap.size ≤ W.heap.size → OkT w1.heap.size (w1.heap.size + 1) w1.heap.size (fun j => okNew w1.heap.size (w1.heap.size + 1) w1.heap.size j ∧ j ≠ w2.heap.size) W := fun W hW => ⟨fun j hj => HO.out.old j hj.1, fun j hj => ⟨HO.out.new j (by omega), by omega⟩, HO.out.ht, HO.out.hmb⟩
        have hkb : k < 4000000000000 := by omega
        have hki : (k : Int) < (N : Int) := by omega
        have HKIDS := Lib.hid hkids
        have HFRM := Lib.hid hfrm
        have HSUCC := Lib.hid hsucc
        have HOCS := Lib.hid hocs
        have HO1 := Lib.hid hO1
        have HNN := Lib.hid hn
        have HNM := Lib.hid hnm
        clear hkids hfrm hsucc hocs hO1 hn hnm
        by_cases hneg : n.f0 < 0
        · have hb1 : Below wr.heap.size wr (wr.alloc (.cells #[.int .i64 n.f0, .int .i64 n.f1, .slice A2 n.f2.length c2] 60)) := (Below.refl _ wr).alloc (Nat.le_refl _) _
          have hfx : fx1 site oc U at_ n = place0 U ⟨-1, n.f1, []⟩ := by unfold fx1 place1; rw [if_neg (by omega), if_pos hneg]
          have hA := (leaf_calls w1.heap.size (w1.heap.size + 1) w1.heap.size (fun j => okNew w1.heap.size (w1.heap.size + 1) w1.heap.size j ∧ j ≠ w2.heap.size) U n.f1 _ (HST.out.tab.below hb1) (HO1.out _ hb1.size) (by have := hb1.size; omega) hI1 (by have := HTL.out; have := HRM.out; have := HN.out; omega) (HT2b.out.on (HBW2.out.trans (hb1.mono (by omega))))).mono (R' := fun e w3 => e = .returned (.int .i64 (fx1 site oc U at_ n).2) ∧
              TabS w3 w1.heap.size (w1.heap.size + 1) w1.heap.size (fun j => okNew w1.heap.size (w1.heap.size + 1) w1.heap.size j ∧ j ≠ w2.heap.size) (fx1 site oc U at_ n).1 ∧ Touch wr w3 (fun j => okNew w1.heap.size (w1.heap.size + 1) w1.heap.size j ∧ j ≠ w2.heap.size) (w1.heap.size + 1) w1.heap.size ∧ (∃ v, w3.cell? ⟨w2.heap.size, k, none⟩ = some (.int .i64 v)) ∧ w3.frozen? ⟨w2.heap.size, k, none⟩ = false) (by
            rintro e w3 ⟨rfl, h2, h3⟩
            have h4 := (Touch.of_below hb1 (fun j => okNew w1.heap.size (w1.heap.size + 1) w1.heap.size j ∧ j ≠ w2.heap.size) (w1.heap.size + 1) w1.heap.size).trans h3
            have h5 := HST.out.arr2 ht hmb h4
            have h6 := h5.at k (by rw [padd_len (by rw [HAT.out]; omega)]; exact hlt)
            rw [hfx]
            exact ⟨rfl, h2, h4, ⟨_, h6.1⟩, h6.2⟩)
          obtain ⟨r, hr⟩ : ∃ r, r = fx1 site oc U at_ n := ⟨_, rfl⟩
          rw [← hr] at hA
          have HR := Lib.hid hr
          clear hr hb1 hfx
          go_wp2_with (go_at_call 57; refine hA.mono ?_; clear hA; rintro e w3 ⟨rfl, hT3, hTc3, ⟨v, hv⟩, hf⟩; have HT3 := Lib.hid hT3; have HTC3 := Lib.hid hTc3; clear hT3 hTc3)
          go_roundw
          case rel =>
            refine ⟨k + 1, by go_num, hlt, ?_, ⟨HOCS.out (fun h => by omega)⟩⟩
            rw [HSUCC.out, ← HR.out]
            exact HST.out.next ht hmb HTC3.out HT3.out HAT.out hlt
          case measure => simp [intOf]; omega
        · have hpos : 0 ≤ n.f0 := by omega
          have hb1 : Below wr.heap.size wr (wr.alloc (.cells #[.int .i64 n.f0, .int .i64 n.f1, .slice A2 n.f2.length c2] 60)) := (Below.refl _ wr).alloc (Nat.le_refl _) _
          obtain ⟨M, hM⟩ : ∃ M, M = n.f2.length := ⟨_, rfl⟩
          have HM := Lib.hid hM
          rw [← hM] at d2 l2 hI2 hb1
          have HB1w := Lib.hid hb1
          have HG2 := Lib.hid g2
          by_cases hsite : n.f0 = site
          · have hsb : (n.f0 == site) = true := by simp [hsite]
            by_cases hob : 0 ≤ oc ∧ oc < (n.f2.length : Int)
            · obtain ⟨oN, rfl⟩ : ∃ oN : Nat, oc = oN := ⟨oc.toNat, by omega⟩
              have hoN : oN < n.f2.length := by omega
              have HFX := Lib.hid (show fx1 site (oN : Int) U at_ n = (U, lk at_ (rd n.f2 (oN : Int))) from by unfold fx1; rw [if_pos ⟨hpos, hsite⟩])
              obtain ⟨ad2, rfl, hkc⟩ := reads_at HG2.out (by intro e; rw [e] at hoN; simp at hoN)
              have e0 := hkc oN hoN
              obtain ⟨hc0, hc1⟩ := HKIDS.out _ (rd_mem hob.1 hob.2)
              have hrd : rd n.f2 (oN : Int) = n.f2.getD oN 0 := by unfold rd; rw [Int.toNat_natCast]
              rw [hrd] at hc0 hc1
              obtain ⟨cn, hcn⟩ : ∃ cn : Nat, n.f2.getD oN 0 = cn := ⟨(n.f2.getD oN 0).toNat, by omega⟩
              rw [hcn] at e0 hc1
              have hcN : cn < N := by omega
              have hcNi : (cn : Int) < (N : Int) := by omega
              have hcb : cn < 4000000000000 := by omega
              have hoM : oN < M := by omega
              have hoMi : (oN : Int) < (M : Int) := by omega
              have hoM2 : ¬ ((M : Int) ≤ (oN : Int)) := by omega
              have hobb : oN < 4000000000000 := by omega
              have p0 := HST.out.arr.at cn (by rw [padd_len (by rw [HAT.out]; omega)]; omega)
              rw [padd_get (by rw [HAT.out]; omega)] at p0
              have p1 := p0.1
              have p2 := HST.out.arr.at k (by rw [padd_len (by rw [HAT.out]; omega)]; omega)
              obtain ⟨y, hy⟩ : ∃ y, y = at_.getD cn 0 := ⟨_, rfl⟩
              rw [← hy] at p1
              have hyl : lk at_ (rd n.f2 (oN : Int)) = y := by rw [hrd, hcn, hy]; unfold lk; rw [Int.toNat_natCast]
              have HYL := Lib.hid hyl
              have HSITE := Lib.hid hsite
              have HOB := Lib.hid hob
              obtain ⟨z, hz⟩ : ∃ z, wr.cell? ⟨w2.heap.size, k, none⟩ = some (.int .i64 z) := ⟨_, p2.1⟩
              have hf := p2.2
              have hel := World.block_lt_of_cell? _ _ e0
              clear hkc hrd hcn hy hyl p0 p2 hsite hc0 hob hM hb1 g2
              go_wp2
              go_roundw
              case rel =>
                refine ⟨k + 1, by go_num, hlt, ?_, ⟨HOCS.out (fun _ _ => HOB.out)⟩⟩
                rw [HSUCC.out, HFX.out, HYL.out]
                exact (HST.out.next (z := y) ht hmb (Touch.refl _ _ _ _) HST.out.tab HAT.out hlt).on ((Below.refl _ _).alloc (Nat.le_refl _) _)
              case measure => simp [intOf]; omega
            · have hnoc : ocB site oc nodes = false := by
                cases hq : ocB site oc nodes with
                | false => rfl
                | true => exact absurd (ocB_iff.1 hq n HNM.out hpos hsite) hob
              have hE : rsE site oc nodes = 1 := by unfold rsE; rw [if_pos HV0.out, if_neg (by rw [hnoc]; decide)]
              have hL : rsL site oc nodes = [] := by unfold rsL; rw [if_pos HV0.out, if_neg (by rw [hnoc]; decide)]
              have HE := Lib.hid hE
              have HL := Lib.hid hL
              have f1 := blk_frozen HRR.out 0
              have b1 := blk_cell HRR.out 0
              have hrl := blk_lt HRR.out
              have HSITE := Lib.hid hsite
              clear hE hL hnoc hM hb1 g2 hsite
              by_cases ho0 : oc < 0
              · clear hob
                go_wp2
                have hb3 := blk_set HRR.out 0 (.slice none 0 0)
                have hx := (Below.heap_alloc (wr.setCell ⟨w.heap.size + 1, 0, none⟩ (.slice none 0 0)) (.cells #[.int .i64 n.f0, .int .i64 n.f1, .slice A2 M c2] 60) _ (blk_lt hb3)).trans hb3
                have q0 := (blk_cell hx 0).trans rfl
                have hbz := (HBW.out.setCell (p := ⟨w.heap.size + 1, 0, none⟩) (by show w.heap.size ≤ w.heap.size + 1; omega) (.slice none 0 0)).alloc (by have := HBW.out.size; simp [World.setCell]; omega) (.cells #[.int .i64 n.f0, .int .i64 n.f1, .slice A2 M c2] 60)
                refine bodyPost_ret (v := .tuple #[.agg #[.slice none 0 0], .int .i64 1]) (by simp [results, Tryd.f30, go_sem, q0]) rfl ⟨hbz, _, by rw [HE.out], by rw [HL.out]; exact Kd.R_nil _ _ _ _ _⟩
              · obtain ⟨oN, rfl⟩ : ∃ oN : Nat, oc = oN := ⟨oc.toNat, by omega⟩
                have hoM : (M : Int) ≤ (oN : Int) := by have := HM.out; omega
                have hoM1 : M ≤ oN := by omega
                clear hob ho0
                go_wp2
                have hb3 := blk_set HRR.out 0 (.slice none 0 0)
                have hx := (Below.heap_alloc (wr.setCell ⟨w.heap.size + 1, 0, none⟩ (.slice none 0 0)) (.cells #[.int .i64 n.f0, .int .i64 n.f1, .slice A2 M c2] 60) _ (blk_lt hb3)).trans hb3
                have q0 := (blk_cell hx 0).trans rfl
                have hbz := (HBW.out.setCell (p := ⟨w.heap.size + 1, 0, none⟩) (by show w.heap.size ≤ w.heap.size + 1; omega) (.slice none 0 0)).alloc (by have := HBW.out.size; simp [World.setCell]; omega) (.cells #[.int .i64 n.f0, .int .i64 n.f1, .slice A2 M c2] 60)
                refine bodyPost_ret (v := .tuple #[.agg #[.slice none 0 0], .int .i64 1]) (by simp [results, Tryd.f30, go_sem, q0]) rfl ⟨hbz, _, by rw [HE.out], by rw [HL.out]; exact Kd.R_nil _ _ _ _ _⟩
          · have hsb : (n.f0 == site) = false := by simp [hsite]
            have HFX := Lib.hid (show fx1 site oc U at_ n = placeB U n.f0 (n.f2.map (lk at_)) from by unfold fx1 place1; rw [if_neg (fun h => hsite h.2), if_neg hneg])
            have HNS := Lib.hid hsite
            have hne : n.f2 ≠ [] := by
              rcases HFRM.out with h | h
              · omega
              · exact h.2.2
            obtain ⟨ad2, rfl, hk2⟩ := reads_at HG2.out hne
            have hmk2 := print_make (P := Tryd.prog) 22 3 .i64 8 Tryd.underlying22 info3 (by decide) M (by omega)
            have HK2 := Lib.hid hk2
            have HNE := Lib.hid hne
            obtain ⟨bx, hbx⟩ : ∃ bx, bx = Obj.cells #[.int .i64 n.f0, .int .i64 n.f1, .slice (some ad2) M c2] 60 := ⟨_, rfl⟩
            have hw1 : (wr.alloc bx).heap.size = wr.heap.size + 1 := by simp
            have hin : Arr ((wr.alloc bx).alloc (.cells (madeCells #[.int .i64 0] M) 3)) (wr.heap.size + 1) (padd ((n.f2.take 0).map (lk at_)) M) := by
              have := Arr.made (wr.alloc bx) M (by omega)
              rw [hw1] at this
              simpa [padd] using this
            have hb2 : Below (wr.heap.size + 1) (wr.alloc bx) ((wr.alloc bx).alloc (.cells (madeCells #[.int .i64 0] M) 3)) := (Below.refl _ _).alloc (by simp) _
            rw [hbx] at hin hb2
            have HIN := Lib.hid (And.intro hb2 hin)
            clear hk2 hb2 hin hb1 hw1 hbx hne hsite hM g2
            go_wp2
            obtain ⟨wo, rfl⟩ : ∃ wo : World, wo = wr := ⟨_, rfl⟩
            go_loopw [44] (fun i W => ∃ j : Nat, i = .int .i64 j ∧ j ≤ M ∧ Below (wo.heap.size + 1) (wo.alloc (.cells #[.int .i64 n.f0, .int .i64 n.f1, .slice (some ad2) M c2] 60)) W ∧ Arr W (wo.heap.size + 1) (padd ((n.f2.take j).map (lk at_)) M))
              (fun i _ => M - (intOf i).toNat)
            case atStart => exact ⟨0, rfl, Nat.zero_le _, HIN.out.1, HIN.out.2⟩
            case round =>
              obtain ⟨j, rfl, hj, hbW, haW⟩ := hrel
              have hbo : Below wo.heap.size wo wr := ((Below.refl _ wo).alloc (Nat.le_refl _) _).trans (hbW.mono (by omega))
              by_cases hjl : j < M
              · have hjn : j < n.f2.length := by have := HM.out; omega
                have hcm : n.f2.getD j 0 ∈ n.f2 := by rw [List.getD_eq_getElem?_getD, List.getElem?_eq_getElem hjn]; exact List.getElem_mem hjn
                obtain ⟨hc0, hc1⟩ := HKIDS.out _ hcm
                have e0 := pw_cell_below hbo (HK2.out j hjn)
                obtain ⟨cn, hcn⟩ : ∃ cn : Nat, n.f2.getD j 0 = cn := ⟨(n.f2.getD j 0).toNat, by omega⟩
                rw [hcn] at e0 hc1
                have hcN : cn < N := by omega
                have hcNi : (cn : Int) < (N : Int) := by omega
                have e1 := (HST.out.arr.move (hbo.block _ hab)).at cn (by rw [padd_len (by rw [HAT.out]; omega)]; omega)
                rw [padd_get (by rw [HAT.out]; omega)] at e1
                have e2 := e1.1
                have e3 := haW.at j (by rw [padd_len (by simp; omega)]; exact hjl)
                have e4 := e3.1
                have e5 := e3.2
                have hjb : j < 2000000000 := by omega
                have HCN := Lib.hid hcn
                have HBW1 := Lib.hid hbW
                have HAW := Lib.hid haW
                clear e1 e3 hcm hcn hbW haW
                go_wp2
                go_roundw
                case rel =>
                  refine ⟨j + 1, by go_num, hjl, HBW1.out.setCell (p := ⟨wo.heap.size + 1, j, none⟩) (Nat.le_refl _) _, ?_⟩
                  have h1 := HAW.out.put j (at_.getD cn 0)
                  have hl : ((n.f2.take j).map (lk at_)).length = j := by simp; omega
                  have h2 := padd_set (l := (n.f2.take j).map (lk at_)) (n := M) (at_.getD cn 0) (by rw [hl]; exact hjl)
                  rw [hl] at h2
                  rw [h2] at h1
                  have h3 : (n.f2.take (j + 1)).map (lk at_) = (n.f2.take j).map (lk at_) ++ [at_.getD cn 0] := by
                    rw [List.take_succ_eq_append_getElem hjn, List.map_append]
                    congr 1
                    have : n.f2[j] = (cn : Int) := by
                      have := HCN.out
                      rw [List.getD_eq_getElem?_getD, List.getElem?_eq_getElem hjn] at this
                      exact this
                    simp [lk, this]
                  rw [h3]
                  exact h1
                case measure => simp [intOf]; omega
              · have ej : j = M := by omega
                obtain ⟨KL, hKL⟩ : ∃ KL, KL = n.f2.map (lk at_) := ⟨_, rfl⟩
                have hKl : KL.length = M := by rw [hKL, List.length_map]; exact HM.out.symm
                have haK : Arr wr (wo.heap.size + 1) KL := by
                  have h1 : (n.f2.take j).map (lk at_) = KL := by rw [hKL, ej, List.take_of_length_le (l := n.f2) (i := M) (by have := HM.out; omega)]
                  rw [h1] at haW
                  unfold padd at haW
                  rw [hKl, Nat.sub_self] at haW
                  simpa using haW
                have hCK := haK.C
                rw [hKl] at hCK
                have hkI : ∀ x ∈ n.f0 :: 0 :: KL, I64 x := by
                  intro x hx
                  rcases List.mem_cons.1 hx with rfl | hx
                  · exact hI0
                  · rcases List.mem_cons.1 hx with rfl | hx
                    · exact ⟨by omega, by omega⟩
                    · rw [hKL] at hx
                      obtain ⟨h1, h2⟩ := HT.out.kids (l := n.f2) (by rw [HAT.out]; exact HKIDS.out) x hx
                      have := HTL.out
                      exact ⟨by omega, by omega⟩
                have hKne : KL ≠ [] := by rw [hKL]; simpa using HNE.out
                have hA := (branch_calls w1.heap.size (w1.heap.size + 1) w1.heap.size (fun j => okNew w1.heap.size (w1.heap.size + 1) w1.heap.size j ∧ j ≠ w2.heap.size) U n.f0 KL (some ⟨wo.heap.size + 1, 0, none⟩) M wr (HST.out.tab.below hbo) (HO1.out _ hbo.size) (by have := hbo.size; omega) (by rw [hKl]; exact hCK) (by rw [hKl]; exact Nat.le_refl _) hKne hkI (by rw [hKl]; omega) (by have := HTL.out; have := HRM.out; have := HN.out; omega) (HT2b.out.on (HBW2.out.trans (hbo.mono (by omega))))).mono (R' := fun e w3 => e = .returned (.int .i64 (fx1 site oc U at_ n).2) ∧
                    TabS w3 w1.heap.size (w1.heap.size + 1) w1.heap.size (fun j => okNew w1.heap.size (w1.heap.size + 1) w1.heap.size j ∧ j ≠ w2.heap.size) (fx1 site oc U at_ n).1 ∧ Touch wo w3 (fun j => okNew w1.heap.size (w1.heap.size + 1) w1.heap.size j ∧ j ≠ w2.heap.size) (w1.heap.size + 1) w1.heap.size ∧ (∃ v, w3.cell? ⟨w2.heap.size, k, none⟩ = some (.int .i64 v)) ∧ w3.frozen? ⟨w2.heap.size, k, none⟩ = false) (by
                  rintro e w3 ⟨rfl, h2, h3⟩
                  have h4 := (Touch.of_below hbo (fun j => okNew w1.heap.size (w1.heap.size + 1) w1.heap.size j ∧ j ≠ w2.heap.size) (w1.heap.size + 1) w1.heap.size).trans h3
                  have h5 := HST.out.arr2 ht hmb h4
                  have h6 := h5.at k (by rw [padd_len (by rw [HAT.out]; omega)]; exact hlt)
                  rw [HFX.out, ← hKL]
                  exact ⟨rfl, h2, h4, ⟨_, h6.1⟩, h6.2⟩)
                rw [hKl] at hA
                obtain ⟨r, hr⟩ : ∃ r, r = fx1 site oc U at_ n := ⟨_, rfl⟩
                rw [← hr] at hA
                have HR := Lib.hid hr
                have hbox : wr.heap[wo.heap.size]? = some (.cells #[.int .i64 n.f0, .int .i64 n.f1, .slice (some ad2) M c2] 60 (0, 0)) := (hbW.block _ (by omega)).trans (heap_alloc_new wo _)
                have q0 := blk_cell hbox 0
                clear hr hKL hKl haK hCK hkI hKne hbW haW hbox ej
                go_wp2_with (go_at_call 58; refine hA.mono ?_; clear hA; rintro e w3 ⟨rfl, hT3, hTc3, ⟨v, hv⟩, hf⟩; have HT3 := Lib.hid hT3; have HTC3 := Lib.hid hTc3; clear hT3 hTc3)
                go_roundw
                case rel =>
                  refine ⟨k + 1, by go_num, hlt, ?_, ⟨HOCS.out (fun _ h => absurd h HNS.out)⟩⟩
                  rw [HSUCC.out, ← HR.out]
                  exact HST.out.next ht hmb HTC3.out HT3.out HAT.out hlt
                case measure => simp [intOf]; omega
      · have hke : k = N := by omega
        have htk : nodes.take k = nodes := List.take_of_length_le (by have := HN.out; omega)
        have hoc1 := HOC.out
        rw [htk] at hoc1
        have hE : rsE site oc nodes = 0 := by unfold rsE; rw [if_pos HV0.out, if_pos (ocB_iff.2 hoc1)]
        have hL : rsL site oc nodes = fxR site oc nodes := by unfold rsL; rw [if_pos HV0.out, if_pos (ocB_iff.2 hoc1)]
        have hU1 := HUE.out
        have ha1 := HAE.out
        rw [htk] at hU1 ha1
        obtain ⟨R, hR⟩ : ∃ R : Nat, lk (fx site oc [] [] nodes).2 ((nodes.length - 1 : Nat) : Int) = (R : Int) ∧ R < U.length := by
          have h1 := HT.out.at_lt _ (lk_mem (at_ := at_) (c := ((nodes.length - 1 : Nat) : Int)) (by omega) (by rw [HAT.out]; have := HN.out; omega))
          rw [ha1] at h1
          exact ⟨(lk (fx site oc [] [] nodes).2 ((nodes.length - 1 : Nat) : Int)).toNat, by omega, by omega⟩
        have p0 := (HST.out.arr.at (N - 1) (by rw [padd_len (by rw [HAT.out]; omega)]; omega)).1
        rw [padd_get (by rw [HAT.out]; omega)] at p0
        have hlR : at_.getD (N - 1) 0 = (R : Int) := by
          have := hR.1
          unfold lk at this
          rw [Int.toNat_natCast, ← ha1, ← HN.out] at this
          exact this
        rw [hlR] at p0
        have hNb : N < 4000000000000 := by omega
        have en1 : (N : Int) - 1 = ((N - 1 : Nat) : Int) := by omega
        have hN1 : N - 1 < N := by omega
        obtain ⟨fuel, hfu⟩ := exL_root HT.out.down 20000 R hR.2
        have hfu0 := hfu 0
        rw [Nat.zero_add, if_pos (Nat.le_trans (expo_len HT.out.down hR.2) (by have := HTL.out; omega))] at hfu0
        have hfxr : fxR site oc nodes = expo U (R : Nat) := by unfold fxR; rw [← hU1, hR.1]
        have HFXR := Lib.hid hfxr
        have HE := Lib.hid hE
        have HL := Lib.hid hL
        have HFU := Lib.hid hfu0
        have HRR2 := Lib.hid hR
        clear hR hU1 ha1 htk hlR hke hfu hfu0 hfxr hE hL hoc1
        go_wp2_with (go_at_call 47; refine (export_calls fuel w1.heap.size (w1.heap.size + 1) w1.heap.size _ U R wr _ HST.out.tab HT.out.down HRR2.out.2 HFU.out (by have := HTL.out; omega) (fun n hn => Nat.le_trans (HUK.out n hn) (by decide))).mono ?_; rintro e w4 ⟨hb4, hm⟩; obtain ⟨vo, rfl, hR4⟩ := hm; obtain ⟨A5, c5, rfl⟩ := Kd.R_slice hR4; have hbx4 := (hb4.block _ (blk_lt HRR.out)).trans HRR.out; have b0 := blk_cell hbx4 0; have f0 := blk_frozen hbx4 0; have hlt4 := blk_lt hbx4; have HBX4 := Lib.hid hbx4; have HB4 := Lib.hid hb4; have HR4 := Lib.hid hR4; clear hbx4 hb4 hR4)
        have hb5 := blk_set HBX4.out 0 (.slice A5 (expo U (R : Nat)).length c5)
        have hx := (Below.heap_alloc (w4.setCell ⟨w.heap.size + 1, 0, none⟩ (.slice A5 (expo U (R : Nat)).length c5)) (.cells #[.slice A5 (expo U (R : Nat)).length c5] 31) _ (blk_lt hb5)).trans hb5
        have q0 := (blk_cell hx 0).trans rfl
        have hs4 := HB4.out.size
        have hrl := blk_lt HRR.out
        have hbz := ((HBW.out.trans (HB4.out.mono HBW.out.size)).setCell (p := ⟨w.heap.size + 1, 0, none⟩) (by show w.heap.size ≤ w.heap.size + 1; omega) (.slice A5 (expo U (R : Nat)).length c5)).alloc (by have := HBW.out.size; simp [World.setCell]; omega) (.cells #[.slice A5 (expo U (R : Nat)).length c5] 31)
        refine bodyPost_ret (v := .tuple #[.agg #[.slice A5 (expo U (R : Nat)).length c5], .int .i64 0]) (by simp [results, Tryd.f30, go_sem, q0]) rfl ⟨hbz, _, by rw [HE.out], ?_⟩
        rw [HL.out, HFXR.out]
        exact Kd.R_lower (Kd.R_mono (Kd.R_below (Kd.R_far (p := ⟨w.heap.size + 1, 0, none⟩) (Kd.R_bound HR4.out) (fun q hq => by show q ≠ w.heap.size + 1; have := hq.2.1; omega) _) ((Below.refl _ _).alloc (Nat.le_refl _) _)) (fun _ _ => trivial)) (by have := HBW.out.size; omega)
  · have hv : rsE site oc nodes = valE nodes := by unfold rsE; rw [if_neg h0]
    have hl : rsL site oc nodes = [] := by unfold rsL; rw [if_neg h0]
    rw [hv, hl]
    obtain ⟨er, her⟩ : ∃ er, er = valE nodes := ⟨_, rfl⟩
    rw [← her] at hV h0 ⊢
    clear her hv hl
    go_enter Tryd.func30, Tryd.ntmps30
    go_wp2_with (go_at_call 21; refine hV.mono ?_; clear hV; rintro e w2 ⟨rfl, hb2⟩; have HB2 := Lib.hid (HB0.out.trans (hb2.mono (by have := HS0.out; omega))); have hr2 := (hb2.block _ (blk_lt HR0.out)).trans HR0.out; have b1 := blk_cell hr2 0; have f1 := blk_frozen hr2 0; have HR2 := Lib.hid hr2; clear hb2 hr2)
    have hb3 := blk_set HR2.out 0 (.slice none 0 0)
    have q0 := (blk_cell hb3 0).trans rfl
    refine bodyPost_ret (v := .tuple #[.agg #[.slice none 0 0], .int .i64 er]) (by simp [results, Tryd.f30, go_sem, q0]) rfl ⟨HB2.out.setCell (p := ⟨w.heap.size + 1, 0, none⟩) (by show w.heap.size ≤ w.heap.size + 1; omega) _, _, rfl, Kd.R_nil _ _ _ _ _⟩
end Go.Proofs.YtopbjginpmdebaaDoor.K
-- the contract of diagram.Restrict, in the form that the printed texts call it
namespace Go.Proofs.YtopbjginpmdebaaDoor.K
open Go.RowKit Go.Maps Go.Proofs.YtopbjginpmdebaaDoorW.PrintWords Go.Proofs.YtopbjginpmdebaaDoorW.PrintLast Go.Proofs.YtopbjginpmdebaaDoorW.PrintMore
set_option linter.unusedVariables false
set_option linter.unusedSimpArgs false
def diagram_Restrict.f (l : List S60) (site oc : Int) : Option (List S60 × Int) := if ndOk l = true then some (rsL site oc l, rsE site oc l) else none
theorem diagram_Restrict.calls (A : Option Addr) (c : Nat) (l : List S60) (site oc : Int) (r1 : List S60) (r2 : Int) (w : World) (hr : Kd.C k60 w A l.length l) (hc : l.length ≤ c) (h : diagram_Restrict.f l site oc = some (r1, r2)) (htab : PowTab w.heap.size w) :
    Calls Tryd.prog 30 #[.agg #[.slice A l.length c], .int .i64 site, .int .i64 oc] w fun e w' => ∃ v0_ : Value, e = .returned (.tuple #[.agg #[v0_], .int .i64 r2]) ∧ Kd.V k60 60 w' w.heap.size (fun k_ => (w.heap.size ≤ k_)) v0_ r1 ∧ Below w.heap.size w w' := by
  unfold diagram_Restrict.f at h
  by_cases hk : ndOk l = true
  · rw [if_pos hk] at h
    simp only [Option.some.injEq, Prod.mk.injEq] at h
    obtain ⟨rfl, rfl⟩ := h
    exact (restrict_calls l site oc A c w hr hc (ndOk_I hk) (ndOk_room hk) htab).mono fun e w' ⟨hb, vo, he, hR⟩ => ⟨vo, he, V_of_R hR, hb⟩
  · rw [if_neg hk] at h; cases h
/-- what Restrict returns is small -/
theorem rsL_small (site oc : Int) (l : List Nd) : (rsL site oc l).length ≤ 20000 ∧ ∀ x ∈ rsL site oc l, x.f2.length ≤ 16 := by
  unfold rsL
  by_cases h0 : valE l = 0
  · rw [if_pos h0]
    by_cases h1 : ocB site oc l = true
    · rw [if_pos h1]
      obtain ⟨hg, _, hl⟩ := val_ok h0
      have hp := gr_pos hg
      have ht := fx_tbl (gr_fit hg) (ocB_iff.1 h1) tbl_nil l.length (Nat.le_refl _)
      rw [List.take_length] at ht
      have hlen := fx_len site oc l [] []
      have hr := ht.1.at_lt _ (lk_mem (at_ := (fx site oc [] [] l).2) (c := ((l.length - 1 : Nat) : Int)) (by omega) (by rw [hlen]; simp; omega))
      obtain ⟨R, hR⟩ : ∃ R : Nat, lk (fx site oc [] [] l).2 ((l.length - 1 : Nat) : Int) = (R : Int) := ⟨_, (Int.toNat_of_nonneg hr.1).symm⟩
      unfold fxR
      rw [hR] at hr ⊢
      have hul : (fx site oc [] [] l).1.length ≤ l.length := by simpa using ht.2.1
      refine ⟨Nat.le_trans (expo_len ht.1.down (by omega)) (by omega), ?_⟩
      unfold expo
      exact dfs_kids (fx_kids site oc l [] [] (by simp) (gr_kids hg)) _ _ _ (by simp)
    · rw [if_neg h1]; simp
  · rw [if_neg h0]; simp
end Go.Proofs.YtopbjginpmdebaaDoor.K
namespace Go.Proofs.YtopbjginpmdebaaDoor.K
open Go.RowKit Go.Proofs.YtopbjginpmdebaaDoorW.PrintWords Go.Proofs.YtopbjginpmdebaaDoorW.PrintLast Go.Proofs.YtopbjginpmdebaaDoorW.PrintMore
attribute [local go_sem] max2_int min2_int max_two min_two max_three min_three max_four min_four   -- for this text's walks alone
set_option linter.unusedVariables false
set_option linter.unusedSimpArgs false

/-! ### exactppllaw19_DiagramRestricts: function 8 -/
mutual
def exactppllaw19_DiagramRestricts.j1 : Nat → Int → Int → List (S60) → Option (Bool)
 | 0, _, _, _ => none
 | k + 1, x1, x2, x465000 => (diagram_Restrict.f x465000 x1 x2).bind fun bt479 => ((exactpplref19_Restrict.f k x465000 x1 x2).bind fun bt484 => (if bt479.2 = bt484.2 then ((exactpplref19_Same.f k bt479.1 bt484.1).bind fun t489 => (if t489 = true then ((exactppllaw19_awake.f).bind fun t490 => (some t490)) else (some false))) else (some false)))
def exactppllaw19_DiagramRestricts.j0 : Nat → Int → Int → Bool → List Int → Int → Int → List (S60) → Option (Bool)
 | 0, _, _, _, _, _, _, _ => none
 | k + 1, x1, x2, x24, x459000, x459001, x459002, x465000 => if x24 = true then ((exactpplmake_Src_Range.f x459000 x459001 x459002 (-1) 4).bind fun bt473 => ((exactpplmake_Src_Range.f x459000 bt473.2.1 bt473.2.2 (-1) 3).bind fun bt476 => (exactppllaw19_DiagramRestricts.j1 k bt473.1 bt476.1 x465000))) else (exactppllaw19_DiagramRestricts.j1 k x1 x2 x465000)
end
def exactppllaw19_DiagramRestricts.f (k : Nat) (l0 : List Int) (a1 : Int) (a2 : Int) : Option (Bool) := (exactpplmake_New.f l0).bind fun bt455 => ((exactpplmake_Src_Diagram.f k bt455.1 bt455.2.1 bt455.2.2 0 3).bind fun bt459 => ((exactpplmake_Src_N.f bt455.1 bt459.2.1 bt459.2.2 8).bind fun bt465 => (if bt465.1 = 0 then ((exactpplmake_Src_Nodes.f k bt455.1 bt465.2.1 bt465.2.2).bind fun bt468 => (exactppllaw19_DiagramRestricts.j1 k a1 a2 bt468.1)) else (if bt465.1 = 1 then (exactppllaw19_DiagramRestricts.j0 k a1 a2 (bt465.1 == 1) bt455.1 bt465.2.1 bt465.2.2 bt459.1) else (if bt465.1 = 2 then (exactppllaw19_DiagramRestricts.j0 k a1 a2 (bt465.1 == 2) bt455.1 bt465.2.1 bt465.2.2 bt459.1) else (if bt465.1 = 3 then (exactppllaw19_DiagramRestricts.j0 k a1 a2 (bt465.1 == 3) bt455.1 bt465.2.1 bt465.2.2 bt459.1) else (exactppllaw19_DiagramRestricts.j0 k a1 a2 (bt465.1 == 4) bt455.1 bt465.2.1 bt465.2.2 bt459.1)))))))
theorem exactppllaw19_DiagramRestricts.mono_l : ∀ k, (∀ y0 y1 y2, LeO (exactppllaw19_DiagramRestricts.j1 k y0 y1 y2) (exactppllaw19_DiagramRestricts.j1 (k + 1) y0 y1 y2)) ∧ (∀ y0 y1 y2 y3 y4 y5 y6, LeO (exactppllaw19_DiagramRestricts.j0 k y0 y1 y2 y3 y4 y5 y6) (exactppllaw19_DiagramRestricts.j0 (k + 1) y0 y1 y2 y3 y4 y5 y6))
 | 0 => ⟨fun _ _ _ r h => by simp [exactppllaw19_DiagramRestricts.j1] at h, fun _ _ _ _ _ _ _ r h => by simp [exactppllaw19_DiagramRestricts.j0] at h⟩
 | k + 1 => by
  obtain ⟨ih0, ih1⟩ := exactppllaw19_DiagramRestricts.mono_l k
  refine ⟨?_, ?_⟩
  ·intro y0 y1 y2
   unfold exactppllaw19_DiagramRestricts.j1
   repeat' first
   | (with_reducible exact ih0 _ _ _)
   | (with_reducible exact ih1 _ _ _ _ _ _ _)
   | (with_reducible exact exactpplmake_Src_Diagram.mono _ _ _ _ _ _)
   | (with_reducible exact exactpplmake_Src_Nodes.mono _ _ _ _)
   | (with_reducible exact exactpplref19_Restrict.mono _ _ _ _)
   | (with_reducible exact exactpplref19_Same.mono _ _ _)
   | (with_reducible exact LeO.refl _)
   | (with_reducible exact LeO.none _)
   | (with_reducible refine LeO.ite ?_ ?_)
   | (with_reducible refine LeO.bind ?_ (fun _ => ?_))
   | exact ih0 _ _ _
   | exact ih1 _ _ _ _ _ _ _
   | exact exactpplmake_Src_Diagram.mono _ _ _ _ _ _
   | exact exactpplmake_Src_Nodes.mono _ _ _ _
   | exact exactpplref19_Restrict.mono _ _ _ _
   | exact exactpplref19_Same.mono _ _ _
   | exact LeO.none _
   | refine LeO.ite ?_ ?_
   | refine LeO.bind ?_ (fun _ => ?_)
  ·intro y0 y1 y2 y3 y4 y5 y6
   unfold exactppllaw19_DiagramRestricts.j0
   repeat' first
   | (with_reducible exact ih0 _ _ _)
   | (with_reducible exact ih1 _ _ _ _ _ _ _)
   | (with_reducible exact exactpplmake_Src_Diagram.mono _ _ _ _ _ _)
   | (with_reducible exact exactpplmake_Src_Nodes.mono _ _ _ _)
   | (with_reducible exact exactpplref19_Restrict.mono _ _ _ _)
   | (with_reducible exact exactpplref19_Same.mono _ _ _)
   | (with_reducible exact LeO.refl _)
   | (with_reducible exact LeO.none _)
   | (with_reducible refine LeO.ite ?_ ?_)
   | (with_reducible refine LeO.bind ?_ (fun _ => ?_))
   | exact ih0 _ _ _
   | exact ih1 _ _ _ _ _ _ _
   | exact exactpplmake_Src_Diagram.mono _ _ _ _ _ _
   | exact exactpplmake_Src_Nodes.mono _ _ _ _
   | exact exactpplref19_Restrict.mono _ _ _ _
   | exact exactpplref19_Same.mono _ _ _
   | exact LeO.none _
   | refine LeO.ite ?_ ?_
   | refine LeO.bind ?_ (fun _ => ?_)
theorem exactppllaw19_DiagramRestricts.mono : ∀ a0 a1 a2 k, LeO (exactppllaw19_DiagramRestricts.f k a0 a1 a2) (exactppllaw19_DiagramRestricts.f (k + 1) a0 a1 a2) := by
 intro a0 a1 a2 k
 obtain ⟨ih0, ih1⟩ := exactppllaw19_DiagramRestricts.mono_l k
 unfold exactppllaw19_DiagramRestricts.f
 repeat' first
   | (with_reducible exact ih0 _ _ _)
   | (with_reducible exact ih1 _ _ _ _ _ _ _)
   | (with_reducible exact exactpplmake_Src_Diagram.mono _ _ _ _ _ _)
   | (with_reducible exact exactpplmake_Src_Nodes.mono _ _ _ _)
   | (with_reducible exact exactpplref19_Restrict.mono _ _ _ _)
   | (with_reducible exact exactpplref19_Same.mono _ _ _)
   | (with_reducible exact LeO.refl _)
   | (with_reducible exact LeO.none _)
   | (with_reducible refine LeO.ite ?_ ?_)
   | (with_reducible refine LeO.bind ?_ (fun _ => ?_))
   | exact ih0 _ _ _
   | exact ih1 _ _ _ _ _ _ _
   | exact exactpplmake_Src_Diagram.mono _ _ _ _ _ _
   | exact exactpplmake_Src_Nodes.mono _ _ _ _
   | exact exactpplref19_Restrict.mono _ _ _ _
   | exact exactpplref19_Same.mono _ _ _
   | exact LeO.none _
   | refine LeO.ite ?_ ?_
   | refine LeO.bind ?_ (fun _ => ?_)
set_option maxHeartbeats 8000000 in
set_option maxRecDepth 100000 in
theorem exactppllaw19_DiagramRestricts.calls (k : Nat) (A0 : Option Addr) (c0 : Nat) (l0 : List Int) (a1 : Int) (a2 : Int) (r : Bool) (w : World) (hr0 : Kd.C (Kd.int .i64) w A0 l0.length l0) (hc0 : l0.length ≤ c0) (h : exactppllaw19_DiagramRestricts.f k l0 a1 a2 = some r) (htab : PowTab w.heap.size w) :
  Calls Tryd.prog 8 #[.slice A0 l0.length c0, .int .i64 a1, .int .i64 a2] w fun e w' => e = .returned (.bool r) ∧ Below w.heap.size w w' := by
 have HTAB := Aside0.mk htab
 clear htab
 have hu31 := Tryd.underlying31
 have HR0 := Aside0.mk hr0
 have HC0 := Aside0.mk hc0
 clear hr0 hc0
 have HB := Aside0.mk (Below.refl w.heap.size w)
 have H : ((exactpplmake_New.f l0).bind fun bt455 => ((exactpplmake_Src_Diagram.f k bt455.1 bt455.2.1 bt455.2.2 0 3).bind fun bt459 => ((exactpplmake_Src_N.f bt455.1 bt459.2.1 bt459.2.2 8).bind fun bt465 => (if bt465.1 = 0 then ((exactpplmake_Src_Nodes.f k bt455.1 bt465.2.1 bt465.2.2).bind fun bt468 => (exactppllaw19_DiagramRestricts.j1 k a1 a2 bt468.1)) else (if bt465.1 = 1 then (exactppllaw19_DiagramRestricts.j0 k a1 a2 (bt465.1 == 1) bt455.1 bt465.2.1 bt465.2.2 bt459.1) else (if bt465.1 = 2 then (exactppllaw19_DiagramRestricts.j0 k a1 a2 (bt465.1 == 2) bt455.1 bt465.2.1 bt465.2.2 bt459.1) else (if bt465.1 = 3 then (exactppllaw19_DiagramRestricts.j0 k a1 a2 (bt465.1 == 3) bt455.1 bt465.2.1 bt465.2.2 bt459.1) else (exactppllaw19_DiagramRestricts.j0 k a1 a2 (bt465.1 == 4) bt455.1 bt465.2.1 bt465.2.2 bt459.1)))))))) = some r := h
 clear h
 replace H := Option.bind_eq_some_iff.mp H
 obtain ⟨⟨t455, t456, t457⟩, A40, H⟩ := H
 replace H : ((exactpplmake_Src_Diagram.f k t455 t456 t457 0 3).bind fun bt459 => ((exactpplmake_Src_N.f t455 bt459.2.1 bt459.2.2 8).bind fun bt465 => (if bt465.1 = 0 then ((exactpplmake_Src_Nodes.f k t455 bt465.2.1 bt465.2.2).bind fun bt468 => (exactppllaw19_DiagramRestricts.j1 k a1 a2 bt468.1)) else (if bt465.1 = 1 then (exactppllaw19_DiagramRestricts.j0 k a1 a2 (bt465.1 == 1) t455 bt465.2.1 bt465.2.2 bt459.1) else (if bt465.1 = 2 then (exactppllaw19_DiagramRestricts.j0 k a1 a2 (bt465.1 == 2) t455 bt465.2.1 bt465.2.2 bt459.1) else (if bt465.1 = 3 then (exactppllaw19_DiagramRestricts.j0 k a1 a2 (bt465.1 == 3) t455 bt465.2.1 bt465.2.2 bt459.1) else (exactppllaw19_DiagramRestricts.j0 k a1 a2 (bt465.1 == 4) t455 bt465.2.1 bt465.2.2 bt459.1))))))) = some r := H
 have A4 := Aside0.mk A40
 clear A40
 replace H := Option.bind_eq_some_iff.mp H
 obtain ⟨⟨t459, t462, t463⟩, A50, H⟩ := H
 replace H : ((exactpplmake_Src_N.f t455 t462 t463 8).bind fun bt465 => (if bt465.1 = 0 then ((exactpplmake_Src_Nodes.f k t455 bt465.2.1 bt465.2.2).bind fun bt468 => (exactppllaw19_DiagramRestricts.j1 k a1 a2 bt468.1)) else (if bt465.1 = 1 then (exactppllaw19_DiagramRestricts.j0 k a1 a2 (bt465.1 == 1) t455 bt465.2.1 bt465.2.2 t459) else (if bt465.1 = 2 then (exactppllaw19_DiagramRestricts.j0 k a1 a2 (bt465.1 == 2) t455 bt465.2.1 bt465.2.2 t459) else (if bt465.1 = 3 then (exactppllaw19_DiagramRestricts.j0 k a1 a2 (bt465.1 == 3) t455 bt465.2.1 bt465.2.2 t459) else (exactppllaw19_DiagramRestricts.j0 k a1 a2 (bt465.1 == 4) t455 bt465.2.1 bt465.2.2 t459)))))) = some r := H
 have A5 := Aside0.mk A50
 clear A50
 replace H := Option.bind_eq_some_iff.mp H
 obtain ⟨⟨t465, t466, t467⟩, A60, H⟩ := H
 replace H : (if t465 = 0 then ((exactpplmake_Src_Nodes.f k t455 t466 t467).bind fun bt468 => (exactppllaw19_DiagramRestricts.j1 k a1 a2 bt468.1)) else (if t465 = 1 then (exactppllaw19_DiagramRestricts.j0 k a1 a2 (t465 == 1) t455 t466 t467 t459) else (if t465 = 2 then (exactppllaw19_DiagramRestricts.j0 k a1 a2 (t465 == 2) t455 t466 t467 t459) else (if t465 = 3 then (exactppllaw19_DiagramRestricts.j0 k a1 a2 (t465 == 3) t455 t466 t467 t459) else (exactppllaw19_DiagramRestricts.j0 k a1 a2 (t465 == 4) t455 t466 t467 t459))))) = some r := H
 have A6 := Aside0.mk A60
 clear A60
 have HC7 := Aside0.mk H
 clear H
 go_enter Tryd.func8, Tryd.ntmps8
 go_upto_block 0 with (first | ((with_reducible refine gate_callee (f := 15) rfl ?_); refine goesL_ (some 14) rfl rfl Tryd.func15 (by kernel_rfl) rfl #[.slice A0 l0.length c0] rfl (by (try simp only [List.map_toArray, List.map_cons, List.map_nil]); first | done | rfl | (simp only [List.length_drop, List.length_take]; rfl)) ?_; (with_reducible refine (exactpplmake_New.calls _ _ l0 t455 t456 t457 w _ ?side1 ?side2 ?side3 A4.out).mono ?_); (case side1 => repeat (first | (with_reducible first | exact HB.out | apply below_alloc | apply pw_below_drewN | apply below_drew1) | exact HB.out)); (case side2 => exact HR0.out); (case side3 => exact HC0.out); rintro e w8 ⟨g458, rfl, hi, hb, hb2⟩; refine ⟨_, rfl, ?_⟩; have HI458 := Aside0.mk (hi); replace HB := Aside0.mk (hb); (try clear hb); (try clear hb2); (try clear hk); (try clear hi)) | ((with_reducible refine gate_callee (f := 22) rfl ?_); refine goesL_ (some 16) rfl rfl Tryd.func22 (by kernel_rfl) rfl #[.pointer (some ⟨g458, 0, none⟩), .int .i64 0, .int .i64 3] rfl (by (try simp only [List.map_toArray, List.map_cons, List.map_nil]); first | done | rfl | (simp only [List.length_drop, List.length_take]; rfl)) ?_; (with_reducible refine (exactpplmake_Src_Diagram.calls k g458 t455 t456 t457 0 3 t459 t462 t463 w _ ?side1 ?side2 A5.out).mono ?_); (case side1 => repeat (first | (with_reducible first | exact HI458.out | apply IsS58.alloc | apply IsS58.drewN | apply IsS58.drew | apply IsS58.set_1 | apply IsS58.set_2) | exact HI458.out)); (case side2 => repeat (first | (with_reducible first | exact HB.out | apply below_alloc | apply pw_below_drewN | apply below_drew1 | refine below_set ?_ (IsS58.ge HI458.out)) | exact HB.out)); rintro e w9 ⟨v460, rfl, ho0, hi, hb, hk⟩; refine ⟨_, rfl, ?_⟩; have HO461 := Aside0.mk (Kd.V_lower (Kd.V_mono (ok' := fun k_ => k_ ≠ g458) ho0 (fun k_ hk_ => (IsS58.fresh si_ k_ hk_))) (below_size bl_)); replace HB := Aside0.mk (hb); replace HI458 := Aside0.mk (hi); (try clear hb); (try clear hb2); (try clear hk); (try clear hi); (try clear ho0)) | ((with_reducible refine gate_dst (N := 8) rfl ?_); refine box_event ?hg (N := 8) ?hd (cs := #[.slice none 0 0]) (t := 31) ?hr ?_; (case hd => rfl); (case hg => rfl); (case hr => first | (go_simp; done) | (go_simp; rfl)); intro gb464 hg w10 hbox hb; have BK464 := Aside0.mk (hbox); have GW464 : Aside0 (w.heap.size ≤ gb464) := gw_ hg (below_size bl_); have GE464 := GW464; have NB458_464 := Aside0.mk ((by rw [hg]; exact Nat.ne_of_lt (IsS58.lt (show IsS58 w _ g458 t455 t462 t463 from si_)) : g458 ≠ gb464)); have NB464_458 := Aside0.mk ((by rw [hg]; exact Nat.ne_of_gt (IsS58.lt (show IsS58 w _ g458 t455 t462 t463 from si_)) : gb464 ≠ g458)); replace HO461 := Aside0.mk (Kd.V_below (Kd.V_elderB (pV_ HO461.out) gb464 (Nat.le_of_eq hg.symm)) hb); replace HI458 := Aside0.mk (IsS58.below si_ hb); replace HB := Aside0.mk (below_step bl_ hb); clear hb hbox hg; obtain ⟨Ao11, co11, eo11⟩ := Kd.V_slice HO461.out; subst eo11; have hnb12 := NB464_458.out; have hnc12 := NB458_464.out; obtain ⟨hcz13_0, hfz13_0⟩ := cf1_ BK464.out) | ((with_reducible refine gate_callee (f := 23) rfl ?_); refine goesL_ (some 18) rfl rfl Tryd.func23 (by kernel_rfl) rfl #[.pointer (some ⟨g458, 0, none⟩), .int .i64 8] rfl (by (try simp only [List.map_toArray, List.map_cons, List.map_nil]); first | done | rfl | (simp only [List.length_drop, List.length_take]; rfl)) ?_; (with_reducible refine (exactpplmake_Src_N.calls g458 t455 t462 t463 8 t465 t466 t467 w _ ?side1 ?side2 A6.out).mono ?_); (case side1 => repeat (first | (with_reducible first | exact HI458.out | apply IsS58.alloc | apply IsS58.drewN | apply IsS58.drew | apply IsS58.set_1 | apply IsS58.set_2 | refine IsS58.far ?_ NB458_464.out _) | exact HI458.out)); (case side2 => repeat (first | (with_reducible first | exact HB.out | apply below_alloc | apply pw_below_drewN | apply below_drew1 | refine below_set ?_ (IsS58.ge HI458.out) | refine below_set ?_ GE464.out) | exact HB.out)); rintro e w14 ⟨rfl, hi, hb, hk⟩; refine ⟨_, rfl, ?_⟩; replace HO461 := Aside0.mk (Kd.V_mono (Kd.V_keep (Kd.V_mono (ok := fun k_ => (k_ ≠ g458 ∧ k_ ≠ gb464)) (by (with_reducible repeat (first | apply Kd.V_alloc | apply Kd.V_drewN | apply Kd.V_drew)); exact (Kd.V_mono (Kd.V_far (p := ⟨gb464, 0, none⟩) (Kd.V_mono HO461.out (fun k_ hk => (⟨hk, by first | exact hk.2 | exact hk.1 | exact hk.2 | exact hk.1.1 | exact hk.1.2⟩ : _ ∧ k_ ≠ gb464))) (fun _ hk => hk.2) (.slice Ao11 t459.length co11)) (fun _ h_ => h_.1))) (fun k_ hk_ => (⟨hk_, hk_.1⟩ : _ ∧ k_ ≠ g458))) hk (fun _ h => h.2)) (fun _ h => h.1)); replace BK464 := Aside0.mk (KeepBut.blk hk (g' := gb464) (o := .cells #[.slice Ao11 t459.length co11] 31 (0, 0)) (by (with_reducible repeat (first | refine blk_drewN ?_ _ | refine blk_drew ?_ | refine blk_alloc ?_ _)); refine blk_put (cs := #[.slice none 0 0]) ?_ 0 _ rfl; (with_reducible repeat (first | refine blk_drewN ?_ _ | refine blk_drew ?_ | refine blk_alloc ?_ _)); exact BK464.out) NB464_458.out (by simp)); replace HB := Aside0.mk (hb); replace HI458 := Aside0.mk (hi); (try clear hb); (try clear hb2); (try clear hk); (try clear hi)))
 (try simp only [Act.put, List.setIfInBounds_toArray, List.set_cons_zero, List.set_cons_succ])
 go_cut [1, 2] (fun v1 v2 wc => ∃ (kq : Nat) (x1_6 : Int) (x2_6 : Int) (x465000_6 : List (S60)) (u465000 : Value), v1 = .int .i64 x1_6 ∧ v2 = .int .i64 x2_6 ∧ Aside0 (exactppllaw19_DiagramRestricts.j1 kq x1_6 x2_6 x465000_6 = some r) ∧ Aside0 (kq ≤ k) ∧ Aside0 (Kd.V k60 60 wc w.heap.size (fun k_ => k_ ≠ gb464) u465000 x465000_6) ∧ Aside0 (wc.heap[gb464]? = some (.cells #[u465000] 31 (0, 0))) ∧ Aside0 (Below w.heap.size w wc))
 case first =>
  have H := HC7.out
  clear HC7
  by_cases c15 : t465 = 0
  ·rw [if_pos c15] at H
   have c15b0 : (t465 == 0) = true := beq_iff_eq.mpr c15
   have c15b1 : (t465 != 0) = false := bne_eq_false_iff_eq.mpr c15
   clear c15
   (first | rw [c15b0] | (simp only [i64_w, i32_w]; rw [c15b0]) | skip)
   replace H := Option.bind_eq_some_iff.mp H
   obtain ⟨⟨t468, t471, t472⟩, A160, H⟩ := H
   replace H : (exactppllaw19_DiagramRestricts.j1 k a1 a2 t468) = some r := H
   have A16 := Aside0.mk A160
   clear A160
   have H' := Aside0.mk H
   clear H
   go_wp2_with (first | ((with_reducible refine gate_callee (f := 16) rfl ?_); refine goesL_ (some 22) rfl rfl Tryd.func16 (by kernel_rfl) rfl #[.pointer (some ⟨g458, 0, none⟩)] rfl (by (try simp only [List.map_toArray, List.map_cons, List.map_nil]); first | done | rfl | (simp only [List.length_drop, List.length_take]; rfl)) ?_; (with_reducible refine (exactpplmake_Src_Nodes.calls k g458 t455 t466 t467 t468 t471 t472 w _ ?side1 ?side2 A16.out).mono ?_); (case side1 => repeat (first | (with_reducible first | exact HI458.out | apply IsS58.alloc | apply IsS58.drewN | apply IsS58.drew | apply IsS58.set_1 | apply IsS58.set_2 | refine IsS58.far ?_ NB458_464.out _) | exact HI458.out)); (case side2 => repeat (first | (with_reducible first | exact HB.out | apply below_alloc | apply pw_below_drewN | apply below_drew1 | refine below_set ?_ (IsS58.ge HI458.out) | refine below_set ?_ GE464.out) | exact HB.out)); rintro e w17 ⟨v469, rfl, ho0, hi, hb, hk⟩; refine ⟨_, rfl, ?_⟩; have HO470 := Aside0.mk (Kd.S_lower ho0 (below_size bl_)); replace HO461 := Aside0.mk (Kd.V_mono (Kd.V_told (Kd.V_oldK (Kd.V_mono (ok := fun k_ => (k_ ≠ g458 ∧ k_ ≠ gb464)) (pV_ HO461.out) (fun k_ hk_ => (⟨hk_, hk_.1⟩ : _ ∧ k_ ≠ g458))) hk) (Kd.S_base ho0)) (fun _ h_ => h_.1)); replace BK464 := Aside0.mk (KeepBut.blk hk (g' := gb464) (o := .cells #[.slice Ao11 t459.length co11] 31 (0, 0)) bk_ NB464_458.out (by simp)); replace HB := Aside0.mk (hb); replace HI458 := Aside0.mk (hi); (try clear hb); (try clear hb2); (try clear hk); (try clear hi); (try clear ho0); obtain ⟨Ao18, co18, eo18⟩ := Kd.S_slice HO470.out; subst eo18; have hnb19 := NB464_458.out; have hnc19 := NB458_464.out; obtain ⟨hcz20_0, hfz20_0⟩ := cf1_ BK464.out))
   go_meet
   case rel => exact ⟨_, (a1), (a2), (t468), (.slice Ao18 t468.length co18), rs_, rs_, H', ⟨by first | omega | exact Nat.le_refl _⟩, ⟨Kd.S_V (by (with_reducible repeat (first | apply Kd.S_alloc | apply Kd.S_drewN | apply Kd.S_drew)); exact Kd.S_mono (Kd.S_far (p := ⟨gb464, 0, none⟩) (Kd.S_types (Kd.S_types HO470.out BK464.out (by decide)) BK464.out (by decide)) (fun _ hk => hk.2) (.slice Ao18 t468.length co18)) (fun _ hk => hk.1.2))⟩, ⟨by (with_reducible repeat (first | refine blk_drewN ?_ _ | refine blk_drew ?_ | refine blk_alloc ?_ _)); refine blk_put (cs := #[.slice Ao11 t459.length co11]) ?_ 0 _ rfl; (with_reducible repeat (first | refine blk_drewN ?_ _ | refine blk_drew ?_ | refine blk_alloc ?_ _)); exact BK464.out⟩, ⟨bl_⟩⟩
  ·rw [if_neg c15] at H
   have c15b0 : (t465 == 0) = false := beq_eq_false_iff_ne.mpr c15
   have c15b1 : (t465 != 0) = true := bne_iff_ne.mpr c15
   (first | rw [c15b0] | (simp only [i64_w, i32_w]; rw [c15b0]) | skip)
   have HC21 := Aside0.mk H
   clear H
   go_upto_if 24 with (fail)
   go_cut [24] (fun v24 wc => ∃ (kq : Nat) (x24_20 : Bool), v24 = .bool x24_20 ∧ Aside0 (exactppllaw19_DiagramRestricts.j0 kq a1 a2 x24_20 t455 t466 t467 t459 = some r) ∧ Aside0 (kq ≤ k) ∧ Aside0 (Kd.V k60 60 wc w.heap.size (fun k_ => k_ ≠ gb464 ∧ k_ ≠ g458) (.slice Ao11 t459.length co11) t459) ∧ Aside0 (wc.heap[gb464]? = some (.cells #[(.slice Ao11 t459.length co11)] 31 (0, 0))) ∧ Aside0 (IsS58 w wc g458 t455 t466 t467) ∧ Aside0 (Below w.heap.size w wc))
   case first =>
    have H := HC21.out
    clear HC21
    by_cases c22 : t465 = 1
    ·rw [if_pos c22] at H
     have c22b0 : (t465 == 1) = true := beq_iff_eq.mpr c22
     have c22b1 : (t465 != 1) = false := bne_eq_false_iff_eq.mpr c22
     clear c22
     (first | rw [c22b0] | (simp only [i64_w, i32_w]; rw [c22b0]) | skip)
     have H' := Aside0.mk H
     clear H
     go_wp2
     go_meet
     case rel => exact ⟨_, ((t465 == 1)), rs_, H', ⟨by first | omega | exact Nat.le_refl _⟩, ⟨by (with_reducible repeat (first | apply Kd.V_alloc | apply Kd.V_drewN | apply Kd.V_drew)); exact Kd.V_mono HO461.out (fun _ hk => ⟨hk.2, hk.1⟩)⟩, ⟨bk_⟩, ⟨si_⟩, ⟨bl_⟩⟩
    ·rw [if_neg c22] at H
     have c22b0 : (t465 == 1) = false := beq_eq_false_iff_ne.mpr c22
     have c22b1 : (t465 != 1) = true := bne_iff_ne.mpr c22
     (first | rw [c22b0] | (simp only [i64_w, i32_w]; rw [c22b0]) | skip)
     by_cases c23 : t465 = 2
     ·rw [if_pos c23] at H
      have c23b0 : (t465 == 2) = true := beq_iff_eq.mpr c23
      have c23b1 : (t465 != 2) = false := bne_eq_false_iff_eq.mpr c23
      clear c23
      have H' := Aside0.mk H
      clear H
      go_wp2
      go_meet
      case rel => exact ⟨_, ((t465 == 2)), rs_, H', ⟨by first | omega | exact Nat.le_refl _⟩, ⟨by (with_reducible repeat (first | apply Kd.V_alloc | apply Kd.V_drewN | apply Kd.V_drew)); exact Kd.V_mono HO461.out (fun _ hk => ⟨hk.2, hk.1⟩)⟩, ⟨bk_⟩, ⟨si_⟩, ⟨bl_⟩⟩
     ·rw [if_neg c23] at H
      have c23b0 : (t465 == 2) = false := beq_eq_false_iff_ne.mpr c23
      have c23b1 : (t465 != 2) = true := bne_iff_ne.mpr c23
      by_cases c24 : t465 = 3
      ·rw [if_pos c24] at H
       have c24b0 : (t465 == 3) = true := beq_iff_eq.mpr c24
       have c24b1 : (t465 != 3) = false := bne_eq_false_iff_eq.mpr c24
       clear c24
       have H' := Aside0.mk H
       clear H
       go_wp2
       go_meet
       case rel => exact ⟨_, ((t465 == 3)), rs_, H', ⟨by first | omega | exact Nat.le_refl _⟩, ⟨by (with_reducible repeat (first | apply Kd.V_alloc | apply Kd.V_drewN | apply Kd.V_drew)); exact Kd.V_mono HO461.out (fun _ hk => ⟨hk.2, hk.1⟩)⟩, ⟨bk_⟩, ⟨si_⟩, ⟨bl_⟩⟩
      ·rw [if_neg c24] at H
       have c24b0 : (t465 == 3) = false := beq_eq_false_iff_ne.mpr c24
       have c24b1 : (t465 != 3) = true := bne_iff_ne.mpr c24
       have H' := Aside0.mk H
       clear H
       go_wp2
       go_meet
       case rel => exact ⟨_, ((t465 == 4)), rs_, H', ⟨by first | omega | exact Nat.le_refl _⟩, ⟨by (with_reducible repeat (first | apply Kd.V_alloc | apply Kd.V_drewN | apply Kd.V_drew)); exact Kd.V_mono HO461.out (fun _ hk => ⟨hk.2, hk.1⟩)⟩, ⟨bk_⟩, ⟨si_⟩, ⟨bl_⟩⟩
   case rest =>
    clear HC21
    try clear c1
    try clear c2
    try clear p2
    try clear c8
    try clear c12
    try clear c15
    try clear c15b0
    try clear c15b1
    try clear c16
    try clear c19
    try clear c22
    try clear c22b0
    try clear c22b1
    try clear c23
    try clear c23b0
    try clear c23b1
    try clear c24
    try clear c24b0
    try clear c24b1
    try clear hcz13_0 hfz13_0
    try clear hcz20_0 hfz20_0
    obtain ⟨kq, x24_20, rfl, HA, HJ20, HO_465000, BK464, HI458, HB⟩ := hcut
    cases kq with
    | zero => exact absurd HA.out (by simp [exactppllaw19_DiagramRestricts.j0])
    | succ kj20 =>
     have H := HA.out
     clear HA
     simp only [exactppllaw19_DiagramRestricts.j0] at H
     by_cases c25 : x24_20 = true
     ·subst c25
      have H1 : ((exactpplmake_Src_Range.f t455 t466 t467 (-1) 4).bind fun bt473 => ((exactpplmake_Src_Range.f t455 bt473.2.1 bt473.2.2 (-1) 3).bind fun bt476 => (exactppllaw19_DiagramRestricts.j1 kj20 bt473.1 bt476.1 t459))) = some r := by rw [if_pos rfl] at H; exact H
      clear H
      have H := H1
      clear H1
      replace H := Option.bind_eq_some_iff.mp H
      obtain ⟨⟨t473, t474, t475⟩, A260, H⟩ := H
      replace H : ((exactpplmake_Src_Range.f t455 t474 t475 (-1) 3).bind fun bt476 => (exactppllaw19_DiagramRestricts.j1 kj20 t473 bt476.1 t459)) = some r := H
      have A26 := Aside0.mk A260
      clear A260
      replace H := Option.bind_eq_some_iff.mp H
      obtain ⟨⟨t476, t477, t478⟩, A270, H⟩ := H
      replace H : (exactppllaw19_DiagramRestricts.j1 kj20 t473 t476 t459) = some r := H
      have A27 := Aside0.mk A270
      clear A270
      have H' := Aside0.mk H
      clear H
      go_wp2_with (first | ((with_reducible refine gate_callee (f := 25) rfl ?_); refine goesL_ (some 30) rfl rfl Tryd.func25 (by kernel_rfl) rfl #[.pointer (some ⟨g458, 0, none⟩), .int .i64 (-1), .int .i64 4] rfl (by (try simp only [List.map_toArray, List.map_cons, List.map_nil]); first | done | rfl | (simp only [List.length_drop, List.length_take]; rfl)) ?_; (with_reducible refine (exactpplmake_Src_Range.calls g458 t455 t466 t467 (-1) 4 t473 t474 t475 w _ ?side1 ?side2 A26.out).mono ?_); (case side1 => repeat (first | (with_reducible first | exact HI458.out | apply IsS58.alloc | apply IsS58.drewN | apply IsS58.drew | apply IsS58.set_1 | apply IsS58.set_2 | refine IsS58.far ?_ NB458_464.out _) | exact HI458.out)); (case side2 => repeat (first | (with_reducible first | exact HB.out | apply below_alloc | apply pw_below_drewN | apply below_drew1 | refine below_set ?_ (IsS58.ge HI458.out) | refine below_set ?_ GE464.out) | exact HB.out)); rintro e w28 ⟨rfl, hi, hb, hk⟩; refine ⟨_, rfl, ?_⟩; replace HO_465000 := Aside0.mk (Kd.V_mono (Kd.V_keep (Kd.V_mono (ok := fun k_ => (k_ ≠ gb464 ∧ k_ ≠ g458)) (pV_ HO_465000.out) (fun k_ hk_ => (⟨hk_, hk_.2⟩ : _ ∧ k_ ≠ g458))) hk (fun _ h => h.2)) (fun _ h => h.1)); replace BK464 := Aside0.mk (KeepBut.blk hk (g' := gb464) (o := .cells #[.slice Ao11 t459.length co11] 31 (0, 0)) bk_ NB464_458.out (by simp)); replace HB := Aside0.mk (hb); replace HI458 := Aside0.mk (hi); (try clear hb); (try clear hb2); (try clear hk); (try clear hi)) | ((with_reducible refine gate_callee (f := 25) rfl ?_); refine goesL_ (some 32) rfl rfl Tryd.func25 (by kernel_rfl) rfl #[.pointer (some ⟨g458, 0, none⟩), .int .i64 (-1), .int .i64 3] rfl (by (try simp only [List.map_toArray, List.map_cons, List.map_nil]); first | done | rfl | (simp only [List.length_drop, List.length_take]; rfl)) ?_; (with_reducible refine (exactpplmake_Src_Range.calls g458 t455 t474 t475 (-1) 3 t476 t477 t478 w _ ?side1 ?side2 A27.out).mono ?_); (case side1 => repeat (first | (with_reducible first | exact HI458.out | apply IsS58.alloc | apply IsS58.drewN | apply IsS58.drew | apply IsS58.set_1 | apply IsS58.set_2 | refine IsS58.far ?_ NB458_464.out _) | exact HI458.out)); (case side2 => repeat (first | (with_reducible first | exact HB.out | apply below_alloc | apply pw_below_drewN | apply below_drew1 | refine below_set ?_ (IsS58.ge HI458.out) | refine below_set ?_ GE464.out) | exact HB.out)); rintro e w29 ⟨rfl, hi, hb, hk⟩; refine ⟨_, rfl, ?_⟩; replace HO_465000 := Aside0.mk (Kd.V_mono (Kd.V_keep (Kd.V_mono (ok := fun k_ => (k_ ≠ gb464 ∧ k_ ≠ g458)) (pV_ HO_465000.out) (fun k_ hk_ => (⟨hk_, hk_.2⟩ : _ ∧ k_ ≠ g458))) hk (fun _ h => h.2)) (fun _ h => h.1)); replace BK464 := Aside0.mk (KeepBut.blk hk (g' := gb464) (o := .cells #[.slice Ao11 t459.length co11] 31 (0, 0)) bk_ NB464_458.out (by simp)); replace HB := Aside0.mk (hb); replace HI458 := Aside0.mk (hi); (try clear hb); (try clear hb2); (try clear hk); (try clear hi)))
      go_meet
      case rel => exact ⟨_, (t473), (t476), (t459), (.slice Ao11 t459.length co11), rs_, rs_, H', ⟨by have := HJ20.out; first | omega | exact Nat.le_refl _⟩, ⟨by (with_reducible repeat (first | apply Kd.V_alloc | apply Kd.V_drewN | apply Kd.V_drew)); exact Kd.V_mono HO_465000.out (fun _ hk => hk.1)⟩, ⟨bk_⟩, ⟨bl_⟩⟩
     ·replace c25 := Bool.eq_false_iff.mpr c25
      subst c25
      have H1 : (exactppllaw19_DiagramRestricts.j1 kj20 a1 a2 t459) = some r := by rw [if_neg (show ¬ (false = true) by decide)] at H; exact H
      clear H
      have H := H1
      clear H1
      have H' := Aside0.mk H
      clear H
      go_wp2
      go_meet
      case rel => exact ⟨_, (a1), (a2), (t459), (.slice Ao11 t459.length co11), rs_, rs_, H', ⟨by have := HJ20.out; first | omega | exact Nat.le_refl _⟩, ⟨by (with_reducible repeat (first | apply Kd.V_alloc | apply Kd.V_drewN | apply Kd.V_drew)); exact Kd.V_mono HO_465000.out (fun _ hk => hk.1)⟩, ⟨bk_⟩, ⟨bl_⟩⟩
 case rest =>
  clear HC7
  try clear c1
  try clear c2
  try clear p2
  try clear c8
  try clear c12
  try clear c15
  try clear c15b0
  try clear c15b1
  try clear c16
  try clear c19
  try clear c22
  try clear c22b0
  try clear c22b1
  try clear c23
  try clear c23b0
  try clear c23b1
  try clear c24
  try clear c24b0
  try clear c24b1
  try clear c25
  try clear hcz13_0 hfz13_0
  try clear hcz20_0 hfz20_0
  try clear p2
  obtain ⟨kq, x1_6, x2_6, x465000_6, u465000, rfl, rfl, HA, HJ6, HO_465000, BK464, HB⟩ := hcut
  cases kq with
  | zero => exact absurd HA.out (by simp [exactppllaw19_DiagramRestricts.j1])
  | succ kj6 =>
   have H := HA.out
   clear HA
   simp only [exactppllaw19_DiagramRestricts.j1] at H
   replace H := Option.bind_eq_some_iff.mp H
   obtain ⟨⟨t479, t482⟩, A300, H⟩ := H
   replace H : ((exactpplref19_Restrict.f kj6 x465000_6 x1_6 x2_6).bind fun bt484 => (if t482 = bt484.2 then ((exactpplref19_Same.f kj6 t479 bt484.1).bind fun t489 => (if t489 = true then ((exactppllaw19_awake.f).bind fun t490 => (some t490)) else (some false))) else (some false))) = some r := H
   have A30 := Aside0.mk A300
   clear A300
   replace H := Option.bind_eq_some_iff.mp H
   obtain ⟨⟨t484, t487⟩, A310, H⟩ := H
   replace H : (if t482 = t487 then ((exactpplref19_Same.f kj6 t479 t484).bind fun t489 => (if t489 = true then ((exactppllaw19_awake.f).bind fun t490 => (some t490)) else (some false))) else (some false)) = some r := H
   have A31 := Aside0.mk A310
   clear A310
   by_cases c32 : t482 = t487
   ·rw [if_pos c32] at H
    have c32b0 : (t482 == t487) = true := beq_iff_eq.mpr c32
    have c32b1 : (t482 != t487) = false := bne_eq_false_iff_eq.mpr c32
    clear c32
    replace H := Option.bind_eq_some_iff.mp H
    obtain ⟨t489, A330, H⟩ := H
    replace H : (if t489 = true then ((exactppllaw19_awake.f).bind fun t490 => (some t490)) else (some false)) = some r := H
    have A33 := Aside0.mk A330
    clear A330
    by_cases c34 : t489 = true
    ·subst c34
     have H1 : ((exactppllaw19_awake.f).bind fun t490 => (some t490)) = some r := by rw [if_pos rfl] at H; exact H
     clear H
     have H := H1
     clear H1
     replace H := Option.bind_eq_some_iff.mp H
     obtain ⟨t490, A350, H⟩ := H
     replace H : (some t490) = some r := H
     have A35 := Aside0.mk A350
     clear A350
     obtain rfl := Option.some.inj H
     obtain ⟨hcz36_0, hfz36_0⟩ := cf1_ BK464.out
     obtain ⟨Ao37, co37, eo37⟩ := Kd.V_slice HO_465000.out
     subst eo37
     go_wp2_with (first | ((with_reducible refine gate_callee (f := 30) rfl ?_); refine goesL_ (some 37) rfl rfl Tryd.func30 (by kernel_rfl) rfl #[.agg #[.slice Ao37 x465000_6.length co37], .int .i64 x1_6, .int .i64 x2_6] rfl (by (try simp only [List.map_toArray, List.map_cons, List.map_nil]); first | done | rfl | (simp only [List.length_drop, List.length_take]; rfl)) ?_; (with_reducible refine (diagram_Restrict.calls _ _ x465000_6 x1_6 x2_6 t479 t482 _ ?side1 ?side2 A30.out ?tab).mono ?_); (case tab => exact ptab HTAB.out bl_); (case side1 => repeat (first | exact (Kd.V_reads' HO_465000.out).2.2 | (with_reducible refine Kd.C_alloc ?_ _) | (with_reducible refine Kd.C_drewN ?_ _) | (with_reducible refine Kd.C_drew ?_))); (case side2 => exact (Kd.V_reads' HO_465000.out).2.1); rintro e w38 ⟨v480, rfl, ho0, hb⟩; refine ⟨_, rfl, ?_⟩; have HO481 := Aside0.mk (Kd.V_lower (Kd.V_mono (ok' := fun k_ => k_ ≠ gb464) ho0 (fun k_ hk_ => (Kd.freshB (g := gb464) (o := .cells #[.slice Ao37 x465000_6.length co37] 31 (0, 0)) bk_ k_ hk_))) (below_size bl_)); replace HO_465000 := Aside0.mk (Kd.V_below (pV_ HO_465000.out) hb); replace BK464 := Aside0.mk (blk_below (g := gb464) (o := .cells #[.slice Ao37 x465000_6.length co37] 31 (0, 0)) bk_ hb); replace HB := Aside0.mk (below_step bl_ hb); (try clear hb); (try clear hb2); (try clear hk); (try clear hi); (try clear ho0)) | ((with_reducible refine gate_dst (N := 9) rfl ?_); refine box_event ?hg (N := 9) ?hd (cs := #[.slice none 0 0]) (t := 31) ?hr ?_; (case hd => rfl); (case hg => rfl); (case hr => first | (go_simp; done) | (go_simp; rfl)); intro gb483 hg w39 hbox hb; have BK483 := Aside0.mk (hbox); have GW483 : Aside0 (w.heap.size ≤ gb483) := gw_ hg (below_size bl_); have GE483 := GW483; have NB464_483 := Aside0.mk ((by rw [hg]; exact Nat.ne_of_lt (blk_lt (g := gb464) (o := .cells #[.slice Ao37 x465000_6.length co37] 31 (0, 0)) bk_) : gb464 ≠ gb483)); have NB483_464 := Aside0.mk ((by rw [hg]; exact Nat.ne_of_gt (blk_lt (g := gb464) (o := .cells #[.slice Ao37 x465000_6.length co37] 31 (0, 0)) bk_) : gb483 ≠ gb464)); replace HO_465000 := Aside0.mk (Kd.V_below (Kd.V_elderB (pV_ HO_465000.out) gb483 (Nat.le_of_eq hg.symm)) hb); replace HO481 := Aside0.mk (Kd.V_below (Kd.V_elderB (pV_ HO481.out) gb483 (Nat.le_of_eq hg.symm)) hb); replace BK464 := Aside0.mk (blk_below (g := gb464) (o := .cells #[.slice Ao37 x465000_6.length co37] 31 (0, 0)) bk_ hb); replace HB := Aside0.mk (below_step bl_ hb); clear hb hbox hg; obtain ⟨Ao40, co40, eo40⟩ := Kd.V_slice HO481.out; subst eo40; have hnb41 := NB483_464.out; have hnc41 := NB464_483.out; obtain ⟨hcz42_0, hfz42_0⟩ := cf1_ BK483.out; obtain ⟨hcz43_0, hfz43_0⟩ := cf1_ BK464.out) | ((with_reducible refine gate_callee (f := 31) rfl ?_); refine goesL_ (some 44) rfl rfl Tryd.func31 (by kernel_rfl) rfl #[.agg #[.slice Ao37 x465000_6.length co37], .int .i64 x1_6, .int .i64 x2_6] rfl (by (try simp only [List.map_toArray, List.map_cons, List.map_nil]); first | done | rfl | (simp only [List.length_drop, List.length_take]; rfl)) ?_; (with_reducible refine (exactpplref19_Restrict.calls kj6 _ _ x465000_6 x1_6 x2_6 t484 t487 _ ?side1 ?side2 A31.out).mono ?_); (case side1 => refine (Kd.V_reads' (e := 60) (base := w.heap.size) (ok := fun k_ => (k_ ≠ gb464 ∧ k_ ≠ gb483)) (n := x465000_6.length) (c := co37) ?_).2.2; exact (by (with_reducible repeat (first | apply Kd.V_alloc | apply Kd.V_drewN | apply Kd.V_drew)); exact (Kd.V_mono (Kd.V_far (p := ⟨gb483, 0, none⟩) (Kd.V_mono HO_465000.out (fun k_ hk => (⟨hk, by first | exact hk.2 | exact hk.1 | exact hk.2 | exact hk.1.1 | exact hk.1.2⟩ : _ ∧ k_ ≠ gb483))) (fun _ hk => hk.2) (.slice Ao40 t479.length co40)) (fun _ h_ => h_.1)))); (case side2 => exact (Kd.V_reads' HO_465000.out).2.1); rintro e w44 ⟨v485, rfl, ho0, hb⟩; refine ⟨_, rfl, ?_⟩; have HO486 := Aside0.mk (Kd.V_lower (Kd.V_mono (ok' := fun k_ => k_ ≠ gb464 ∧ k_ ≠ gb483) ho0 (fun k_ hk_ => ⟨(Kd.freshB (g := gb464) (o := .cells #[.slice Ao37 x465000_6.length co37] 31 (0, 0)) (by (with_reducible repeat (first | refine blk_drewN ?_ _ | refine blk_drew ?_ | refine blk_alloc ?_ _)); refine blk_far ?_ NB464_483.out _; (with_reducible repeat (first | refine blk_drewN ?_ _ | refine blk_drew ?_ | refine blk_alloc ?_ _)); exact BK464.out) k_ hk_), (Kd.freshB (g := gb483) (o := .cells #[.slice Ao40 t479.length co40] 31 (0, 0)) (by (with_reducible repeat (first | refine blk_drewN ?_ _ | refine blk_drew ?_ | refine blk_alloc ?_ _)); refine blk_put (cs := #[.slice none 0 0]) ?_ 0 _ rfl; (with_reducible repeat (first | refine blk_drewN ?_ _ | refine blk_drew ?_ | refine blk_alloc ?_ _)); exact BK483.out) k_ hk_)⟩)) (below_size bl_)); replace HO_465000 := Aside0.mk (Kd.V_below (by (with_reducible repeat (first | apply Kd.V_alloc | apply Kd.V_drewN | apply Kd.V_drew)); exact (Kd.V_mono (Kd.V_far (p := ⟨gb483, 0, none⟩) (Kd.V_mono HO_465000.out (fun k_ hk => (⟨hk, by first | exact hk.2 | exact hk.1 | exact hk.2 | exact hk.1.1 | exact hk.1.2⟩ : _ ∧ k_ ≠ gb483))) (fun _ hk => hk.2) (.slice Ao40 t479.length co40)) (fun _ h_ => h_.1))) hb); replace HO481 := Aside0.mk (Kd.V_below (by (with_reducible repeat (first | apply Kd.V_alloc | apply Kd.V_drewN | apply Kd.V_drew)); exact (Kd.V_mono (Kd.V_far (p := ⟨gb483, 0, none⟩) (Kd.V_mono HO481.out (fun k_ hk => (⟨hk, by first | exact hk.2 | exact hk.1 | exact hk.2 | exact hk.1.1 | exact hk.1.2⟩ : _ ∧ k_ ≠ gb483))) (fun _ hk => hk.2) (.slice Ao40 t479.length co40)) (fun _ h_ => h_.1))) hb); replace BK464 := Aside0.mk (blk_below (g := gb464) (o := .cells #[.slice Ao37 x465000_6.length co37] 31 (0, 0)) (by (with_reducible repeat (first | refine blk_drewN ?_ _ | refine blk_drew ?_ | refine blk_alloc ?_ _)); refine blk_far ?_ NB464_483.out _; (with_reducible repeat (first | refine blk_drewN ?_ _ | refine blk_drew ?_ | refine blk_alloc ?_ _)); exact BK464.out) hb); replace BK483 := Aside0.mk (blk_below (g := gb483) (o := .cells #[.slice Ao40 t479.length co40] 31 (0, 0)) (by (with_reducible repeat (first | refine blk_drewN ?_ _ | refine blk_drew ?_ | refine blk_alloc ?_ _)); refine blk_put (cs := #[.slice none 0 0]) ?_ 0 _ rfl; (with_reducible repeat (first | refine blk_drewN ?_ _ | refine blk_drew ?_ | refine blk_alloc ?_ _)); exact BK483.out) hb); replace HB := Aside0.mk (below_step bl_ hb); (try clear hb); (try clear hb2); (try clear hk); (try clear hi); (try clear ho0)) | ((with_reducible refine gate_dst (N := 11) rfl ?_); refine box_event ?hg (N := 11) ?hd (cs := #[.slice none 0 0]) (t := 31) ?hr ?_; (case hd => rfl); (case hg => rfl); (case hr => first | (go_simp; done) | (go_simp; rfl)); intro gb488 hg w45 hbox hb; have BK488 := Aside0.mk (hbox); have GW488 : Aside0 (w.heap.size ≤ gb488) := gw_ hg (below_size bl_); have GE488 := GW488; have NB464_488 := Aside0.mk ((by rw [hg]; exact Nat.ne_of_lt (blk_lt (g := gb464) (o := .cells #[.slice Ao37 x465000_6.length co37] 31 (0, 0)) bk_) : gb464 ≠ gb488)); have NB488_464 := Aside0.mk ((by rw [hg]; exact Nat.ne_of_gt (blk_lt (g := gb464) (o := .cells #[.slice Ao37 x465000_6.length co37] 31 (0, 0)) bk_) : gb488 ≠ gb464)); have NB483_488 := Aside0.mk ((by rw [hg]; exact Nat.ne_of_lt (blk_lt (g := gb483) (o := .cells #[.slice Ao40 t479.length co40] 31 (0, 0)) bk_) : gb483 ≠ gb488)); have NB488_483 := Aside0.mk ((by rw [hg]; exact Nat.ne_of_gt (blk_lt (g := gb483) (o := .cells #[.slice Ao40 t479.length co40] 31 (0, 0)) bk_) : gb488 ≠ gb483)); replace HO_465000 := Aside0.mk (Kd.V_below (Kd.V_elderB (pV_ HO_465000.out) gb488 (Nat.le_of_eq hg.symm)) hb); replace HO481 := Aside0.mk (Kd.V_below (Kd.V_elderB (pV_ HO481.out) gb488 (Nat.le_of_eq hg.symm)) hb); replace HO486 := Aside0.mk (Kd.V_below (Kd.V_elderB (pV_ HO486.out) gb488 (Nat.le_of_eq hg.symm)) hb); replace BK464 := Aside0.mk (blk_below (g := gb464) (o := .cells #[.slice Ao37 x465000_6.length co37] 31 (0, 0)) bk_ hb); replace BK483 := Aside0.mk (blk_below (g := gb483) (o := .cells #[.slice Ao40 t479.length co40] 31 (0, 0)) bk_ hb); replace HB := Aside0.mk (below_step bl_ hb); clear hb hbox hg; obtain ⟨Ao46, co46, eo46⟩ := Kd.V_slice HO486.out; subst eo46; have hnb47 := NB488_464.out; have hnc47 := NB464_488.out; have hnb48 := NB488_483.out; have hnc48 := NB483_488.out; obtain ⟨hcz49_0, hfz49_0⟩ := cf1_ BK488.out; obtain ⟨hcz50_0, hfz50_0⟩ := cf1_ BK483.out) | (go_at_call 20; (with_reducible refine (exactpplref19_Same.calls kj6 _ _ t479 _ _ t484 true _ ?side1 ?side2 ?side3 ?side4 A33.out).mono ?_); (case side1 => refine (Kd.V_reads' (e := 60) (base := w.heap.size) (ok := fun k_ => ((k_ ≠ gb464 ∧ k_ ≠ gb483) ∧ k_ ≠ gb488)) (n := t479.length) (c := co40) ?_).2.2; exact (by (with_reducible repeat (first | apply Kd.V_alloc | apply Kd.V_drewN | apply Kd.V_drew)); exact (Kd.V_mono (Kd.V_far (p := ⟨gb488, 0, none⟩) (Kd.V_mono HO481.out (fun k_ hk => (⟨hk, by first | exact hk.2 | exact hk.1 | exact hk.2 | exact hk.1.1 | exact hk.1.2⟩ : _ ∧ k_ ≠ gb488))) (fun _ hk => hk.2) (.slice Ao46 t484.length co46)) (fun _ h_ => h_.1)))); (case side2 => exact (Kd.V_reads' HO481.out).2.1); (case side3 => refine (Kd.V_reads' (e := 60) (base := w.heap.size) (ok := fun k_ => ((k_ ≠ gb464 ∧ k_ ≠ gb483) ∧ k_ ≠ gb488)) (n := t484.length) (c := co46) ?_).2.2; exact (by (with_reducible repeat (first | apply Kd.V_alloc | apply Kd.V_drewN | apply Kd.V_drew)); exact (Kd.V_mono (Kd.V_far (p := ⟨gb488, 0, none⟩) (Kd.V_mono HO486.out (fun k_ hk => (⟨hk, by first | exact hk.2 | exact hk.1 | exact hk.2 | exact hk.1.1 | exact hk.1.2⟩ : _ ∧ k_ ≠ gb488))) (fun _ hk => hk.2) (.slice Ao46 t484.length co46)) (fun _ h_ => h_.1)))); (case side4 => exact (Kd.V_reads' HO486.out).2.1); rintro e w51 ⟨rfl, hb⟩; replace HO_465000 := Aside0.mk (Kd.V_below (by (with_reducible repeat (first | apply Kd.V_alloc | apply Kd.V_drewN | apply Kd.V_drew)); exact (Kd.V_mono (Kd.V_far (p := ⟨gb488, 0, none⟩) (Kd.V_mono HO_465000.out (fun k_ hk => (⟨hk, by first | exact hk.2 | exact hk.1 | exact hk.2 | exact hk.1.1 | exact hk.1.2⟩ : _ ∧ k_ ≠ gb488))) (fun _ hk => hk.2) (.slice Ao46 t484.length co46)) (fun _ h_ => h_.1))) hb); replace HO481 := Aside0.mk (Kd.V_below (by (with_reducible repeat (first | apply Kd.V_alloc | apply Kd.V_drewN | apply Kd.V_drew)); exact (Kd.V_mono (Kd.V_far (p := ⟨gb488, 0, none⟩) (Kd.V_mono HO481.out (fun k_ hk => (⟨hk, by first | exact hk.2 | exact hk.1 | exact hk.2 | exact hk.1.1 | exact hk.1.2⟩ : _ ∧ k_ ≠ gb488))) (fun _ hk => hk.2) (.slice Ao46 t484.length co46)) (fun _ h_ => h_.1))) hb); replace HO486 := Aside0.mk (Kd.V_below (by (with_reducible repeat (first | apply Kd.V_alloc | apply Kd.V_drewN | apply Kd.V_drew)); exact (Kd.V_mono (Kd.V_far (p := ⟨gb488, 0, none⟩) (Kd.V_mono HO486.out (fun k_ hk => (⟨hk, by first | exact hk.2 | exact hk.1 | exact hk.2 | exact hk.1.1 | exact hk.1.2⟩ : _ ∧ k_ ≠ gb488))) (fun _ hk => hk.2) (.slice Ao46 t484.length co46)) (fun _ h_ => h_.1))) hb); replace BK464 := Aside0.mk (blk_below (g := gb464) (o := .cells #[.slice Ao37 x465000_6.length co37] 31 (0, 0)) (by (with_reducible repeat (first | refine blk_drewN ?_ _ | refine blk_drew ?_ | refine blk_alloc ?_ _)); refine blk_far ?_ NB464_488.out _; (with_reducible repeat (first | refine blk_drewN ?_ _ | refine blk_drew ?_ | refine blk_alloc ?_ _)); exact BK464.out) hb); replace BK483 := Aside0.mk (blk_below (g := gb483) (o := .cells #[.slice Ao40 t479.length co40] 31 (0, 0)) (by (with_reducible repeat (first | refine blk_drewN ?_ _ | refine blk_drew ?_ | refine blk_alloc ?_ _)); refine blk_far ?_ NB483_488.out _; (with_reducible repeat (first | refine blk_drewN ?_ _ | refine blk_drew ?_ | refine blk_alloc ?_ _)); exact BK483.out) hb); replace BK488 := Aside0.mk (blk_below (g := gb488) (o := .cells #[.slice Ao46 t484.length co46] 31 (0, 0)) (by (with_reducible repeat (first | refine blk_drewN ?_ _ | refine blk_drew ?_ | refine blk_alloc ?_ _)); refine blk_put (cs := #[.slice none 0 0]) ?_ 0 _ rfl; (with_reducible repeat (first | refine blk_drewN ?_ _ | refine blk_drew ?_ | refine blk_alloc ?_ _)); exact BK488.out) hb); replace HB := Aside0.mk (below_step bl_ hb); (try clear hb); (try clear hb2); (try clear hk); (try clear hi)) | (go_at_call 17; (with_reducible refine (exactppllaw19_awake.calls  t490 _ A35.out ?tab).mono ?_); (case tab => exact ptab HTAB.out bl_); rintro e w52 ⟨rfl, hb⟩; replace HO_465000 := Aside0.mk (Kd.V_below (pV_ HO_465000.out) hb); replace HO481 := Aside0.mk (Kd.V_below (pV_ HO481.out) hb); replace HO486 := Aside0.mk (Kd.V_below (pV_ HO486.out) hb); replace BK464 := Aside0.mk (blk_below (g := gb464) (o := .cells #[.slice Ao37 x465000_6.length co37] 31 (0, 0)) bk_ hb); replace BK483 := Aside0.mk (blk_below (g := gb483) (o := .cells #[.slice Ao40 t479.length co40] 31 (0, 0)) bk_ hb); replace BK488 := Aside0.mk (blk_below (g := gb488) (o := .cells #[.slice Ao46 t484.length co46] 31 (0, 0)) bk_ hb); replace HB := Aside0.mk (below_step bl_ hb); (try clear hb); (try clear hb2); (try clear hk); (try clear hi)))
     go_ret
     exact ⟨re_, bl_⟩
    ·replace c34 := Bool.eq_false_iff.mpr c34
     subst c34
     have H1 : (some false) = some r := by rw [if_neg (show ¬ (false = true) by decide)] at H; exact H
     clear H
     have H := H1
     clear H1
     obtain rfl := Option.some.inj H
     obtain ⟨hcz53_0, hfz53_0⟩ := cf1_ BK464.out
     obtain ⟨Ao54, co54, eo54⟩ := Kd.V_slice HO_465000.out
     subst eo54
     go_wp2_with (first | ((with_reducible refine gate_callee (f := 30) rfl ?_); refine goesL_ (some 37) rfl rfl Tryd.func30 (by kernel_rfl) rfl #[.agg #[.slice Ao54 x465000_6.length co54], .int .i64 x1_6, .int .i64 x2_6] rfl (by (try simp only [List.map_toArray, List.map_cons, List.map_nil]); first | done | rfl | (simp only [List.length_drop, List.length_take]; rfl)) ?_; (with_reducible refine (diagram_Restrict.calls _ _ x465000_6 x1_6 x2_6 t479 t482 _ ?side1 ?side2 A30.out ?tab).mono ?_); (case tab => exact ptab HTAB.out bl_); (case side1 => repeat (first | exact (Kd.V_reads' HO_465000.out).2.2 | (with_reducible refine Kd.C_alloc ?_ _) | (with_reducible refine Kd.C_drewN ?_ _) | (with_reducible refine Kd.C_drew ?_))); (case side2 => exact (Kd.V_reads' HO_465000.out).2.1); rintro e w55 ⟨v480, rfl, ho0, hb⟩; refine ⟨_, rfl, ?_⟩; have HO481 := Aside0.mk (Kd.V_lower (Kd.V_mono (ok' := fun k_ => k_ ≠ gb464) ho0 (fun k_ hk_ => (Kd.freshB (g := gb464) (o := .cells #[.slice Ao54 x465000_6.length co54] 31 (0, 0)) bk_ k_ hk_))) (below_size bl_)); replace HO_465000 := Aside0.mk (Kd.V_below (pV_ HO_465000.out) hb); replace BK464 := Aside0.mk (blk_below (g := gb464) (o := .cells #[.slice Ao54 x465000_6.length co54] 31 (0, 0)) bk_ hb); replace HB := Aside0.mk (below_step bl_ hb); (try clear hb); (try clear hb2); (try clear hk); (try clear hi); (try clear ho0)) | ((with_reducible refine gate_dst (N := 9) rfl ?_); refine box_event ?hg (N := 9) ?hd (cs := #[.slice none 0 0]) (t := 31) ?hr ?_; (case hd => rfl); (case hg => rfl); (case hr => first | (go_simp; done) | (go_simp; rfl)); intro gb483 hg w56 hbox hb; have BK483 := Aside0.mk (hbox); have GW483 : Aside0 (w.heap.size ≤ gb483) := gw_ hg (below_size bl_); have GE483 := GW483; have NB464_483 := Aside0.mk ((by rw [hg]; exact Nat.ne_of_lt (blk_lt (g := gb464) (o := .cells #[.slice Ao54 x465000_6.length co54] 31 (0, 0)) bk_) : gb464 ≠ gb483)); have NB483_464 := Aside0.mk ((by rw [hg]; exact Nat.ne_of_gt (blk_lt (g := gb464) (o := .cells #[.slice Ao54 x465000_6.length co54] 31 (0, 0)) bk_) : gb483 ≠ gb464)); replace HO_465000 := Aside0.mk (Kd.V_below (Kd.V_elderB (pV_ HO_465000.out) gb483 (Nat.le_of_eq hg.symm)) hb); replace HO481 := Aside0.mk (Kd.V_below (Kd.V_elderB (pV_ HO481.out) gb483 (Nat.le_of_eq hg.symm)) hb); replace BK464 := Aside0.mk (blk_below (g := gb464) (o := .cells #[.slice Ao54 x465000_6.length co54] 31 (0, 0)) bk_ hb); replace HB := Aside0.mk (below_step bl_ hb); clear hb hbox hg; obtain ⟨Ao57, co57, eo57⟩ := Kd.V_slice HO481.out; subst eo57; have hnb58 := NB483_464.out; have hnc58 := NB464_483.out; obtain ⟨hcz59_0, hfz59_0⟩ := cf1_ BK483.out; obtain ⟨hcz60_0, hfz60_0⟩ := cf1_ BK464.out) | ((with_reducible refine gate_callee (f := 31) rfl ?_); refine goesL_ (some 44) rfl rfl Tryd.func31 (by kernel_rfl) rfl #[.agg #[.slice Ao54 x465000_6.length co54], .int .i64 x1_6, .int .i64 x2_6] rfl (by (try simp only [List.map_toArray, List.map_cons, List.map_nil]); first | done | rfl | (simp only [List.length_drop, List.length_take]; rfl)) ?_; (with_reducible refine (exactpplref19_Restrict.calls kj6 _ _ x465000_6 x1_6 x2_6 t484 t487 _ ?side1 ?side2 A31.out).mono ?_); (case side1 => refine (Kd.V_reads' (e := 60) (base := w.heap.size) (ok := fun k_ => (k_ ≠ gb464 ∧ k_ ≠ gb483)) (n := x465000_6.length) (c := co54) ?_).2.2; exact (by (with_reducible repeat (first | apply Kd.V_alloc | apply Kd.V_drewN | apply Kd.V_drew)); exact (Kd.V_mono (Kd.V_far (p := ⟨gb483, 0, none⟩) (Kd.V_mono HO_465000.out (fun k_ hk => (⟨hk, by first | exact hk.2 | exact hk.1 | exact hk.2 | exact hk.1.1 | exact hk.1.2⟩ : _ ∧ k_ ≠ gb483))) (fun _ hk => hk.2) (.slice Ao57 t479.length co57)) (fun _ h_ => h_.1)))); (case side2 => exact (Kd.V_reads' HO_465000.out).2.1); rintro e w61 ⟨v485, rfl, ho0, hb⟩; refine ⟨_, rfl, ?_⟩; have HO486 := Aside0.mk (Kd.V_lower (Kd.V_mono (ok' := fun k_ => k_ ≠ gb464 ∧ k_ ≠ gb483) ho0 (fun k_ hk_ => ⟨(Kd.freshB (g := gb464) (o := .cells #[.slice Ao54 x465000_6.length co54] 31 (0, 0)) (by (with_reducible repeat (first | refine blk_drewN ?_ _ | refine blk_drew ?_ | refine blk_alloc ?_ _)); refine blk_far ?_ NB464_483.out _; (with_reducible repeat (first | refine blk_drewN ?_ _ | refine blk_drew ?_ | refine blk_alloc ?_ _)); exact BK464.out) k_ hk_), (Kd.freshB (g := gb483) (o := .cells #[.slice Ao57 t479.length co57] 31 (0, 0)) (by (with_reducible repeat (first | refine blk_drewN ?_ _ | refine blk_drew ?_ | refine blk_alloc ?_ _)); refine blk_put (cs := #[.slice none 0 0]) ?_ 0 _ rfl; (with_reducible repeat (first | refine blk_drewN ?_ _ | refine blk_drew ?_ | refine blk_alloc ?_ _)); exact BK483.out) k_ hk_)⟩)) (below_size bl_)); replace HO_465000 := Aside0.mk (Kd.V_below (by (with_reducible repeat (first | apply Kd.V_alloc | apply Kd.V_drewN | apply Kd.V_drew)); exact (Kd.V_mono (Kd.V_far (p := ⟨gb483, 0, none⟩) (Kd.V_mono HO_465000.out (fun k_ hk => (⟨hk, by first | exact hk.2 | exact hk.1 | exact hk.2 | exact hk.1.1 | exact hk.1.2⟩ : _ ∧ k_ ≠ gb483))) (fun _ hk => hk.2) (.slice Ao57 t479.length co57)) (fun _ h_ => h_.1))) hb); replace HO481 := Aside0.mk (Kd.V_below (by (with_reducible repeat (first | apply Kd.V_alloc | apply Kd.V_drewN | apply Kd.V_drew)); exact (Kd.V_mono (Kd.V_far (p := ⟨gb483, 0, none⟩) (Kd.V_mono HO481.out (fun k_ hk => (⟨hk, by first | exact hk.2 | exact hk.1 | exact hk.2 | exact hk.1.1 | exact hk.1.2⟩ : _ ∧ k_ ≠ gb483))) (fun _ hk => hk.2) (.slice Ao57 t479.length co57)) (fun _ h_ => h_.1))) hb); replace BK464 := Aside0.mk (blk_below (g := gb464) (o := .cells #[.slice Ao54 x465000_6.length co54] 31 (0, 0)) (by (with_reducible repeat (first | refine blk_drewN ?_ _ | refine blk_drew ?_ | refine blk_alloc ?_ _)); refine blk_far ?_ NB464_483.out _; (with_reducible repeat (first | refine blk_drewN ?_ _ | refine blk_drew ?_ | refine blk_alloc ?_ _)); exact BK464.out) hb); replace BK483 := Aside0.mk (blk_below (g := gb483) (o := .cells #[.slice Ao57 t479.length co57] 31 (0, 0)) (by (with_reducible repeat (first | refine blk_drewN ?_ _ | refine blk_drew ?_ | refine blk_alloc ?_ _)); refine blk_put (cs := #[.slice none 0 0]) ?_ 0 _ rfl; (with_reducible repeat (first | refine blk_drewN ?_ _ | refine blk_drew ?_ | refine blk_alloc ?_ _)); exact BK483.out) hb); replace HB := Aside0.mk (below_step bl_ hb); (try clear hb); (try clear hb2); (try clear hk); (try clear hi); (try clear ho0)) | ((with_reducible refine gate_dst (N := 11) rfl ?_); refine box_event ?hg (N := 11) ?hd (cs := #[.slice none 0 0]) (t := 31) ?hr ?_; (case hd => rfl); (case hg => rfl); (case hr => first | (go_simp; done) | (go_simp; rfl)); intro gb488 hg w62 hbox hb; have BK488 := Aside0.mk (hbox); have GW488 : Aside0 (w.heap.size ≤ gb488) := gw_ hg (below_size bl_); have GE488 := GW488; have NB464_488 := Aside0.mk ((by rw [hg]; exact Nat.ne_of_lt (blk_lt (g := gb464) (o := .cells #[.slice Ao54 x465000_6.length co54] 31 (0, 0)) bk_) : gb464 ≠ gb488)); have NB488_464 := Aside0.mk ((by rw [hg]; exact Nat.ne_of_gt (blk_lt (g := gb464) (o := .cells #[.slice Ao54 x465000_6.length co54] 31 (0, 0)) bk_) : gb488 ≠ gb464)); have NB483_488 := Aside0.mk ((by rw [hg]; exact Nat.ne_of_lt (blk_lt (g := gb483) (o := .cells #[.slice Ao57 t479.length co57] 31 (0, 0)) bk_) : gb483 ≠ gb488)); have NB488_483 := Aside0.mk ((by rw [hg]; exact Nat.ne_of_gt (blk_lt (g := gb483) (o := .cells #[.slice Ao57 t479.length co57] 31 (0, 0)) bk_) : gb488 ≠ gb483)); replace HO_465000 := Aside0.mk (Kd.V_below (Kd.V_elderB (pV_ HO_465000.out) gb488 (Nat.le_of_eq hg.symm)) hb); replace HO481 := Aside0.mk (Kd.V_below (Kd.V_elderB (pV_ HO481.out) gb488 (Nat.le_of_eq hg.symm)) hb); replace HO486 := Aside0.mk (Kd.V_below (Kd.V_elderB (pV_ HO486.out) gb488 (Nat.le_of_eq hg.symm)) hb); replace BK464 := Aside0.mk (blk_below (g := gb464) (o := .cells #[.slice Ao54 x465000_6.length co54] 31 (0, 0)) bk_ hb); replace BK483 := Aside0.mk (blk_below (g := gb483) (o := .cells #[.slice Ao57 t479.length co57] 31 (0, 0)) bk_ hb); replace HB := Aside0.mk (below_step bl_ hb); clear hb hbox hg; obtain ⟨Ao63, co63, eo63⟩ := Kd.V_slice HO486.out; subst eo63; have hnb64 := NB488_464.out; have hnc64 := NB464_488.out; have hnb65 := NB488_483.out; have hnc65 := NB483_488.out; obtain ⟨hcz66_0, hfz66_0⟩ := cf1_ BK488.out; obtain ⟨hcz67_0, hfz67_0⟩ := cf1_ BK483.out) | (go_at_call 20; (with_reducible refine (exactpplref19_Same.calls kj6 _ _ t479 _ _ t484 false _ ?side1 ?side2 ?side3 ?side4 A33.out).mono ?_); (case side1 => refine (Kd.V_reads' (e := 60) (base := w.heap.size) (ok := fun k_ => ((k_ ≠ gb464 ∧ k_ ≠ gb483) ∧ k_ ≠ gb488)) (n := t479.length) (c := co57) ?_).2.2; exact (by (with_reducible repeat (first | apply Kd.V_alloc | apply Kd.V_drewN | apply Kd.V_drew)); exact (Kd.V_mono (Kd.V_far (p := ⟨gb488, 0, none⟩) (Kd.V_mono HO481.out (fun k_ hk => (⟨hk, by first | exact hk.2 | exact hk.1 | exact hk.2 | exact hk.1.1 | exact hk.1.2⟩ : _ ∧ k_ ≠ gb488))) (fun _ hk => hk.2) (.slice Ao63 t484.length co63)) (fun _ h_ => h_.1)))); (case side2 => exact (Kd.V_reads' HO481.out).2.1); (case side3 => refine (Kd.V_reads' (e := 60) (base := w.heap.size) (ok := fun k_ => ((k_ ≠ gb464 ∧ k_ ≠ gb483) ∧ k_ ≠ gb488)) (n := t484.length) (c := co63) ?_).2.2; exact (by (with_reducible repeat (first | apply Kd.V_alloc | apply Kd.V_drewN | apply Kd.V_drew)); exact (Kd.V_mono (Kd.V_far (p := ⟨gb488, 0, none⟩) (Kd.V_mono HO486.out (fun k_ hk => (⟨hk, by first | exact hk.2 | exact hk.1 | exact hk.2 | exact hk.1.1 | exact hk.1.2⟩ : _ ∧ k_ ≠ gb488))) (fun _ hk => hk.2) (.slice Ao63 t484.length co63)) (fun _ h_ => h_.1)))); (case side4 => exact (Kd.V_reads' HO486.out).2.1); rintro e w68 ⟨rfl, hb⟩; replace HO_465000 := Aside0.mk (Kd.V_below (by (with_reducible repeat (first | apply Kd.V_alloc | apply Kd.V_drewN | apply Kd.V_drew)); exact (Kd.V_mono (Kd.V_far (p := ⟨gb488, 0, none⟩) (Kd.V_mono HO_465000.out (fun k_ hk => (⟨hk, by first | exact hk.2 | exact hk.1 | exact hk.2 | exact hk.1.1 | exact hk.1.2⟩ : _ ∧ k_ ≠ gb488))) (fun _ hk => hk.2) (.slice Ao63 t484.length co63)) (fun _ h_ => h_.1))) hb); replace HO481 := Aside0.mk (Kd.V_below (by (with_reducible repeat (first | apply Kd.V_alloc | apply Kd.V_drewN | apply Kd.V_drew)); exact (Kd.V_mono (Kd.V_far (p := ⟨gb488, 0, none⟩) (Kd.V_mono HO481.out (fun k_ hk => (⟨hk, by first | exact hk.2 | exact hk.1 | exact hk.2 | exact hk.1.1 | exact hk.1.2⟩ : _ ∧ k_ ≠ gb488))) (fun _ hk => hk.2) (.slice Ao63 t484.length co63)) (fun _ h_ => h_.1))) hb); replace HO486 := Aside0.mk (Kd.V_below (by (with_reducible repeat (first | apply Kd.V_alloc | apply Kd.V_drewN | apply Kd.V_drew)); exact (Kd.V_mono (Kd.V_far (p := ⟨gb488, 0, none⟩) (Kd.V_mono HO486.out (fun k_ hk => (⟨hk, by first | exact hk.2 | exact hk.1 | exact hk.2 | exact hk.1.1 | exact hk.1.2⟩ : _ ∧ k_ ≠ gb488))) (fun _ hk => hk.2) (.slice Ao63 t484.length co63)) (fun _ h_ => h_.1))) hb); replace BK464 := Aside0.mk (blk_below (g := gb464) (o := .cells #[.slice Ao54 x465000_6.length co54] 31 (0, 0)) (by (with_reducible repeat (first | refine blk_drewN ?_ _ | refine blk_drew ?_ | refine blk_alloc ?_ _)); refine blk_far ?_ NB464_488.out _; (with_reducible repeat (first | refine blk_drewN ?_ _ | refine blk_drew ?_ | refine blk_alloc ?_ _)); exact BK464.out) hb); replace BK483 := Aside0.mk (blk_below (g := gb483) (o := .cells #[.slice Ao57 t479.length co57] 31 (0, 0)) (by (with_reducible repeat (first | refine blk_drewN ?_ _ | refine blk_drew ?_ | refine blk_alloc ?_ _)); refine blk_far ?_ NB483_488.out _; (with_reducible repeat (first | refine blk_drewN ?_ _ | refine blk_drew ?_ | refine blk_alloc ?_ _)); exact BK483.out) hb); replace BK488 := Aside0.mk (blk_below (g := gb488) (o := .cells #[.slice Ao63 t484.length co63] 31 (0, 0)) (by (with_reducible repeat (first | refine blk_drewN ?_ _ | refine blk_drew ?_ | refine blk_alloc ?_ _)); refine blk_put (cs := #[.slice none 0 0]) ?_ 0 _ rfl; (with_reducible repeat (first | refine blk_drewN ?_ _ | refine blk_drew ?_ | refine blk_alloc ?_ _)); exact BK488.out) hb); replace HB := Aside0.mk (below_step bl_ hb); (try clear hb); (try clear hb2); (try clear hk); (try clear hi)))
     go_ret
     exact ⟨re_, bl_⟩
   ·rw [if_neg c32] at H
    have c32b0 : (t482 == t487) = false := beq_eq_false_iff_ne.mpr c32
    have c32b1 : (t482 != t487) = true := bne_iff_ne.mpr c32
    obtain rfl := Option.some.inj H
    obtain ⟨hcz69_0, hfz69_0⟩ := cf1_ BK464.out
    obtain ⟨Ao70, co70, eo70⟩ := Kd.V_slice HO_465000.out
    subst eo70
    go_wp2_with (first | ((with_reducible refine gate_callee (f := 30) rfl ?_); refine goesL_ (some 37) rfl rfl Tryd.func30 (by kernel_rfl) rfl #[.agg #[.slice Ao70 x465000_6.length co70], .int .i64 x1_6, .int .i64 x2_6] rfl (by (try simp only [List.map_toArray, List.map_cons, List.map_nil]); first | done | rfl | (simp only [List.length_drop, List.length_take]; rfl)) ?_; (with_reducible refine (diagram_Restrict.calls _ _ x465000_6 x1_6 x2_6 t479 t482 _ ?side1 ?side2 A30.out ?tab).mono ?_); (case tab => exact ptab HTAB.out bl_); (case side1 => repeat (first | exact (Kd.V_reads' HO_465000.out).2.2 | (with_reducible refine Kd.C_alloc ?_ _) | (with_reducible refine Kd.C_drewN ?_ _) | (with_reducible refine Kd.C_drew ?_))); (case side2 => exact (Kd.V_reads' HO_465000.out).2.1); rintro e w71 ⟨v480, rfl, ho0, hb⟩; refine ⟨_, rfl, ?_⟩; have HO481 := Aside0.mk (Kd.V_lower (Kd.V_mono (ok' := fun k_ => k_ ≠ gb464) ho0 (fun k_ hk_ => (Kd.freshB (g := gb464) (o := .cells #[.slice Ao70 x465000_6.length co70] 31 (0, 0)) bk_ k_ hk_))) (below_size bl_)); replace HO_465000 := Aside0.mk (Kd.V_below (pV_ HO_465000.out) hb); replace BK464 := Aside0.mk (blk_below (g := gb464) (o := .cells #[.slice Ao70 x465000_6.length co70] 31 (0, 0)) bk_ hb); replace HB := Aside0.mk (below_step bl_ hb); (try clear hb); (try clear hb2); (try clear hk); (try clear hi); (try clear ho0)) | ((with_reducible refine gate_dst (N := 9) rfl ?_); refine box_event ?hg (N := 9) ?hd (cs := #[.slice none 0 0]) (t := 31) ?hr ?_; (case hd => rfl); (case hg => rfl); (case hr => first | (go_simp; done) | (go_simp; rfl)); intro gb483 hg w72 hbox hb; have BK483 := Aside0.mk (hbox); have GW483 : Aside0 (w.heap.size ≤ gb483) := gw_ hg (below_size bl_); have GE483 := GW483; have NB464_483 := Aside0.mk ((by rw [hg]; exact Nat.ne_of_lt (blk_lt (g := gb464) (o := .cells #[.slice Ao70 x465000_6.length co70] 31 (0, 0)) bk_) : gb464 ≠ gb483)); have NB483_464 := Aside0.mk ((by rw [hg]; exact Nat.ne_of_gt (blk_lt (g := gb464) (o := .cells #[.slice Ao70 x465000_6.length co70] 31 (0, 0)) bk_) : gb483 ≠ gb464)); replace HO_465000 := Aside0.mk (Kd.V_below (Kd.V_elderB (pV_ HO_465000.out) gb483 (Nat.le_of_eq hg.symm)) hb); replace HO481 := Aside0.mk (Kd.V_below (Kd.V_elderB (pV_ HO481.out) gb483 (Nat.le_of_eq hg.symm)) hb); replace BK464 := Aside0.mk (blk_below (g := gb464) (o := .cells #[.slice Ao70 x465000_6.length co70] 31 (0, 0)) bk_ hb); replace HB := Aside0.mk (below_step bl_ hb); clear hb hbox hg; obtain ⟨Ao73, co73, eo73⟩ := Kd.V_slice HO481.out; subst eo73; have hnb74 := NB483_464.out; have hnc74 := NB464_483.out; obtain ⟨hcz75_0, hfz75_0⟩ := cf1_ BK483.out; obtain ⟨hcz76_0, hfz76_0⟩ := cf1_ BK464.out) | ((with_reducible refine gate_callee (f := 31) rfl ?_); refine goesL_ (some 44) rfl rfl Tryd.func31 (by kernel_rfl) rfl #[.agg #[.slice Ao70 x465000_6.length co70], .int .i64 x1_6, .int .i64 x2_6] rfl (by (try simp only [List.map_toArray, List.map_cons, List.map_nil]); first | done | rfl | (simp only [List.length_drop, List.length_take]; rfl)) ?_; (with_reducible refine (exactpplref19_Restrict.calls kj6 _ _ x465000_6 x1_6 x2_6 t484 t487 _ ?side1 ?side2 A31.out).mono ?_); (case side1 => refine (Kd.V_reads' (e := 60) (base := w.heap.size) (ok := fun k_ => (k_ ≠ gb464 ∧ k_ ≠ gb483)) (n := x465000_6.length) (c := co70) ?_).2.2; exact (by (with_reducible repeat (first | apply Kd.V_alloc | apply Kd.V_drewN | apply Kd.V_drew)); exact (Kd.V_mono (Kd.V_far (p := ⟨gb483, 0, none⟩) (Kd.V_mono HO_465000.out (fun k_ hk => (⟨hk, by first | exact hk.2 | exact hk.1 | exact hk.2 | exact hk.1.1 | exact hk.1.2⟩ : _ ∧ k_ ≠ gb483))) (fun _ hk => hk.2) (.slice Ao73 t479.length co73)) (fun _ h_ => h_.1)))); (case side2 => exact (Kd.V_reads' HO_465000.out).2.1); rintro e w77 ⟨v485, rfl, ho0, hb⟩; refine ⟨_, rfl, ?_⟩; have HO486 := Aside0.mk (Kd.V_lower (Kd.V_mono (ok' := fun k_ => k_ ≠ gb464 ∧ k_ ≠ gb483) ho0 (fun k_ hk_ => ⟨(Kd.freshB (g := gb464) (o := .cells #[.slice Ao70 x465000_6.length co70] 31 (0, 0)) (by (with_reducible repeat (first | refine blk_drewN ?_ _ | refine blk_drew ?_ | refine blk_alloc ?_ _)); refine blk_far ?_ NB464_483.out _; (with_reducible repeat (first | refine blk_drewN ?_ _ | refine blk_drew ?_ | refine blk_alloc ?_ _)); exact BK464.out) k_ hk_), (Kd.freshB (g := gb483) (o := .cells #[.slice Ao73 t479.length co73] 31 (0, 0)) (by (with_reducible repeat (first | refine blk_drewN ?_ _ | refine blk_drew ?_ | refine blk_alloc ?_ _)); refine blk_put (cs := #[.slice none 0 0]) ?_ 0 _ rfl; (with_reducible repeat (first | refine blk_drewN ?_ _ | refine blk_drew ?_ | refine blk_alloc ?_ _)); exact BK483.out) k_ hk_)⟩)) (below_size bl_)); replace HO_465000 := Aside0.mk (Kd.V_below (by (with_reducible repeat (first | apply Kd.V_alloc | apply Kd.V_drewN | apply Kd.V_drew)); exact (Kd.V_mono (Kd.V_far (p := ⟨gb483, 0, none⟩) (Kd.V_mono HO_465000.out (fun k_ hk => (⟨hk, by first | exact hk.2 | exact hk.1 | exact hk.2 | exact hk.1.1 | exact hk.1.2⟩ : _ ∧ k_ ≠ gb483))) (fun _ hk => hk.2) (.slice Ao73 t479.length co73)) (fun _ h_ => h_.1))) hb); replace HO481 := Aside0.mk (Kd.V_below (by (with_reducible repeat (first | apply Kd.V_alloc | apply Kd.V_drewN | apply Kd.V_drew)); exact (Kd.V_mono (Kd.V_far (p := ⟨gb483, 0, none⟩) (Kd.V_mono HO481.out (fun k_ hk => (⟨hk, by first | exact hk.2 | exact hk.1 | exact hk.2 | exact hk.1.1 | exact hk.1.2⟩ : _ ∧ k_ ≠ gb483))) (fun _ hk => hk.2) (.slice Ao73 t479.length co73)) (fun _ h_ => h_.1))) hb); replace BK464 := Aside0.mk (blk_below (g := gb464) (o := .cells #[.slice Ao70 x465000_6.length co70] 31 (0, 0)) (by (with_reducible repeat (first | refine blk_drewN ?_ _ | refine blk_drew ?_ | refine blk_alloc ?_ _)); refine blk_far ?_ NB464_483.out _; (with_reducible repeat (first | refine blk_drewN ?_ _ | refine blk_drew ?_ | refine blk_alloc ?_ _)); exact BK464.out) hb); replace BK483 := Aside0.mk (blk_below (g := gb483) (o := .cells #[.slice Ao73 t479.length co73] 31 (0, 0)) (by (with_reducible repeat (first | refine blk_drewN ?_ _ | refine blk_drew ?_ | refine blk_alloc ?_ _)); refine blk_put (cs := #[.slice none 0 0]) ?_ 0 _ rfl; (with_reducible repeat (first | refine blk_drewN ?_ _ | refine blk_drew ?_ | refine blk_alloc ?_ _)); exact BK483.out) hb); replace HB := Aside0.mk (below_step bl_ hb); (try clear hb); (try clear hb2); (try clear hk); (try clear hi); (try clear ho0)) | ((with_reducible refine gate_dst (N := 11) rfl ?_); refine box_event ?hg (N := 11) ?hd (cs := #[.slice none 0 0]) (t := 31) ?hr ?_; (case hd => rfl); (case hg => rfl); (case hr => first | (go_simp; done) | (go_simp; rfl)); intro gb488 hg w78 hbox hb; have BK488 := Aside0.mk (hbox); have GW488 : Aside0 (w.heap.size ≤ gb488) := gw_ hg (below_size bl_); have GE488 := GW488; have NB464_488 := Aside0.mk ((by rw [hg]; exact Nat.ne_of_lt (blk_lt (g := gb464) (o := .cells #[.slice Ao70 x465000_6.length co70] 31 (0, 0)) bk_) : gb464 ≠ gb488)); have NB488_464 := Aside0.mk ((by rw [hg]; exact Nat.ne_of_gt (blk_lt (g := gb464) (o := .cells #[.slice Ao70 x465000_6.length co70] 31 (0, 0)) bk_) : gb488 ≠ gb464)); have NB483_488 := Aside0.mk ((by rw [hg]; exact Nat.ne_of_lt (blk_lt (g := gb483) (o := .cells #[.slice Ao73 t479.length co73] 31 (0, 0)) bk_) : gb483 ≠ gb488)); have NB488_483 := Aside0.mk ((by rw [hg]; exact Nat.ne_of_gt (blk_lt (g := gb483) (o := .cells #[.slice Ao73 t479.length co73] 31 (0, 0)) bk_) : gb488 ≠ gb483)); replace HO_465000 := Aside0.mk (Kd.V_below (Kd.V_elderB (pV_ HO_465000.out) gb488 (Nat.le_of_eq hg.symm)) hb); replace HO481 := Aside0.mk (Kd.V_below (Kd.V_elderB (pV_ HO481.out) gb488 (Nat.le_of_eq hg.symm)) hb); replace HO486 := Aside0.mk (Kd.V_below (Kd.V_elderB (pV_ HO486.out) gb488 (Nat.le_of_eq hg.symm)) hb); replace BK464 := Aside0.mk (blk_below (g := gb464) (o := .cells #[.slice Ao70 x465000_6.length co70] 31 (0, 0)) bk_ hb); replace BK483 := Aside0.mk (blk_below (g := gb483) (o := .cells #[.slice Ao73 t479.length co73] 31 (0, 0)) bk_ hb); replace HB := Aside0.mk (below_step bl_ hb); clear hb hbox hg; obtain ⟨Ao79, co79, eo79⟩ := Kd.V_slice HO486.out; subst eo79; have hnb80 := NB488_464.out; have hnc80 := NB464_488.out; have hnb81 := NB488_483.out; have hnc81 := NB483_488.out; obtain ⟨hcz82_0, hfz82_0⟩ := cf1_ BK488.out))
    go_ret
    exact ⟨re_, bl_⟩

/-- THE ONE PURE STATEMENT of exactppllaw19_DiagramRestricts: yours. -/
def exactppllaw19_DiagramRestricts.Pure : Prop := ∀ (l0 : List Int) (a1 : Int) (a2 : Int), l0.length ≤ maxLen → l0.length * 8 ≤ 140737488351232 → (∀ x ∈ l0, (Lit.int .i64 x).wf = true) → (Lit.int .i64 a1).wf = true → (Lit.int .i64 a2).wf = true → ∃ k, exactppllaw19_DiagramRestricts.f k l0 a1 a2 = some true
theorem exactppllaw19_DiagramRestricts.walk (P : exactppllaw19_DiagramRestricts.Pure) (a0 : Option Addr) (len0 cap0 : Nat) (z0 : List Int) (a1 : Int) (a2 : Int) (w : World) (htab : PowTab w.heap.size w) (w0 : (a0 = none ∧ len0 = 0 ∧ cap0 = 0 ∧ z0 = []) ∨ ∃ x, a0 = some x ∧ len0 ≤ cap0 ∧ cap0 ≤ maxLen ∧ z0.length = cap0 ∧ (∀ i, i < z0.length → w.cell? (x.add i) = some (.int .i64 (z0.getD i 0))) ∧ ∀ n ∈ z0, (Lit.int .i64 n).wf = true) (y0 : len0 * 8 ≤ 140737488351232) (w1 : (Lit.int .i64 a1).wf = true) (w2 : (Lit.int .i64 a2).wf = true) :
  Calls Tryd.prog 8 #[.slice a0 len0 cap0, .int .i64 a1, .int .i64 a2] w fun e w' => e = .returned (.bool true) ∧ Below w.heap.size w w' := by
 obtain ⟨l0, rfl, hr0, hm0, hw0, hc0⟩ := ReadsInt.ofRowC w0
 obtain ⟨k, h⟩ := P l0 a1 a2 hm0 y0 hw0 w1 w2
 refine (exactppllaw19_DiagramRestricts.calls k _ _ l0 a1 a2 true w (Kd.C_of_reads (d := (0 : Int)) (h1 := fun _ => rfl) hr0) hc0 h htab).mono ?_
 rintro e w' ⟨rfl, hd⟩
 exact ⟨rfl, hd⟩

end Go.Proofs.YtopbjginpmdebaaDoor.K
-- the reference's Reduce, Validate; reduces; the numbers that are read
namespace Go.Proofs.YtopbjginpmdebaaDoor.K
open Go.RowKit Go.Maps Go.Proofs.YtopbjginpmdebaaDoorW.PrintWords Go.Proofs.YtopbjginpmdebaaDoorW.PrintLast Go.Proofs.YtopbjginpmdebaaDoorW.PrintMore
set_option linter.unusedVariables false
set_option linter.unusedSimpArgs false
/-- rounds enough for a list -/
def rnd (l : List Nd) : Nat := 1073741824 + l.length + l.length + 20006
theorem refReduce_f (l : List Nd) (h : ndOk l = true) (k : Nat) (hk : rnd l ≤ k) : exactpplref19_Reduce.f k l = some (redL l, redE l) := by
  have hr := ndOk_room h
  have hI := ndOk_I h
  unfold rnd at hk
  unfold exactpplref19_Reduce.f
  rw [graph_f l (by omega) 1073741824 (by decide) (fun n hn => (hI n hn).2.2) k (by omega), Option.bind_some]
  by_cases hg : grB l = true
  · rw [if_pos hg, exactpplref19_Canon.f, if_pos hg, if_pos h, Option.bind_some]
    unfold exactpplref19_Fit.f redL redE
    rw [if_pos hg]
    by_cases hl : (cn l).length ≤ 20000
    · rw [if_neg (by omega), if_pos hl]; rfl
    · rw [if_pos (by omega), if_neg hl]; rfl
  · rw [if_neg hg]
    unfold redL redE
    rw [if_neg hg]; rfl
theorem redL_len (l : List Nd) : (redL l).length ≤ 20000 := redL_kids
theorem refValidate_f (l : List Nd) (h : ndOk l = true) (k : Nat) (hk : rnd l ≤ k) : exactpplref19_Validate.f k l = some (valE l) := by
  unfold exactpplref19_Validate.f
  rw [refReduce_f l h k hk, Option.bind_some]
  have hl := redL_len l
  unfold rnd at hk
  unfold valE
  by_cases h0 : redE l = 0
  · rw [if_pos h0, if_pos h0, same_f (redL l) l (by omega) 1073741824 (by decide) (fun n hn => Nat.le_trans (redL_kids16 l n hn) (by decide)) k (by omega), Option.bind_some]
    have e : redL l = cn l := by unfold redL; rw [if_pos h0]
    rw [e]
    by_cases hq : cn l = l
    · rw [decide_eq_true hq, if_pos rfl, if_pos hq]
    · rw [decide_eq_false hq, if_neg (by decide), if_neg hq]
  · rw [if_neg h0, if_neg h0]
theorem mono_le {α : Type} {f : Nat → Option α} (h : ∀ k, LeO (f k) (f (k + 1))) {k k' : Nat} (hk : k ≤ k') {r : α} (e : f k = some r) : f k' = some r := by
  induction hk with
  | refl => exact e
  | step _ ih => exact h _ _ ih
/-- what a source is while it is read -/
structure Src (L : List Int) (at_ : Int) : Prop where
  len : L.length ≤ 1000
  i64 : ∀ x ∈ L, -9223372036854775808 ≤ x ∧ x ≤ 9223372036854775807
  lo : 0 ≤ at_
  hi : at_ ≤ (L.length : Int)
theorem new_f (l : List Int) (h : ∀ x ∈ l, -9223372036854775808 ≤ x ∧ x ≤ 9223372036854775807) : ∃ L, exactpplmake_New.f l = some (L, 0, 0) ∧ Src L 0 := by
  unfold exactpplmake_New.f
  by_cases h1 : (l.length : Int) > 1000
  · rw [if_pos h1, if_pos (by omega)]
    exact ⟨_, rfl, by simp; omega, fun x hx => h x (List.mem_of_mem_take hx), by omega, by omega⟩
  · rw [if_neg h1]
    exact ⟨_, rfl, by omega, h, by omega, by omega⟩
theorem w64_id {x : Int} (h : -9223372036854775808 ≤ x) (h2 : x ≤ 9223372036854775807) : wrap64 x = x := by unfold wrap64; omega
theorem raw_f {L : List Int} {a : Int} (h : Src L a) (st : Int) : ∃ x a', exactpplmake_Src_Raw.f L a st = some (x, a', st) ∧ (-9223372036854775808 ≤ x ∧ x ≤ 9223372036854775807) ∧ Src L a' := by
  have hl := h.len
  have h0 := h.lo
  have h1 := h.hi
  unfold exactpplmake_Src_Raw.f
  by_cases he : a ≥ (L.length : Int)
  · rw [if_pos he]
    exact ⟨0, a, rfl, by omega, h⟩
  · rw [if_neg he, w64_id (x := a + 1) (by omega) (by omega), w64_id (x := a + 1 - 1) (by omega) (by omega), if_pos (by omega), if_pos (by omega)]
    refine ⟨_, _, rfl, ?_, ⟨hl, h.i64, by omega, by omega⟩⟩
    refine h.i64 _ ?_
    have hj : a.toNat < L.length := by omega
    have e : rd L (a + 1 - 1) = L[a.toNat] := by rw [show a + 1 - 1 = ((a.toNat : Nat) : Int) by omega, rd_get hj]
    rw [e]; exact List.getElem_mem hj
theorem n_f {L : List Int} {a : Int} (h : Src L a) (st n : Int) (h1 : 1 ≤ n) (h2 : n ≤ 1000000000000) : ∃ x a', exactpplmake_Src_N.f L a st n = some (x, a', st) ∧ (0 ≤ x ∧ x < n) ∧ Src L a' := by
  unfold exactpplmake_Src_N.f
  obtain ⟨x, a', e, hx, h'⟩ := raw_f h st
  rw [if_neg (by omega), e, Option.bind_some, if_neg (by omega)]
  have ht1 := Int.lt_tmod_of_pos x (show 0 < n by omega)
  have ht2 := Int.tmod_lt_of_pos x (show 0 < n by omega)
  by_cases hn : Int.tmod x n < 0
  · simp only
    rw [if_pos hn, w64_id (by omega) (by omega)]
    exact ⟨_, _, rfl, by omega, h'⟩
  · simp only
    rw [if_neg hn]
    exact ⟨_, _, rfl, by omega, h'⟩
theorem n0_f {L : List Int} {a : Int} (h : Src L a) (st n : Int) (h1 : n < 1) : exactpplmake_Src_N.f L a st n = some (0, a, st) := by
  unfold exactpplmake_Src_N.f
  rw [if_pos h1]
theorem range_f {L : List Int} {a : Int} (h : Src L a) (st lo hi : Int) (h1 : lo ≤ hi) (h2 : -100000000000 ≤ lo) (h3 : hi ≤ 100000000000) : ∃ x a', exactpplmake_Src_Range.f L a st lo hi = some (x, a', st) ∧ (lo ≤ x ∧ x ≤ hi) ∧ Src L a' := by
  unfold exactpplmake_Src_Range.f
  rw [w64_id (x := hi - lo) (by omega) (by omega), w64_id (x := hi - lo + 1) (by omega) (by omega)]
  obtain ⟨x, a', e, hx, h'⟩ := n_f h st (hi - lo + 1) (by omega) (by omega)
  rw [e, Option.bind_some]
  simp only
  rw [w64_id (by omega) (by omega)]
  exact ⟨_, _, rfl, by omega, h'⟩
theorem pick_f {L : List Int} {a : Int} (h : Src L a) (st : Int) (l : List Int) (h1 : l ≠ []) (h2 : l.length ≤ 1000) : ∃ x a', exactpplmake_Src_Pick.f L a st l = some (x, a', st) ∧ x ∈ l ∧ Src L a' := by
  have hp := List.length_pos_iff.2 h1
  unfold exactpplmake_Src_Pick.f
  obtain ⟨x, a', e, hx, h'⟩ := n_f h st (l.length : Int) (by omega) (by omega)
  rw [e, Option.bind_some]
  simp only
  rw [if_pos (by omega), if_pos (by omega)]
  refine ⟨_, _, rfl, ?_, h'⟩
  have hj : x.toNat < l.length := by omega
  rw [show x = ((x.toNat : Nat) : Int) by omega, rd_get hj]
  exact List.getElem_mem hj
theorem width_f (s : Int) (h1 : 0 ≤ s) (h2 : s ≤ 1000000) : exactpplmake_Width.f s = some (2 + s % 2) := by
  unfold exactpplmake_Width.f
  rw [Int.tmod_eq_emod_of_nonneg h1, w64_id (by omega) (by omega)]
end Go.Proofs.YtopbjginpmdebaaDoor.K
-- Src.Nodes ends, and its nodes are a machine's
namespace Go.Proofs.YtopbjginpmdebaaDoor.K
open Go.RowKit Go.Maps Go.Proofs.YtopbjginpmdebaaDoorW.PrintWords Go.Proofs.YtopbjginpmdebaaDoorW.PrintLast Go.Proofs.YtopbjginpmdebaaDoorW.PrintMore
set_option linter.unusedVariables false
set_option linter.unusedSimpArgs false
/-- what Nodes writes -/
def NdG (n : Nd) : Prop := -2 ≤ n.f0 ∧ n.f0 ≤ 64 ∧ -1073741825 ≤ n.f1 ∧ n.f1 ≤ 1073741825 ∧ n.f2.length ≤ 4
/-- how a stretch of Nodes ends -/
def NdEnd (L : List Int) (st : Int) (f : Nat → Option (List S60 × Int × Int)) : Prop := ∃ k r a', f k = some (r, a', st) ∧ (∀ n ∈ r, NdG n) ∧ r.length ≤ 8 ∧ Src L a'
theorem NdG.snoc {l : List Nd} {n : Nd} (h : ∀ m ∈ l, NdG m) (hn : NdG n) : ∀ m ∈ l ++ [n], NdG m := fun m hm => (List.mem_append.1 hm).elim (h m) (fun e => by rw [List.mem_singleton.1 e]; exact hn)
theorem nd_j3 {L : List Int} {st : Int} {m : Nat} (ih : ∀ (l : List Nd) (a : Int), l.length + m ≤ 8 → (∀ n ∈ l, NdG n) → Src L a → NdEnd L st fun k => exactpplmake_Src_Nodes.l0 k l (m : Int) L a st)
    (l : List Nd) (a s v : Int) (ks : List Int) (hl : l.length + (m + 1) ≤ 8) (hg : ∀ n ∈ l, NdG n) (hS : Src L a) (hs : -2 ≤ s ∧ s ≤ 64) (hv : -1073741825 ≤ v ∧ v ≤ 1073741825) (hks : ks.length ≤ 3) :
    NdEnd L st fun k => exactpplmake_Src_Nodes.j3 k l ((m + 1 : Nat) : Int) L a st s v ks := by
  obtain ⟨x, a1, e1, hx, h1⟩ := n_f hS st 24 (by omega) (by omega)
  have hw : wrap64 (((m + 1 : Nat) : Int) - 1) = (m : Int) := by rw [w64_id (by omega) (by omega)]; omega
  by_cases hx0 : x = 0
  · obtain ⟨y, a2, e2, hy, h2⟩ := pick_f h1 st [-2, -1, 0, 63, 64] (by simp) (by simp)
    have hy' : -2 ≤ y ∧ y ≤ 64 := by simp at hy; omega
    obtain ⟨k, r, a', e, q1, q2, q3⟩ := ih (l ++ [⟨y, v, ks⟩]) a2 (by simp; omega) (NdG.snoc hg ⟨hy'.1, hy'.2, hv.1, hv.2, by show ks.length ≤ 4; omega⟩) h2
    refine ⟨k + 1, r, a', ?_, q1, q2, q3⟩
    simp only [exactpplmake_Src_Nodes.j3]
    rw [e1, Option.bind_some]
    simp only
    rw [if_pos hx0, e2, Option.bind_some, if_pos (by omega), hw]
    exact e
  · by_cases hx1 : x = 1
    · obtain ⟨y, a2, e2, hy, h2⟩ := pick_f h1 st [1073741824, 1073741825, -1073741824, -1073741825] (by simp) (by simp)
      have hy' : -1073741825 ≤ y ∧ y ≤ 1073741825 := by simp at hy; omega
      obtain ⟨k, r, a', e, q1, q2, q3⟩ := ih (l ++ [⟨s, y, ks⟩]) a2 (by simp; omega) (NdG.snoc hg ⟨hs.1, hs.2, hy'.1, hy'.2, by show ks.length ≤ 4; omega⟩) h2
      refine ⟨k + 1, r, a', ?_, q1, q2, q3⟩
      simp only [exactpplmake_Src_Nodes.j3]
      rw [e1, Option.bind_some]
      simp only
      rw [if_neg hx0, if_pos hx1, e2, Option.bind_some, if_pos (by omega), hw]
      exact e
    · by_cases hx2 : x = 2
      · obtain ⟨y, a2, e2, hy, h2⟩ := range_f h1 st (-1) (l.length : Int) (by omega) (by omega) (by omega)
        obtain ⟨k, r, a', e, q1, q2, q3⟩ := ih (l ++ [⟨s, v, ks ++ [y]⟩]) a2 (by simp; omega) (NdG.snoc hg ⟨hs.1, hs.2, hv.1, hv.2, by show (ks ++ [y]).length ≤ 4; simp; omega⟩) h2
        refine ⟨k + 1, r, a', ?_, q1, q2, q3⟩
        simp only [exactpplmake_Src_Nodes.j3]
        rw [e1, Option.bind_some]
        simp only
        rw [if_neg hx0, if_neg hx1, if_pos hx2, e2, Option.bind_some, if_pos (by omega), if_pos (by omega), hw]
        exact e
      · obtain ⟨k, r, a', e, q1, q2, q3⟩ := ih (l ++ [⟨s, v, ks⟩]) a1 (by simp; omega) (NdG.snoc hg ⟨hs.1, hs.2, hv.1, hv.2, by show ks.length ≤ 4; omega⟩) h1
        refine ⟨k + 1, r, a', ?_, q1, q2, q3⟩
        simp only [exactpplmake_Src_Nodes.j3]
        rw [e1, Option.bind_some]
        simp only
        rw [if_neg hx0, if_neg hx1, if_neg hx2, if_pos (by omega), hw]
        exact e
theorem nd_l1 {L : List Int} {st : Int} {m : Nat} (ih : ∀ (l : List Nd) (a : Int), l.length + m ≤ 8 → (∀ n ∈ l, NdG n) → Src L a → NdEnd L st fun k => exactpplmake_Src_Nodes.l0 k l (m : Int) L a st)
    (l : List Nd) (s v : Int) (hl : l.length + (m + 1) ≤ 8) (hg : ∀ n ∈ l, NdG n) (hs : 0 ≤ s ∧ s ≤ 2) (hv : -1073741825 ≤ v ∧ v ≤ 1073741825) : ∀ (c : Nat) (j : Nat) (a : Int) (ks : List Int), 3 - j ≤ c → j ≤ 3 → ks.length = j → Src L a →
    NdEnd L st fun k => exactpplmake_Src_Nodes.l1 k l ((m + 1 : Nat) : Int) (j : Int) L a st s v ks := by
  intro c
  induction c with
  | zero =>
    intro j a ks h1 h2 h3 hS
    obtain ⟨k, r, a', e, q1, q2, q3⟩ := nd_j3 ih l a s v ks hl hg hS ⟨by omega, by omega⟩ hv (by omega)
    refine ⟨k + 1, r, a', ?_, q1, q2, q3⟩
    simp only [exactpplmake_Src_Nodes.l1]
    rw [width_f s hs.1 (by omega), Option.bind_some, if_neg (by omega)]
    exact e
  | succ c ihc =>
    intro j a ks h1 h2 h3 hS
    by_cases hj : (j : Int) < 2 + s % 2
    · have hN : ∃ x a1, exactpplmake_Src_N.f L a st (l.length : Int) = some (x, a1, st) ∧ Src L a1 := by
        by_cases h0 : (l.length : Int) < 1
        · exact ⟨0, a, n0_f hS st _ h0, hS⟩
        · obtain ⟨x, a1, e1, _, h4⟩ := n_f hS st (l.length : Int) (by omega) (by omega)
          exact ⟨x, a1, e1, h4⟩
      obtain ⟨x, a1, e1, h4⟩ := hN
      obtain ⟨k, r, a', e, q1, q2, q3⟩ := ihc (j + 1) a1 (ks ++ [x]) (by omega) (by omega) (by simp; omega) h4
      refine ⟨k + 1, r, a', ?_, q1, q2, q3⟩
      simp only [exactpplmake_Src_Nodes.l1]
      rw [width_f s hs.1 (by omega), Option.bind_some, if_pos hj, e1, Option.bind_some, if_pos (by omega), w64_succ (by omega)]
      exact e
    · obtain ⟨k, r, a', e, q1, q2, q3⟩ := nd_j3 ih l a s v ks hl hg hS ⟨by omega, by omega⟩ hv (by omega)
      refine ⟨k + 1, r, a', ?_, q1, q2, q3⟩
      simp only [exactpplmake_Src_Nodes.l1]
      rw [width_f s hs.1 (by omega), Option.bind_some, if_neg hj]
      exact e
theorem nd_l0 {L : List Int} (st : Int) : ∀ (m : Nat) (l : List Nd) (a : Int), l.length + m ≤ 8 → (∀ n ∈ l, NdG n) → Src L a → NdEnd L st fun k => exactpplmake_Src_Nodes.l0 k l (m : Int) L a st := by
  intro m
  induction m with
  | zero =>
    intro l a hl hg hS
    refine ⟨1, l, a, ?_, hg, by omega, hS⟩
    simp only [exactpplmake_Src_Nodes.l0]
    rw [if_neg (by omega)]
  | succ m ih =>
    intro l a hl hg hS
    obtain ⟨x, a1, e1, hx, h1⟩ := range_f hS st (-2) 2 (by omega) (by omega) (by omega)
    by_cases h0 : (l.length : Int) > 0
    · obtain ⟨y, a2, e2, hy, h2⟩ := n_f h1 st 3 (by omega) (by omega)
      by_cases hy0 : y > 0
      · obtain ⟨z, a3, e3, hz, h3⟩ := n_f h2 st 3 (by omega) (by omega)
        obtain ⟨k, r, a', e, q1, q2, q3⟩ := nd_l1 ih l z 0 (by omega) hg ⟨hz.1, by omega⟩ (by omega) 3 0 a3 [] (by omega) (by omega) rfl h3
        refine ⟨k + 1 + 1, r, a', ?_, q1, q2, q3⟩
        simp only [exactpplmake_Src_Nodes.l0, exactpplmake_Src_Nodes.j1]
        rw [if_pos (by omega), e1, Option.bind_some, if_pos h0]
        simp only
        rw [e2, Option.bind_some]
        simp only
        rw [decide_eq_true hy0, if_pos rfl, e3, Option.bind_some]
        exact e
      · obtain ⟨k, r, a', e, q1, q2, q3⟩ := nd_j3 ih l a2 (-1) x [] (by omega) hg h2 (by omega) (by omega) (by simp)
        refine ⟨k + 1 + 1, r, a', ?_, q1, q2, q3⟩
        simp only [exactpplmake_Src_Nodes.l0, exactpplmake_Src_Nodes.j1]
        rw [if_pos (by omega), e1, Option.bind_some, if_pos h0]
        simp only
        rw [e2, Option.bind_some]
        simp only
        rw [decide_eq_false hy0, if_neg (by decide)]
        exact e
    · obtain ⟨k, r, a', e, q1, q2, q3⟩ := nd_j3 ih l a1 (-1) x [] (by omega) hg h1 (by omega) (by omega) (by simp)
      refine ⟨k + 1 + 1, r, a', ?_, q1, q2, q3⟩
      simp only [exactpplmake_Src_Nodes.l0, exactpplmake_Src_Nodes.j1]
      rw [if_pos (by omega), e1, Option.bind_some, if_neg h0]
      simp only
      rw [if_neg (by decide)]
      exact e
theorem NdG.ok {l : List Nd} (h : ∀ n ∈ l, NdG n) (hl : l.length ≤ 1000) : ndOk l = true := by
  unfold ndOk
  rw [Bool.and_eq_true, List.all_eq_true]
  refine ⟨fun n hn => decide_eq_true ?_, decide_eq_true (by omega)⟩
  have := h n hn
  unfold NdG at this
  omega
theorem nodes_f {L : List Int} {a : Int} (h : Src L a) (st : Int) : ∃ K r a', (∀ k, K ≤ k → exactpplmake_Src_Nodes.f k L a st = some (r, a', st)) ∧ (∀ n ∈ r, NdG n) ∧ r.length ≤ 8 ∧ Src L a' := by
  obtain ⟨x, a1, e1, hx, h1⟩ := n_f h st 9 (by omega) (by omega)
  obtain ⟨m, rfl⟩ : ∃ m : Nat, x = m := ⟨x.toNat, by omega⟩
  obtain ⟨k, r, a', e, q1, q2, q3⟩ := nd_l0 (L := L) st m [] a1 (by simp; omega) (by simp) h1
  refine ⟨k, r, a', fun k' hk => mono_le (f := fun k => exactpplmake_Src_Nodes.f k L a st) (fun k => exactpplmake_Src_Nodes.mono L a st k) hk ?_, q1, q2, q3⟩
  show exactpplmake_Src_Nodes.f k L a st = _
  unfold exactpplmake_Src_Nodes.f
  rw [e1, Option.bind_some]
  exact e
end Go.Proofs.YtopbjginpmdebaaDoor.K
namespace Go.Proofs.YtopbjginpmdebaaDoor.K
open Go.RowKit Go.Proofs.YtopbjginpmdebaaDoorW.PrintWords Go.Proofs.YtopbjginpmdebaaDoorW.PrintLast Go.Proofs.YtopbjginpmdebaaDoorW.PrintMore
attribute [local go_sem] max2_int min2_int max_two min_two max_three min_three max_four min_four   -- for this text's walks alone
set_option linter.unusedVariables false
set_option linter.unusedSimpArgs false

/-! ### exactppllaw19_reduces: function 14 -/
def exactppllaw19_reduces.f (k : Nat) (l0 : List (S60)) : Option (Bool) := (diagram_Reduce.f l0).bind fun bt213 => ((exactpplref19_Reduce.f k l0).bind fun bt218 => (if bt213.2 = bt218.2 then ((exactpplref19_Same.f k bt213.1 bt218.1).bind fun t223 => (if t223 = true then ((diagram_Validate.f l0).bind fun t224 => ((exactpplref19_Validate.f k l0).bind fun t225 => (some (t224 == t225)))) else (some false))) else (some false)))
theorem exactppllaw19_reduces.mono : ∀ a0 k, LeO (exactppllaw19_reduces.f k a0) (exactppllaw19_reduces.f (k + 1) a0) := by
 intro a0 k
 unfold exactppllaw19_reduces.f
 repeat' first
   | (with_reducible exact exactpplref19_Reduce.mono _ _)
   | (with_reducible exact exactpplref19_Same.mono _ _ _)
   | (with_reducible exact exactpplref19_Validate.mono _ _)
   | (with_reducible exact LeO.refl _)
   | (with_reducible exact LeO.none _)
   | (with_reducible refine LeO.ite ?_ ?_)
   | (with_reducible refine LeO.bind ?_ (fun _ => ?_))
   | exact exactpplref19_Reduce.mono _ _
   | exact exactpplref19_Same.mono _ _ _
   | exact exactpplref19_Validate.mono _ _
   | exact LeO.none _
   | refine LeO.ite ?_ ?_
   | refine LeO.bind ?_ (fun _ => ?_)
set_option maxHeartbeats 8000000 in
set_option maxRecDepth 100000 in
theorem exactppllaw19_reduces.calls (k : Nat) (A0 : Option Addr) (c0 : Nat) (l0 : List (S60)) (r : Bool) (w : World) (hr0 : Kd.C k60 w A0 l0.length l0) (hc0 : l0.length ≤ c0) (h : exactppllaw19_reduces.f k l0 = some r) (htab : PowTab w.heap.size w) :
  Calls Tryd.prog 14 #[.slice A0 l0.length c0] w fun e w' => e = .returned (.bool r) ∧ Below w.heap.size w w' := by
 have HTAB := Aside0.mk htab
 clear htab
 have hu31 := Tryd.underlying31
 have HR0 := Aside0.mk hr0
 have HC0 := Aside0.mk hc0
 clear hr0 hc0
 have HB := Aside0.mk (Below.refl w.heap.size w)
 have H : ((diagram_Reduce.f l0).bind fun bt213 => ((exactpplref19_Reduce.f k l0).bind fun bt218 => (if bt213.2 = bt218.2 then ((exactpplref19_Same.f k bt213.1 bt218.1).bind fun t223 => (if t223 = true then ((diagram_Validate.f l0).bind fun t224 => ((exactpplref19_Validate.f k l0).bind fun t225 => (some (t224 == t225)))) else (some false))) else (some false)))) = some r := h
 clear h
 replace H := Option.bind_eq_some_iff.mp H
 obtain ⟨⟨t213, t216⟩, A20, H⟩ := H
 replace H : ((exactpplref19_Reduce.f k l0).bind fun bt218 => (if t216 = bt218.2 then ((exactpplref19_Same.f k t213 bt218.1).bind fun t223 => (if t223 = true then ((diagram_Validate.f l0).bind fun t224 => ((exactpplref19_Validate.f k l0).bind fun t225 => (some (t224 == t225)))) else (some false))) else (some false))) = some r := H
 have A2 := Aside0.mk A20
 clear A20
 replace H := Option.bind_eq_some_iff.mp H
 obtain ⟨⟨t218, t221⟩, A30, H⟩ := H
 replace H : (if t216 = t221 then ((exactpplref19_Same.f k t213 t218).bind fun t223 => (if t223 = true then ((diagram_Validate.f l0).bind fun t224 => ((exactpplref19_Validate.f k l0).bind fun t225 => (some (t224 == t225)))) else (some false))) else (some false)) = some r := H
 have A3 := Aside0.mk A30
 clear A30
 by_cases c4 : t216 = t221
 ·rw [if_pos c4] at H
  have c4b0 : (t216 == t221) = true := beq_iff_eq.mpr c4
  have c4b1 : (t216 != t221) = false := bne_eq_false_iff_eq.mpr c4
  clear c4
  replace H := Option.bind_eq_some_iff.mp H
  obtain ⟨t223, A50, H⟩ := H
  replace H : (if t223 = true then ((diagram_Validate.f l0).bind fun t224 => ((exactpplref19_Validate.f k l0).bind fun t225 => (some (t224 == t225)))) else (some false)) = some r := H
  have A5 := Aside0.mk A50
  clear A50
  by_cases c6 : t223 = true
  ·subst c6
   have H1 : ((diagram_Validate.f l0).bind fun t224 => ((exactpplref19_Validate.f k l0).bind fun t225 => (some (t224 == t225)))) = some r := by rw [if_pos rfl] at H; exact H
   clear H
   have H := H1
   clear H1
   replace H := Option.bind_eq_some_iff.mp H
   obtain ⟨t224, A70, H⟩ := H
   replace H : ((exactpplref19_Validate.f k l0).bind fun t225 => (some (t224 == t225))) = some r := H
   have A7 := Aside0.mk A70
   clear A70
   replace H := Option.bind_eq_some_iff.mp H
   obtain ⟨t225, A80, H⟩ := H
   replace H : (some (t224 == t225)) = some r := H
   have A8 := Aside0.mk A80
   clear A80
   obtain rfl := Option.some.inj H
   go_enter Tryd.func14, Tryd.ntmps14
   go_wp2_with (first | ((with_reducible refine gate_callee (f := 19) rfl ?_); refine goesL_ (some 9) rfl rfl Tryd.func19 (by kernel_rfl) rfl #[.slice A0 l0.length c0] rfl (by (try simp only [List.map_toArray, List.map_cons, List.map_nil]); first | done | rfl | (simp only [List.length_drop, List.length_take]; rfl)) ?_; (with_reducible refine (diagram_Reduce.calls _ _ l0 t213 t216 _ ?side1 ?side2 A2.out ?tab).mono ?_); (case tab => exact ptab HTAB.out bl_); (case side1 => repeat (first | exact HR0.out | (with_reducible refine Kd.C_alloc ?_ _) | (with_reducible refine Kd.C_drewN ?_ _) | (with_reducible refine Kd.C_drew ?_))); (case side2 => exact HC0.out); rintro e w9 ⟨v214, rfl, ho0, hb⟩; refine ⟨_, rfl, ?_⟩; have HO215 := Aside0.mk (Kd.V_lower (Kd.V_mono (ok' := fun k_ => True) ho0 (fun k_ hk_ => trivial)) (below_size bl_)); replace HB := Aside0.mk (below_step bl_ hb); (try clear hb); (try clear hb2); (try clear hk); (try clear hi); (try clear ho0)) | ((with_reducible refine gate_dst (N := 3) rfl ?_); refine box_event ?hg (N := 3) ?hd (cs := #[.slice none 0 0]) (t := 31) ?hr ?_; (case hd => rfl); (case hg => rfl); (case hr => first | (go_simp; done) | (go_simp; rfl)); intro gb217 hg w10 hbox hb; have BK217 := Aside0.mk (hbox); have GW217 : Aside0 (w.heap.size ≤ gb217) := gw_ hg (below_size bl_); have GE217 := GW217; replace HO215 := Aside0.mk (Kd.V_below (Kd.V_elderB (pV_ HO215.out) gb217 (Nat.le_of_eq hg.symm)) hb); replace HB := Aside0.mk (below_step bl_ hb); clear hb hbox hg; obtain ⟨Ao11, co11, eo11⟩ := Kd.V_slice HO215.out; subst eo11; obtain ⟨hcz12_0, hfz12_0⟩ := cf1_ BK217.out) | ((with_reducible refine gate_callee (f := 43) rfl ?_); refine goesL_ (some 14) rfl rfl Tryd.func43 (by kernel_rfl) rfl #[.slice A0 l0.length c0] rfl (by (try simp only [List.map_toArray, List.map_cons, List.map_nil]); first | done | rfl | (simp only [List.length_drop, List.length_take]; rfl)) ?_; (with_reducible refine (exactpplref19_Reduce.calls k _ _ l0 t218 t221 _ ?side1 ?side2 A3.out).mono ?_); (case side1 => exact Kd.C_below HR0.out bl_); (case side2 => exact HC0.out); rintro e w13 ⟨v219, rfl, ho0, hb⟩; refine ⟨_, rfl, ?_⟩; have HO220 := Aside0.mk (Kd.V_lower (Kd.V_mono (ok' := fun k_ => k_ ≠ gb217) ho0 (fun k_ hk_ => (Kd.freshB (g := gb217) (o := .cells #[.slice Ao11 t213.length co11] 31 (0, 0)) (by (with_reducible repeat (first | refine blk_drewN ?_ _ | refine blk_drew ?_ | refine blk_alloc ?_ _)); refine blk_put (cs := #[.slice none 0 0]) ?_ 0 _ rfl; (with_reducible repeat (first | refine blk_drewN ?_ _ | refine blk_drew ?_ | refine blk_alloc ?_ _)); exact BK217.out) k_ hk_))) (below_size bl_)); replace HO215 := Aside0.mk (Kd.V_below (by (with_reducible repeat (first | apply Kd.V_alloc | apply Kd.V_drewN | apply Kd.V_drew)); exact (Kd.V_mono (Kd.V_far (p := ⟨gb217, 0, none⟩) (Kd.V_mono HO215.out (fun k_ hk => (⟨hk, by first | exact hk.2 | exact hk.1 | exact hk.2 | exact hk.1.1 | exact hk.1.2⟩ : _ ∧ k_ ≠ gb217))) (fun _ hk => hk.2) (.slice Ao11 t213.length co11)) (fun _ h_ => h_.1))) hb); replace BK217 := Aside0.mk (blk_below (g := gb217) (o := .cells #[.slice Ao11 t213.length co11] 31 (0, 0)) (by (with_reducible repeat (first | refine blk_drewN ?_ _ | refine blk_drew ?_ | refine blk_alloc ?_ _)); refine blk_put (cs := #[.slice none 0 0]) ?_ 0 _ rfl; (with_reducible repeat (first | refine blk_drewN ?_ _ | refine blk_drew ?_ | refine blk_alloc ?_ _)); exact BK217.out) hb); replace HB := Aside0.mk (below_step bl_ hb); (try clear hb); (try clear hb2); (try clear hk); (try clear hi); (try clear ho0)) | ((with_reducible refine gate_dst (N := 5) rfl ?_); refine box_event ?hg (N := 5) ?hd (cs := #[.slice none 0 0]) (t := 31) ?hr ?_; (case hd => rfl); (case hg => rfl); (case hr => first | (go_simp; done) | (go_simp; rfl)); intro gb222 hg w14 hbox hb; have BK222 := Aside0.mk (hbox); have GW222 : Aside0 (w.heap.size ≤ gb222) := gw_ hg (below_size bl_); have GE222 := GW222; have NB217_222 := Aside0.mk ((by rw [hg]; exact Nat.ne_of_lt (blk_lt (g := gb217) (o := .cells #[.slice Ao11 t213.length co11] 31 (0, 0)) bk_) : gb217 ≠ gb222)); have NB222_217 := Aside0.mk ((by rw [hg]; exact Nat.ne_of_gt (blk_lt (g := gb217) (o := .cells #[.slice Ao11 t213.length co11] 31 (0, 0)) bk_) : gb222 ≠ gb217)); replace HO215 := Aside0.mk (Kd.V_below (Kd.V_elderB (pV_ HO215.out) gb222 (Nat.le_of_eq hg.symm)) hb); replace HO220 := Aside0.mk (Kd.V_below (Kd.V_elderB (pV_ HO220.out) gb222 (Nat.le_of_eq hg.symm)) hb); replace BK217 := Aside0.mk (blk_below (g := gb217) (o := .cells #[.slice Ao11 t213.length co11] 31 (0, 0)) bk_ hb); replace HB := Aside0.mk (below_step bl_ hb); clear hb hbox hg; obtain ⟨Ao15, co15, eo15⟩ := Kd.V_slice HO220.out; subst eo15; have hnb16 := NB222_217.out; have hnc16 := NB217_222.out; obtain ⟨hcz17_0, hfz17_0⟩ := cf1_ BK222.out; obtain ⟨hcz18_0, hfz18_0⟩ := cf1_ BK217.out) | (go_at_call 20; (with_reducible refine (exactpplref19_Same.calls k _ _ t213 _ _ t218 true _ ?side1 ?side2 ?side3 ?side4 A5.out).mono ?_); (case side1 => refine (Kd.V_reads' (e := 60) (base := w.heap.size) (ok := fun k_ => ((True ∧ k_ ≠ gb217) ∧ k_ ≠ gb222)) (n := t213.length) (c := co11) ?_).2.2; exact (by (with_reducible repeat (first | apply Kd.V_alloc | apply Kd.V_drewN | apply Kd.V_drew)); exact (Kd.V_mono (Kd.V_far (p := ⟨gb222, 0, none⟩) (Kd.V_mono HO215.out (fun k_ hk => (⟨hk, by first | exact hk.2 | exact hk.1 | exact hk.2 | exact hk.1.1 | exact hk.1.2⟩ : _ ∧ k_ ≠ gb222))) (fun _ hk => hk.2) (.slice Ao15 t218.length co15)) (fun _ h_ => h_.1)))); (case side2 => exact (Kd.V_reads' HO215.out).2.1); (case side3 => refine (Kd.V_reads' (e := 60) (base := w.heap.size) (ok := fun k_ => (k_ ≠ gb217 ∧ k_ ≠ gb222)) (n := t218.length) (c := co15) ?_).2.2; exact (by (with_reducible repeat (first | apply Kd.V_alloc | apply Kd.V_drewN | apply Kd.V_drew)); exact (Kd.V_mono (Kd.V_far (p := ⟨gb222, 0, none⟩) (Kd.V_mono HO220.out (fun k_ hk => (⟨hk, by first | exact hk.2 | exact hk.1 | exact hk.2 | exact hk.1.1 | exact hk.1.2⟩ : _ ∧ k_ ≠ gb222))) (fun _ hk => hk.2) (.slice Ao15 t218.length co15)) (fun _ h_ => h_.1)))); (case side4 => exact (Kd.V_reads' HO220.out).2.1); rintro e w19 ⟨rfl, hb⟩; replace HO215 := Aside0.mk (Kd.V_below (by (with_reducible repeat (first | apply Kd.V_alloc | apply Kd.V_drewN | apply Kd.V_drew)); exact (Kd.V_mono (Kd.V_far (p := ⟨gb222, 0, none⟩) (Kd.V_mono HO215.out (fun k_ hk => (⟨hk, by first | exact hk.2 | exact hk.1 | exact hk.2 | exact hk.1.1 | exact hk.1.2⟩ : _ ∧ k_ ≠ gb222))) (fun _ hk => hk.2) (.slice Ao15 t218.length co15)) (fun _ h_ => h_.1))) hb); replace HO220 := Aside0.mk (Kd.V_below (by (with_reducible repeat (first | apply Kd.V_alloc | apply Kd.V_drewN | apply Kd.V_drew)); exact (Kd.V_mono (Kd.V_far (p := ⟨gb222, 0, none⟩) (Kd.V_mono HO220.out (fun k_ hk => (⟨hk, by first | exact hk.2 | exact hk.1 | exact hk.2 | exact hk.1.1 | exact hk.1.2⟩ : _ ∧ k_ ≠ gb222))) (fun _ hk => hk.2) (.slice Ao15 t218.length co15)) (fun _ h_ => h_.1))) hb); replace BK217 := Aside0.mk (blk_below (g := gb217) (o := .cells #[.slice Ao11 t213.length co11] 31 (0, 0)) (by (with_reducible repeat (first | refine blk_drewN ?_ _ | refine blk_drew ?_ | refine blk_alloc ?_ _)); refine blk_far ?_ NB217_222.out _; (with_reducible repeat (first | refine blk_drewN ?_ _ | refine blk_drew ?_ | refine blk_alloc ?_ _)); exact BK217.out) hb); replace BK222 := Aside0.mk (blk_below (g := gb222) (o := .cells #[.slice Ao15 t218.length co15] 31 (0, 0)) (by (with_reducible repeat (first | refine blk_drewN ?_ _ | refine blk_drew ?_ | refine blk_alloc ?_ _)); refine blk_put (cs := #[.slice none 0 0]) ?_ 0 _ rfl; (with_reducible repeat (first | refine blk_drewN ?_ _ | refine blk_drew ?_ | refine blk_alloc ?_ _)); exact BK222.out) hb); replace HB := Aside0.mk (below_step bl_ hb); (try clear hb); (try clear hb2); (try clear hk); (try clear hi)) | (go_at_call 21; (with_reducible refine (diagram_Validate.calls _ _ l0 t224 _ ?side1 ?side2 A7.out ?tab).mono ?_); (case tab => exact ptab HTAB.out bl_); (case side1 => repeat (first | exact (Kd.C_below HR0.out HB.out) | (with_reducible refine Kd.C_alloc ?_ _) | (with_reducible refine Kd.C_drewN ?_ _) | (with_reducible refine Kd.C_drew ?_))); (case side2 => exact HC0.out); rintro e w20 ⟨rfl, hb⟩; replace HO215 := Aside0.mk (Kd.V_below (pV_ HO215.out) hb); replace HO220 := Aside0.mk (Kd.V_below (pV_ HO220.out) hb); replace BK217 := Aside0.mk (blk_below (g := gb217) (o := .cells #[.slice Ao11 t213.length co11] 31 (0, 0)) bk_ hb); replace BK222 := Aside0.mk (blk_below (g := gb222) (o := .cells #[.slice Ao15 t218.length co15] 31 (0, 0)) bk_ hb); replace HB := Aside0.mk (below_step bl_ hb); (try clear hb); (try clear hb2); (try clear hk); (try clear hi)) | (go_at_call 44; (with_reducible refine (exactpplref19_Validate.calls k _ _ l0 t225 _ ?side1 ?side2 A8.out).mono ?_); (case side1 => repeat (first | exact (Kd.C_below HR0.out HB.out) | (with_reducible refine Kd.C_alloc ?_ _) | (with_reducible refine Kd.C_drewN ?_ _) | (with_reducible refine Kd.C_drew ?_))); (case side2 => exact HC0.out); rintro e w21 ⟨rfl, hb⟩; replace HO215 := Aside0.mk (Kd.V_below (pV_ HO215.out) hb); replace HO220 := Aside0.mk (Kd.V_below (pV_ HO220.out) hb); replace BK217 := Aside0.mk (blk_below (g := gb217) (o := .cells #[.slice Ao11 t213.length co11] 31 (0, 0)) bk_ hb); replace BK222 := Aside0.mk (blk_below (g := gb222) (o := .cells #[.slice Ao15 t218.length co15] 31 (0, 0)) bk_ hb); replace HB := Aside0.mk (below_step bl_ hb); (try clear hb); (try clear hb2); (try clear hk); (try clear hi)))
   go_ret
   exact ⟨re_, bl_⟩
  ·replace c6 := Bool.eq_false_iff.mpr c6
   subst c6
   have H1 : (some false) = some r := by rw [if_neg (show ¬ (false = true) by decide)] at H; exact H
   clear H
   have H := H1
   clear H1
   obtain rfl := Option.some.inj H
   go_enter Tryd.func14, Tryd.ntmps14
   go_wp2_with (first | ((with_reducible refine gate_callee (f := 19) rfl ?_); refine goesL_ (some 9) rfl rfl Tryd.func19 (by kernel_rfl) rfl #[.slice A0 l0.length c0] rfl (by (try simp only [List.map_toArray, List.map_cons, List.map_nil]); first | done | rfl | (simp only [List.length_drop, List.length_take]; rfl)) ?_; (with_reducible refine (diagram_Reduce.calls _ _ l0 t213 t216 _ ?side1 ?side2 A2.out ?tab).mono ?_); (case tab => exact ptab HTAB.out bl_); (case side1 => repeat (first | exact HR0.out | (with_reducible refine Kd.C_alloc ?_ _) | (with_reducible refine Kd.C_drewN ?_ _) | (with_reducible refine Kd.C_drew ?_))); (case side2 => exact HC0.out); rintro e w22 ⟨v214, rfl, ho0, hb⟩; refine ⟨_, rfl, ?_⟩; have HO215 := Aside0.mk (Kd.V_lower (Kd.V_mono (ok' := fun k_ => True) ho0 (fun k_ hk_ => trivial)) (below_size bl_)); replace HB := Aside0.mk (below_step bl_ hb); (try clear hb); (try clear hb2); (try clear hk); (try clear hi); (try clear ho0)) | ((with_reducible refine gate_dst (N := 3) rfl ?_); refine box_event ?hg (N := 3) ?hd (cs := #[.slice none 0 0]) (t := 31) ?hr ?_; (case hd => rfl); (case hg => rfl); (case hr => first | (go_simp; done) | (go_simp; rfl)); intro gb217 hg w23 hbox hb; have BK217 := Aside0.mk (hbox); have GW217 : Aside0 (w.heap.size ≤ gb217) := gw_ hg (below_size bl_); have GE217 := GW217; replace HO215 := Aside0.mk (Kd.V_below (Kd.V_elderB (pV_ HO215.out) gb217 (Nat.le_of_eq hg.symm)) hb); replace HB := Aside0.mk (below_step bl_ hb); clear hb hbox hg; obtain ⟨Ao24, co24, eo24⟩ := Kd.V_slice HO215.out; subst eo24; obtain ⟨hcz25_0, hfz25_0⟩ := cf1_ BK217.out) | ((with_reducible refine gate_callee (f := 43) rfl ?_); refine goesL_ (some 14) rfl rfl Tryd.func43 (by kernel_rfl) rfl #[.slice A0 l0.length c0] rfl (by (try simp only [List.map_toArray, List.map_cons, List.map_nil]); first | done | rfl | (simp only [List.length_drop, List.length_take]; rfl)) ?_; (with_reducible refine (exactpplref19_Reduce.calls k _ _ l0 t218 t221 _ ?side1 ?side2 A3.out).mono ?_); (case side1 => exact Kd.C_below HR0.out bl_); (case side2 => exact HC0.out); rintro e w26 ⟨v219, rfl, ho0, hb⟩; refine ⟨_, rfl, ?_⟩; have HO220 := Aside0.mk (Kd.V_lower (Kd.V_mono (ok' := fun k_ => k_ ≠ gb217) ho0 (fun k_ hk_ => (Kd.freshB (g := gb217) (o := .cells #[.slice Ao24 t213.length co24] 31 (0, 0)) (by (with_reducible repeat (first | refine blk_drewN ?_ _ | refine blk_drew ?_ | refine blk_alloc ?_ _)); refine blk_put (cs := #[.slice none 0 0]) ?_ 0 _ rfl; (with_reducible repeat (first | refine blk_drewN ?_ _ | refine blk_drew ?_ | refine blk_alloc ?_ _)); exact BK217.out) k_ hk_))) (below_size bl_)); replace HO215 := Aside0.mk (Kd.V_below (by (with_reducible repeat (first | apply Kd.V_alloc | apply Kd.V_drewN | apply Kd.V_drew)); exact (Kd.V_mono (Kd.V_far (p := ⟨gb217, 0, none⟩) (Kd.V_mono HO215.out (fun k_ hk => (⟨hk, by first | exact hk.2 | exact hk.1 | exact hk.2 | exact hk.1.1 | exact hk.1.2⟩ : _ ∧ k_ ≠ gb217))) (fun _ hk => hk.2) (.slice Ao24 t213.length co24)) (fun _ h_ => h_.1))) hb); replace BK217 := Aside0.mk (blk_below (g := gb217) (o := .cells #[.slice Ao24 t213.length co24] 31 (0, 0)) (by (with_reducible repeat (first | refine blk_drewN ?_ _ | refine blk_drew ?_ | refine blk_alloc ?_ _)); refine blk_put (cs := #[.slice none 0 0]) ?_ 0 _ rfl; (with_reducible repeat (first | refine blk_drewN ?_ _ | refine blk_drew ?_ | refine blk_alloc ?_ _)); exact BK217.out) hb); replace HB := Aside0.mk (below_step bl_ hb); (try clear hb); (try clear hb2); (try clear hk); (try clear hi); (try clear ho0)) | ((with_reducible refine gate_dst (N := 5) rfl ?_); refine box_event ?hg (N := 5) ?hd (cs := #[.slice none 0 0]) (t := 31) ?hr ?_; (case hd => rfl); (case hg => rfl); (case hr => first | (go_simp; done) | (go_simp; rfl)); intro gb222 hg w27 hbox hb; have BK222 := Aside0.mk (hbox); have GW222 : Aside0 (w.heap.size ≤ gb222) := gw_ hg (below_size bl_); have GE222 := GW222; have NB217_222 := Aside0.mk ((by rw [hg]; exact Nat.ne_of_lt (blk_lt (g := gb217) (o := .cells #[.slice Ao24 t213.length co24] 31 (0, 0)) bk_) : gb217 ≠ gb222)); have NB222_217 := Aside0.mk ((by rw [hg]; exact Nat.ne_of_gt (blk_lt (g := gb217) (o := .cells #[.slice Ao24 t213.length co24] 31 (0, 0)) bk_) : gb222 ≠ gb217)); replace HO215 := Aside0.mk (Kd.V_below (Kd.V_elderB (pV_ HO215.out) gb222 (Nat.le_of_eq hg.symm)) hb); replace HO220 := Aside0.mk (Kd.V_below (Kd.V_elderB (pV_ HO220.out) gb222 (Nat.le_of_eq hg.symm)) hb); replace BK217 := Aside0.mk (blk_below (g := gb217) (o := .cells #[.slice Ao24 t213.length co24] 31 (0, 0)) bk_ hb); replace HB := Aside0.mk (below_step bl_ hb); clear hb hbox hg; obtain ⟨Ao28, co28, eo28⟩ := Kd.V_slice HO220.out; subst eo28; have hnb29 := NB222_217.out; have hnc29 := NB217_222.out; obtain ⟨hcz30_0, hfz30_0⟩ := cf1_ BK222.out; obtain ⟨hcz31_0, hfz31_0⟩ := cf1_ BK217.out) | (go_at_call 20; (with_reducible refine (exactpplref19_Same.calls k _ _ t213 _ _ t218 false _ ?side1 ?side2 ?side3 ?side4 A5.out).mono ?_); (case side1 => refine (Kd.V_reads' (e := 60) (base := w.heap.size) (ok := fun k_ => ((True ∧ k_ ≠ gb217) ∧ k_ ≠ gb222)) (n := t213.length) (c := co24) ?_).2.2; exact (by (with_reducible repeat (first | apply Kd.V_alloc | apply Kd.V_drewN | apply Kd.V_drew)); exact (Kd.V_mono (Kd.V_far (p := ⟨gb222, 0, none⟩) (Kd.V_mono HO215.out (fun k_ hk => (⟨hk, by first | exact hk.2 | exact hk.1 | exact hk.2 | exact hk.1.1 | exact hk.1.2⟩ : _ ∧ k_ ≠ gb222))) (fun _ hk => hk.2) (.slice Ao28 t218.length co28)) (fun _ h_ => h_.1)))); (case side2 => exact (Kd.V_reads' HO215.out).2.1); (case side3 => refine (Kd.V_reads' (e := 60) (base := w.heap.size) (ok := fun k_ => (k_ ≠ gb217 ∧ k_ ≠ gb222)) (n := t218.length) (c := co28) ?_).2.2; exact (by (with_reducible repeat (first | apply Kd.V_alloc | apply Kd.V_drewN | apply Kd.V_drew)); exact (Kd.V_mono (Kd.V_far (p := ⟨gb222, 0, none⟩) (Kd.V_mono HO220.out (fun k_ hk => (⟨hk, by first | exact hk.2 | exact hk.1 | exact hk.2 | exact hk.1.1 | exact hk.1.2⟩ : _ ∧ k_ ≠ gb222))) (fun _ hk => hk.2) (.slice Ao28 t218.length co28)) (fun _ h_ => h_.1)))); (case side4 => exact (Kd.V_reads' HO220.out).2.1); rintro e w32 ⟨rfl, hb⟩; replace HO215 := Aside0.mk (Kd.V_below (by (with_reducible repeat (first | apply Kd.V_alloc | apply Kd.V_drewN | apply Kd.V_drew)); exact (Kd.V_mono (Kd.V_far (p := ⟨gb222, 0, none⟩) (Kd.V_mono HO215.out (fun k_ hk => (⟨hk, by first | exact hk.2 | exact hk.1 | exact hk.2 | exact hk.1.1 | exact hk.1.2⟩ : _ ∧ k_ ≠ gb222))) (fun _ hk => hk.2) (.slice Ao28 t218.length co28)) (fun _ h_ => h_.1))) hb); replace HO220 := Aside0.mk (Kd.V_below (by (with_reducible repeat (first | apply Kd.V_alloc | apply Kd.V_drewN | apply Kd.V_drew)); exact (Kd.V_mono (Kd.V_far (p := ⟨gb222, 0, none⟩) (Kd.V_mono HO220.out (fun k_ hk => (⟨hk, by first | exact hk.2 | exact hk.1 | exact hk.2 | exact hk.1.1 | exact hk.1.2⟩ : _ ∧ k_ ≠ gb222))) (fun _ hk => hk.2) (.slice Ao28 t218.length co28)) (fun _ h_ => h_.1))) hb); replace BK217 := Aside0.mk (blk_below (g := gb217) (o := .cells #[.slice Ao24 t213.length co24] 31 (0, 0)) (by (with_reducible repeat (first | refine blk_drewN ?_ _ | refine blk_drew ?_ | refine blk_alloc ?_ _)); refine blk_far ?_ NB217_222.out _; (with_reducible repeat (first | refine blk_drewN ?_ _ | refine blk_drew ?_ | refine blk_alloc ?_ _)); exact BK217.out) hb); replace BK222 := Aside0.mk (blk_below (g := gb222) (o := .cells #[.slice Ao28 t218.length co28] 31 (0, 0)) (by (with_reducible repeat (first | refine blk_drewN ?_ _ | refine blk_drew ?_ | refine blk_alloc ?_ _)); refine blk_put (cs := #[.slice none 0 0]) ?_ 0 _ rfl; (with_reducible repeat (first | refine blk_drewN ?_ _ | refine blk_drew ?_ | refine blk_alloc ?_ _)); exact BK222.out) hb); replace HB := Aside0.mk (below_step bl_ hb); (try clear hb); (try clear hb2); (try clear hk); (try clear hi)))
   go_ret
   exact ⟨re_, bl_⟩
 ·rw [if_neg c4] at H
  have c4b0 : (t216 == t221) = false := beq_eq_false_iff_ne.mpr c4
  have c4b1 : (t216 != t221) = true := bne_iff_ne.mpr c4
  obtain rfl := Option.some.inj H
  go_enter Tryd.func14, Tryd.ntmps14
  go_wp2_with (first | ((with_reducible refine gate_callee (f := 19) rfl ?_); refine goesL_ (some 9) rfl rfl Tryd.func19 (by kernel_rfl) rfl #[.slice A0 l0.length c0] rfl (by (try simp only [List.map_toArray, List.map_cons, List.map_nil]); first | done | rfl | (simp only [List.length_drop, List.length_take]; rfl)) ?_; (with_reducible refine (diagram_Reduce.calls _ _ l0 t213 t216 _ ?side1 ?side2 A2.out ?tab).mono ?_); (case tab => exact ptab HTAB.out bl_); (case side1 => repeat (first | exact HR0.out | (with_reducible refine Kd.C_alloc ?_ _) | (with_reducible refine Kd.C_drewN ?_ _) | (with_reducible refine Kd.C_drew ?_))); (case side2 => exact HC0.out); rintro e w33 ⟨v214, rfl, ho0, hb⟩; refine ⟨_, rfl, ?_⟩; have HO215 := Aside0.mk (Kd.V_lower (Kd.V_mono (ok' := fun k_ => True) ho0 (fun k_ hk_ => trivial)) (below_size bl_)); replace HB := Aside0.mk (below_step bl_ hb); (try clear hb); (try clear hb2); (try clear hk); (try clear hi); (try clear ho0)) | ((with_reducible refine gate_dst (N := 3) rfl ?_); refine box_event ?hg (N := 3) ?hd (cs := #[.slice none 0 0]) (t := 31) ?hr ?_; (case hd => rfl); (case hg => rfl); (case hr => first | (go_simp; done) | (go_simp; rfl)); intro gb217 hg w34 hbox hb; have BK217 := Aside0.mk (hbox); have GW217 : Aside0 (w.heap.size ≤ gb217) := gw_ hg (below_size bl_); have GE217 := GW217; replace HO215 := Aside0.mk (Kd.V_below (Kd.V_elderB (pV_ HO215.out) gb217 (Nat.le_of_eq hg.symm)) hb); replace HB := Aside0.mk (below_step bl_ hb); clear hb hbox hg; obtain ⟨Ao35, co35, eo35⟩ := Kd.V_slice HO215.out; subst eo35; obtain ⟨hcz36_0, hfz36_0⟩ := cf1_ BK217.out) | ((with_reducible refine gate_callee (f := 43) rfl ?_); refine goesL_ (some 14) rfl rfl Tryd.func43 (by kernel_rfl) rfl #[.slice A0 l0.length c0] rfl (by (try simp only [List.map_toArray, List.map_cons, List.map_nil]); first | done | rfl | (simp only [List.length_drop, List.length_take]; rfl)) ?_; (with_reducible refine (exactpplref19_Reduce.calls k _ _ l0 t218 t221 _ ?side1 ?side2 A3.out).mono ?_); (case side1 => exact Kd.C_below HR0.out bl_); (case side2 => exact HC0.out); rintro e w37 ⟨v219, rfl, ho0, hb⟩; refine ⟨_, rfl, ?_⟩; have HO220 := Aside0.mk (Kd.V_lower (Kd.V_mono (ok' := fun k_ => k_ ≠ gb217) ho0 (fun k_ hk_ => (Kd.freshB (g := gb217) (o := .cells #[.slice Ao35 t213.length co35] 31 (0, 0)) (by (with_reducible repeat (first | refine blk_drewN ?_ _ | refine blk_drew ?_ | refine blk_alloc ?_ _)); refine blk_put (cs := #[.slice none 0 0]) ?_ 0 _ rfl; (with_reducible repeat (first | refine blk_drewN ?_ _ | refine blk_drew ?_ | refine blk_alloc ?_ _)); exact BK217.out) k_ hk_))) (below_size bl_)); replace HO215 := Aside0.mk (Kd.V_below (by (with_reducible repeat (first | apply Kd.V_alloc | apply Kd.V_drewN | apply Kd.V_drew)); exact (Kd.V_mono (Kd.V_far (p := ⟨gb217, 0, none⟩) (Kd.V_mono HO215.out (fun k_ hk => (⟨hk, by first | exact hk.2 | exact hk.1 | exact hk.2 | exact hk.1.1 | exact hk.1.2⟩ : _ ∧ k_ ≠ gb217))) (fun _ hk => hk.2) (.slice Ao35 t213.length co35)) (fun _ h_ => h_.1))) hb); replace BK217 := Aside0.mk (blk_below (g := gb217) (o := .cells #[.slice Ao35 t213.length co35] 31 (0, 0)) (by (with_reducible repeat (first | refine blk_drewN ?_ _ | refine blk_drew ?_ | refine blk_alloc ?_ _)); refine blk_put (cs := #[.slice none 0 0]) ?_ 0 _ rfl; (with_reducible repeat (first | refine blk_drewN ?_ _ | refine blk_drew ?_ | refine blk_alloc ?_ _)); exact BK217.out) hb); replace HB := Aside0.mk (below_step bl_ hb); (try clear hb); (try clear hb2); (try clear hk); (try clear hi); (try clear ho0)) | ((with_reducible refine gate_dst (N := 5) rfl ?_); refine box_event ?hg (N := 5) ?hd (cs := #[.slice none 0 0]) (t := 31) ?hr ?_; (case hd => rfl); (case hg => rfl); (case hr => first | (go_simp; done) | (go_simp; rfl)); intro gb222 hg w38 hbox hb; have BK222 := Aside0.mk (hbox); have GW222 : Aside0 (w.heap.size ≤ gb222) := gw_ hg (below_size bl_); have GE222 := GW222; have NB217_222 := Aside0.mk ((by rw [hg]; exact Nat.ne_of_lt (blk_lt (g := gb217) (o := .cells #[.slice Ao35 t213.length co35] 31 (0, 0)) bk_) : gb217 ≠ gb222)); have NB222_217 := Aside0.mk ((by rw [hg]; exact Nat.ne_of_gt (blk_lt (g := gb217) (o := .cells #[.slice Ao35 t213.length co35] 31 (0, 0)) bk_) : gb222 ≠ gb217)); replace HO215 := Aside0.mk (Kd.V_below (Kd.V_elderB (pV_ HO215.out) gb222 (Nat.le_of_eq hg.symm)) hb); replace HO220 := Aside0.mk (Kd.V_below (Kd.V_elderB (pV_ HO220.out) gb222 (Nat.le_of_eq hg.symm)) hb); replace BK217 := Aside0.mk (blk_below (g := gb217) (o := .cells #[.slice Ao35 t213.length co35] 31 (0, 0)) bk_ hb); replace HB := Aside0.mk (below_step bl_ hb); clear hb hbox hg; obtain ⟨Ao39, co39, eo39⟩ := Kd.V_slice HO220.out; subst eo39; have hnb40 := NB222_217.out; have hnc40 := NB217_222.out; obtain ⟨hcz41_0, hfz41_0⟩ := cf1_ BK222.out))
  go_ret
  exact ⟨re_, bl_⟩

end Go.Proofs.YtopbjginpmdebaaDoor.K
-- reduces
namespace Go.Proofs.YtopbjginpmdebaaDoor.K
open Go.RowKit Go.Maps Go.Proofs.YtopbjginpmdebaaDoorW.PrintWords Go.Proofs.YtopbjginpmdebaaDoorW.PrintLast Go.Proofs.YtopbjginpmdebaaDoorW.PrintMore
set_option linter.unusedVariables false
set_option linter.unusedSimpArgs false
theorem reduces_f (l : List Nd) (h : ndOk l = true) (k : Nat) (hk : rnd l ≤ k) : exactppllaw19_reduces.f k l = some true := by
  have hl := redL_len l
  have hk' := hk
  unfold rnd at hk'
  unfold exactppllaw19_reduces.f diagram_Reduce.f
  rw [if_pos h, Option.bind_some, refReduce_f l h k hk, Option.bind_some, if_pos rfl, same_f _ _ (by show (redL l).length < _; omega) 1073741824 (by decide) (fun n hn => Nat.le_trans (redL_kids16 l n hn) (by decide)) k (by show (redL l).length + _ < _; omega), Option.bind_some, if_pos (by simp)]
  unfold diagram_Validate.f
  rw [if_pos h, Option.bind_some, refValidate_f l h k hk, Option.bind_some]
  simp
theorem wf_of {l : List Int} (h : ∀ x ∈ l, (Lit.int .i64 x).wf = true) : ∀ x ∈ l, -9223372036854775808 ≤ x ∧ x ≤ 9223372036854775807 := by
  intro x hx
  have h1 := h x hx
  have h2 : IntKind.i64.min ≤ x ∧ x ≤ 9223372036854775807 := by simpa [Lit.wf] using h1
  have h3 : IntKind.i64.min = -9223372036854775808 := by decide
  omega
end Go.Proofs.YtopbjginpmdebaaDoor.K
-- the shape of the diagrams that are made; Src.Diagram
namespace Go.Proofs.YtopbjginpmdebaaDoor.K
open Go.RowKit Go.Maps Go.Proofs.YtopbjginpmdebaaDoorW.PrintWords Go.Proofs.YtopbjginpmdebaaDoorW.PrintLast Go.Proofs.YtopbjginpmdebaaDoorW.PrintMore
set_option linter.unusedVariables false
set_option linter.unusedSimpArgs false
/-- the shape of what is made -/
def wd (s : Int) : Nat := (2 + s % 2).toNat
/-- how many nodes at most -/
def bnd : Nat → Nat
  | 0 => 1
  | n + 1 => 3 * bnd n + 1
theorem bnd_le : ∀ n, n ≤ 6 → bnd n ≤ 1093 := by
  intro n hn
  match n, hn with
  | 0, _ => decide
  | 1, _ => decide
  | 2, _ => decide
  | 3, _ => decide
  | 4, _ => decide
  | 5, _ => decide
  | 6, _ => decide
theorem bnd_mono (n : Nat) : bnd n ≤ bnd (n + 1) := by simp only [bnd]; omega
theorem bnd_pos (n : Nat) : 1 ≤ bnd n := by
  cases n with
  | zero => exact Nat.le_refl _
  | succ n => simp only [bnd]; omega
/-- a diagram that was made over the sites from lo to hi -/
structure Dg (lo hi : Int) (n : Nat) (r : List Nd) : Prop where
  gr : grB r = true
  shp : GrS wd r
  can : Can r
  len : r.length ≤ bnd n
  all : AllF (fun x => lo ≤ x ∧ x ≤ hi) r
theorem Dg.const {lo hi : Int} {n : Nat} (v : Int) (h : -1073741824 ≤ v ∧ v ≤ 1073741824) : Dg lo hi n [⟨-1, v, []⟩] := by
  have hs : GrS wd [⟨-1, v, []⟩] := ⟨fun i hi => by
    obtain rfl : i = 0 := by simp at hi; omega
    exact .inl (lf_iff.2 ⟨rfl, rfl, h.1, h.2⟩)⟩
  have hr : Red [⟨-1, v, []⟩] := ⟨fun i hi k hk => by
    obtain rfl : i = 0 := by simp at hi; omega
    simp [nth] at hk, by simp, by simp, by simp, by simp⟩
  refine ⟨hs.gr (by simp), hs, ⟨hr, by simp, ?_⟩, by simpa using bnd_pos n, ?_⟩
  · simp [expo, dfs, fin, upd, nth, mp]
  · intro n hn h0
    simp at hn
    subst hn
    simp at h0
theorem Dg.weaken {lo lo' hi : Int} {n m : Nat} {r : List Nd} (h : Dg lo hi n r) (h1 : lo' ≤ lo) (h2 : bnd n ≤ bnd m) : Dg lo' hi m r := ⟨h.gr, h.shp, h.can, Nat.le_trans h.len h2, fun x hx h0 => ⟨by have := (h.all x hx h0).1; omega, (h.all x hx h0).2⟩⟩
theorem sumL_le {m : Nat} : ∀ (ds : List S31), (∀ d ∈ ds, d.f0.length ≤ m) → sumL ds ≤ ds.length * m
  | [], _ => by simp [sumL]
  | d :: ds, h => by
    have h1 := h d List.mem_cons_self
    have h2 := sumL_le ds (fun e he => h e (List.mem_cons_of_mem _ he))
    simp only [sumL, List.map_cons, List.sum_cons, List.length_cons] at h2 ⊢
    rw [Nat.add_mul]; omega
theorem Dg.join {lo hi : Int} {n : Nat} {ds : List S31} (hd : ∀ d ∈ ds, Dg (lo + 1) hi n d.f0) (hl : ds.length = wd lo) (hlo : 0 ≤ lo ∧ lo ≤ hi) (hhi : hi ≤ 60) (hn : n ≤ 5) : exactpplref19_Join.f lo ds = some (jn lo ds) ∧ Dg lo hi (n + 1) (jn lo ds) := by
  have hw : wd lo = 2 ∨ wd lo = 3 := by unfold wd; omega
  have hne : ds ≠ [] := by intro e; rw [e] at hl; simp at hl; omega
  have hs := sumL_le ds (fun d hd' => (hd d hd').len)
  have hb := bnd_le n (by omega)
  have hs2 : sumL ds ≤ 3 * bnd n := Nat.le_trans hs (Nat.mul_le_mul_right _ (by omega))
  have hd1 : ∀ d ∈ ds, GrS wd d.f0 ∧ d.f0 ≠ [] ∧ AllF (fun x => lo < x) d.f0 := fun d hd' => ⟨(hd d hd').shp, gr_ne (hd d hd').gr, fun m hm h0 => by have := ((hd d hd').all m hm h0).1; omega⟩
  have hj := jn_ok hd1 ⟨hlo.1, by omega⟩ hne hl (by omega)
  have ht := jn_tb hd1 ⟨hlo.1, by omega⟩ hne hl (by omega)
  refine ⟨?_, ⟨hj.2.1, hj.1, hj.2.2.1, by simp only [bnd]; have := hj.2.2.2; omega, jn_all (fun d hd' m hm h0 => ⟨by have := ((hd d hd').all m hm h0).1; omega, ((hd d hd').all m hm h0).2⟩) ⟨Int.le_refl _, hlo.2⟩ ht.1.red.down ht.2.1⟩⟩
  unfold exactpplref19_Join.f
  rw [if_pos ⟨hlo.1, hne, by omega, by omega⟩, if_pos (List.all_eq_true.2 fun d hd' => (hd d hd').gr)]
/-- how a stretch of Diagram ends -/
def DgEnd (L : List Int) (st lo hi : Int) (n : Nat) (f : Nat → Option (List S60 × Int × Int)) : Prop := ∃ k r a', f k = some (r, a', st) ∧ Dg lo hi n r ∧ Src L a'
theorem diag_k {L : List Int} (st hi : Int) (hhi : hi ≤ 60) : ∀ (n : Nat), n ≤ 6 → ∀ (lo a : Int), 0 ≤ lo → hi - lo + 1 ≤ n → Src L a → DgEnd L st lo hi n fun k => exactpplmake_Src_Diagram.f k L a st lo hi := by
  intro n
  induction n with
  | zero =>
    intro hn lo a h0 h1 hS
    obtain ⟨x, a1, e1, hx, h2⟩ := range_f hS st (-2) 3 (by omega) (by omega) (by omega)
    refine ⟨1 + 1, [⟨-1, x, []⟩], a1, ?_, Dg.const x (by omega), h2⟩
    simp only [exactpplmake_Src_Diagram.f, exactpplmake_Src_Diagram.j0]
    rw [if_pos (by omega), if_pos trivial, e1, Option.bind_some, exactpplref19_Const.f, Option.bind_some]
  | succ n ih =>
    intro hn lo a h0 h1 hS
    by_cases hgt : lo > hi
    · obtain ⟨x, a1, e1, hx, h2⟩ := range_f hS st (-2) 3 (by omega) (by omega) (by omega)
      refine ⟨1 + 1, [⟨-1, x, []⟩], a1, ?_, Dg.const x (by omega), h2⟩
      simp only [exactpplmake_Src_Diagram.f, exactpplmake_Src_Diagram.j0]
      rw [if_pos (by omega), if_pos trivial, e1, Option.bind_some, exactpplref19_Const.f, Option.bind_some]
    · obtain ⟨y, a1, e1, hy, h2⟩ := n_f hS st 5 (by omega) (by omega)
      by_cases hy0 : y = 0
      · obtain ⟨x, a2, e2, hx, h3⟩ := range_f h2 st (-2) 3 (by omega) (by omega) (by omega)
        refine ⟨1 + 1, [⟨-1, x, []⟩], a2, ?_, Dg.const x (by omega), h3⟩
        simp only [exactpplmake_Src_Diagram.f, exactpplmake_Src_Diagram.j0]
        rw [if_neg hgt, e1, Option.bind_some]
        simp only
        rw [if_pos (by simpa using hy0), e2, Option.bind_some, exactpplref19_Const.f, Option.bind_some]
      · obtain ⟨z, a2, e2, hz, h3⟩ := n_f h2 st 4 (by omega) (by omega)
        by_cases hz0 : z = 0
        · obtain ⟨k, r, a', e, q1, q2⟩ := ih (by omega) (lo + 1) a2 (by omega) (by omega) h3
          refine ⟨k + 1 + 1, r, a', ?_, q1.weaken (by omega) (bnd_mono n), q2⟩
          simp only [exactpplmake_Src_Diagram.f, exactpplmake_Src_Diagram.j0]
          rw [if_neg hgt, e1, Option.bind_some]
          simp only
          rw [if_neg (by simpa using hy0), e2, Option.bind_some]
          simp only
          have e' : exactpplmake_Src_Diagram.f k L a2 st (lo + 1) hi = some (r, a', st) := e
          rw [if_pos hz0, w64_id (by omega) (by omega), e', Option.bind_some]
        · -- the kids, one by one
          have hw : wd lo = 2 ∨ wd lo = 3 := by unfold wd; omega
          have key : ∀ (c j : Nat) (a : Int) (ds : List S31), wd lo - j ≤ c → j ≤ wd lo → ds.length = j → (∀ d ∈ ds, Dg (lo + 1) hi n d.f0) → Src L a → DgEnd L st lo hi (n + 1) fun k => exactpplmake_Src_Diagram.l0 k lo hi ds (j : Int) L a st := by
            intro c
            induction c with
            | zero =>
              intro j a ds g1 g2 g3 g4 g5
              obtain ⟨j1, j2⟩ := Dg.join g4 (by omega) ⟨h0, by omega⟩ hhi (by omega)
              refine ⟨1, jn lo ds, a, ?_, j2, g5⟩
              simp only [exactpplmake_Src_Diagram.l0]
              rw [width_f lo h0 (by omega), Option.bind_some, if_neg (by unfold wd at g1; omega), j1, Option.bind_some]
            | succ c ihc =>
              intro j a ds g1 g2 g3 g4 g5
              by_cases hj : j < wd lo
              · obtain ⟨k1, r, a', e, q1, q2⟩ := ih (by omega) (lo + 1) a (by omega) (by omega) g5
                obtain ⟨k2, r2, a2', e2', q3, q4⟩ := ihc (j + 1) a' (ds ++ [⟨r⟩]) (by omega) (by omega) (by simp; omega) (fun d hd => (List.mem_append.1 hd).elim (g4 d) (fun e => by rw [List.mem_singleton.1 e]; exact q1)) q2
                refine ⟨k1 + k2 + 1, r2, a2', ?_, q3, q4⟩
                simp only [exactpplmake_Src_Diagram.l0]
                have e' : exactpplmake_Src_Diagram.f (k1 + k2) L a st (lo + 1) hi = some (r, a', st) := mono_le (f := fun k => exactpplmake_Src_Diagram.f k L a st (lo + 1) hi) (fun k => exactpplmake_Src_Diagram.mono L a st (lo + 1) hi k) (show k1 ≤ k1 + k2 by omega) e
                have e2'' := mono_le (f := fun k => exactpplmake_Src_Diagram.l0 k lo hi (ds ++ [⟨r⟩]) ((j + 1 : Nat) : Int) L a' st) (fun k => (exactpplmake_Src_Diagram.mono_l k).2.2 _ _ _ _ _ _ _) (show k2 ≤ k1 + k2 by omega) e2'
                rw [width_f lo h0 (by omega), Option.bind_some, if_pos (by unfold wd at hj; omega), w64_id (x := lo + 1) (by omega) (by omega)]
                rw [e', Option.bind_some]
                simp only
                rw [if_pos (by omega), w64_succ (by omega)]
                exact e2''
              · obtain ⟨j1, j2⟩ := Dg.join g4 (by omega) ⟨h0, by omega⟩ hhi (by omega)
                refine ⟨1, jn lo ds, a, ?_, j2, g5⟩
                simp only [exactpplmake_Src_Diagram.l0]
                rw [width_f lo h0 (by omega), Option.bind_some, if_neg (by unfold wd at hj; omega), j1, Option.bind_some]
          obtain ⟨k, r, a', e, q1, q2⟩ := key 3 0 a2 [] (by omega) (by omega) rfl (by simp) h3
          refine ⟨k + 1 + 1, r, a', ?_, q1, q2⟩
          simp only [exactpplmake_Src_Diagram.f, exactpplmake_Src_Diagram.j0]
          rw [if_neg hgt, e1, Option.bind_some]
          simp only
          rw [if_neg (by simpa using hy0), e2, Option.bind_some]
          simp only
          rw [if_neg hz0]
          exact e
theorem diag_f {L : List Int} {a : Int} (h : Src L a) (st lo hi : Int) (h0 : 0 ≤ lo) (h1 : hi ≤ 5) : ∃ K r a', (∀ k, K ≤ k → exactpplmake_Src_Diagram.f k L a st lo hi = some (r, a', st)) ∧ Dg lo hi 6 r ∧ Src L a' := by
  obtain ⟨k, r, a', e, q1, q2⟩ := diag_k (L := L) st hi (by omega) 6 (by omega) lo a h0 (by omega) h
  exact ⟨k, r, a', fun k' hk => mono_le (f := fun k => exactpplmake_Src_Diagram.f k L a st lo hi) (fun k => exactpplmake_Src_Diagram.mono L a st lo hi k) hk e, q1, q2⟩
theorem Dg.ok {lo hi : Int} {r : List Nd} (h : Dg lo hi 6 r) : ndOk r = true := gr_ok h.gr (by have := h.len; have := bnd_le 6 (by omega); omega)
theorem Dg.len' {lo hi : Int} {r : List Nd} (h : Dg lo hi 6 r) : r.length ≤ 1093 := Nat.le_trans h.len (bnd_le 6 (by omega))
end Go.Proofs.YtopbjginpmdebaaDoor.K
-- the plain law of DiagramRestricts
namespace Go.Proofs.YtopbjginpmdebaaDoor.Pure
open Go.RowKit Go.Proofs.YtopbjginpmdebaaDoor.K Go.Proofs.YtopbjginpmdebaaDoorW.PrintWords Go.Proofs.YtopbjginpmdebaaDoorW.PrintLast
theorem refRs_l0 (l : List Nd) (site oc : Int) (hg : grB l = true) (hroom : (l.length + 2) * 40 ≤ 140737488355328) : ∀ (m j k : Nat), l.length - j ≤ m → j ≤ l.length → m < k → OcOk site oc (l.take j) →
    exactpplref19_Restrict.l0 k site oc (j : Int) l = some (if ocB site oc l = true then (fxR site oc l, 0) else ([], 1)) := by
  intro m
  have hend : ∀ k j : Nat, j = l.length → OcOk site oc (l.take j) → exactpplref19_Restrict.l0 (k + 1) site oc (j : Int) l = some (if ocB site oc l = true then (fxR site oc l, 0) else ([], 1)) := by
    intro k j e ho
    subst e
    rw [List.take_length] at ho
    have hb := ocB_iff.2 ho
    simp only [exactpplref19_Restrict.l0]
    rw [if_neg (by omega), exactpplref19_Fix.f, if_pos hroom, if_pos hg, if_pos hb, if_pos hb]
    rfl
  induction m with
  | zero =>
    intro j k h1 h2 h3 ho
    obtain ⟨k, rfl⟩ : ∃ k', k = k' + 1 := ⟨k - 1, by omega⟩
    exact hend k j (by omega) ho
  | succ m ih =>
    intro j k h1 h2 h3 ho
    obtain ⟨k, rfl⟩ : ∃ k', k = k' + 1 := ⟨k - 1, by omega⟩
    by_cases hj : j < l.length
    · have hnext : (0 ≤ (nth l (j : Int)).f0 → (nth l (j : Int)).f0 = site → 0 ≤ oc ∧ oc < ((nth l (j : Int)).f2.length : Int)) → exactpplref19_Restrict.l0 k site oc (wrap64 ((j : Int) + 1)) l = some (if ocB site oc l = true then (fxR site oc l, 0) else ([], 1)) := fun h => by
        rw [w64_succ (by omega)]
        exact ih (j + 1) k (by omega) (by omega) (by omega) (take_mem_oc hj ho h)
      have hm : nth l (j : Int) ∈ l := by rw [nth_lt hj]; exact List.getElem_mem hj
      have hf := gr_frm hg _ hm
      simp only [exactpplref19_Restrict.l0]
      rw [if_pos (by omega), if_pos (by omega), rd_nth, exactpplref19_IsBranch.f, Option.bind_some]
      by_cases h0 : (nth l (j : Int)).f0 = -1
      · rw [show ((nth l (j : Int)).f0 != -1) = false by simp [h0], if_neg (by decide)]
        exact hnext (fun h => by omega)
      · have hpos : 0 ≤ (nth l (j : Int)).f0 := by rcases hf with h | h; exact absurd h.1 h0; exact h.1
        rw [show ((nth l (j : Int)).f0 != -1) = true by simp [h0], if_pos rfl]
        by_cases hs : (nth l (j : Int)).f0 = site
        · rw [if_pos hs]
          have hbad : ¬ (0 ≤ oc ∧ oc < ((nth l (j : Int)).f2.length : Int)) → (some (([] : List S60), (1 : Int))) = some (if ocB site oc l = true then (fxR site oc l, 0) else ([], 1)) := fun h => by
            rw [if_neg (fun e => h (ocB_iff.1 e _ hm hpos hs))]
          by_cases h1 : oc < 0
          · rw [if_pos h1]; exact hbad (by omega)
          · rw [if_neg h1]
            by_cases h2 : oc ≥ ((nth l (j : Int)).f2.length : Int)
            · rw [if_pos h2]; exact hbad (by omega)
            · rw [if_neg h2]; exact hnext (fun _ _ => by omega)
        · rw [if_neg hs]
          exact hnext (fun _ h => absurd h hs)
    · exact hend k j (by omega) ho
theorem refRs_f (l : List Nd) (site oc : Int) (h : ndOk l = true) (hroom : (l.length + 2) * 40 ≤ 140737488355328) (k : Nat) (hk : rnd l ≤ k) : exactpplref19_Restrict.f k l site oc = some (rsL site oc l, rsE site oc l) := by
  unfold exactpplref19_Restrict.f
  rw [refValidate_f l h k hk, Option.bind_some]
  by_cases h0 : valE l = 0
  · obtain ⟨hg, _, _⟩ := val_ok h0
    unfold rnd at hk
    have := refRs_l0 l site oc hg hroom l.length 0 k (by omega) (by omega) (by omega) (by intro n hn; simp at hn)
    unfold rsL rsE
    rw [if_pos h0, if_pos h0, if_pos h0]
    refine this.trans ?_
    split <;> rfl
  · unfold rsL rsE
    rw [if_neg h0, if_neg h0, if_neg h0]
theorem rs_j1 (l : List Nd) (site oc : Int) (h : ndOk l = true) (hroom : (l.length + 2) * 40 ≤ 140737488355328) (k : Nat) (hk : rnd l ≤ k) : exactppllaw19_DiagramRestricts.j1 (k + 1) site oc l = some true := by
  have hs := rsL_small site oc l
  simp only [exactppllaw19_DiagramRestricts.j1]
  rw [diagram_Restrict.f, if_pos h, Option.bind_some, refRs_f l site oc h hroom k hk, Option.bind_some, if_pos rfl]
  unfold rnd at hk
  rw [same_f _ _ (by show (rsL site oc l).length < _; omega) 1073741824 (by decide) (fun n hn => Nat.le_trans (hs.2 n hn) (by decide)) k (by show (rsL site oc l).length + _ < _; omega), Option.bind_some, if_pos (by simp)]
  rfl
theorem DiagramRestricts : exactppllaw19_DiagramRestricts.Pure := by
  intro l site oc _ _ hw _ _
  obtain ⟨L, e1, h1⟩ := new_f l (wf_of hw)
  obtain ⟨K1, d, a1, e2, hd, h2⟩ := diag_f h1 0 0 3 (by omega) (by omega)
  obtain ⟨x, a2, e3, hx, h3⟩ := n_f h2 0 8 (by omega) (by omega)
  obtain ⟨K2, r, a3, e4, g1, g2, _⟩ := nodes_f h3 0
  obtain ⟨s2, a4, e5, _, h4⟩ := range_f h3 0 (-1) 4 (by omega) (by omega) (by omega)
  obtain ⟨o2, a5, e6, _, _⟩ := range_f h4 0 (-1) 3 (by omega) (by omega) (by omega)
  have hok := NdG.ok g1 (by omega)
  have hdl := hd.len'
  refine ⟨K1 + K2 + rnd d + rnd r + 1 + 1, ?_⟩
  unfold exactppllaw19_DiagramRestricts.f
  rw [e1, Option.bind_some]
  simp only
  rw [e2 _ (by omega), Option.bind_some]
  simp only
  rw [e3, Option.bind_some]
  simp only
  by_cases h0 : x = 0
  · rw [if_pos h0, e4 _ (by omega), Option.bind_some]
    exact rs_j1 r site oc hok (by omega) _ (by omega)
  · rw [if_neg h0]
    have hj : ∀ b : Bool, exactppllaw19_DiagramRestricts.j0 (K1 + K2 + rnd d + rnd r + 1 + 1) site oc b L a2 0 d = some true := by
      intro b
      simp only [exactppllaw19_DiagramRestricts.j0]
      cases b with
      | true =>
        rw [if_pos rfl, e5, Option.bind_some]
        simp only
        rw [e6, Option.bind_some]
        exact rs_j1 d s2 o2 hd.ok (by omega) _ (by omega)
      | false =>
        rw [if_neg (by decide)]
        exact rs_j1 d site oc hd.ok (by omega) _ (by omega)
    by_cases h1 : x = 1
    · rw [if_pos h1]; exact hj _
    · rw [if_neg h1]
      by_cases h2 : x = 2
      · rw [if_pos h2]; exact hj _
      · rw [if_neg h2]
        by_cases h3 : x = 3
        · rw [if_pos h3]; exact hj _
        · rw [if_neg h3]; exact hj _
end Go.Proofs.YtopbjginpmdebaaDoor.Pure
namespace Go.Proofs.YtopbjginpmdebaaDoorW.PrintWords
open Go.ChangeShapes Go.WideShapes
theorem sized_ints {H : Type} {enc : TypeId × Value → H} {P : Program} {W : World} {base : Nat} {spare : Nat → Bool} {held : Bool} {t e : TypeId} {k : IntKind} {a : Option Addr} {len cap : Nat} {d : DataW H} {ps : List MemPlace} {ts : List TypeId} {ds : List (DataW H)} {j : Nat}
    (hsz : (DataW.weightsEach P ts ds).all (· ≤ reachBytes) = true) (ht : ts[j]? = some t) (hd : ds[j]? = some d) (hu : P.underlying t = some (.slice e)) (he : P.underlying e = some (.int k)) (hc : P.cellsOf e = 1) {B : Nat} (hB : P.bytesOf e = B)
    (h : DataW.Trod enc P W base spare held t (.slice a len cap) d ps) : len * B ≤ 140737488351232 := by
  obtain ⟨fuel, hf⟩ := h
  rcases open_ints hu he hc hf with ⟨hcs, _⟩ | ⟨x, l, c, zs, hcs, _, hl, _, hz, hx, _, _⟩
  · simp [Value.cells] at hcs
    obtain ⟨rfl, rfl, rfl⟩ := hcs
    simp
  · simp [Value.cells] at hcs
    obtain ⟨rfl, rfl, rfl⟩ := hcs
    obtain ⟨hx, _⟩ := Prod.mk.inj hx
    subst hx
    have z := sized_slice hsz ht hd hu
    rw [hB] at z
    have hl2 : len ≤ zs.length := by
      rw [hz]
      split
      · exact hl
      · exact Nat.le_refl _
    have h1 : (lits (H := H) k (zs.take len)).length + (lits (H := H) k (zs.drop len)).length = zs.length := by
      simp [lits]
      omega
    rw [h1] at z
    exact Nat.le_trans (Nat.mul_le_mul_right _ hl2) z
end Go.Proofs.YtopbjginpmdebaaDoorW.PrintWords
