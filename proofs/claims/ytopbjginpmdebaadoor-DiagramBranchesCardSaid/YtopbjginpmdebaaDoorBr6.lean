/- Lemmas for: Proved: the tied card of exactppllaw19.DiagramBranches (for every list and site the law returns true). Conditions: none beyond the given row. -/
import Derived.Maps.RangeWalk
import Derived.StillTailTactics
import Derived.SizedLaws
import Derived.ChangeSlices
import Derived.Test.YtopbjginpmdebaaDoorBr2
import Derived.Test.YtopbjginpmdebaaDoorBr4
import Derived.Test.YtopbjginpmdebaaDoorBr5
-- diagram.Branch, walked
namespace Go.Proofs.YtopbjginpmdebaaDoor.K
open Go.RowKit Go.Maps Go.Proofs.YtopbjginpmdebaaDoorW.PrintWords Go.Proofs.YtopbjginpmdebaaDoorW.PrintLast Go.Proofs.YtopbjginpmdebaaDoorW.PrintMore
set_option linter.unusedVariables false
set_option linter.unusedSimpArgs false
/-- the numbers are a machine's -/
def DsOk (ds : List S31) : Prop := ∀ d ∈ ds, ∀ n ∈ d.f0, I64 n.f0 ∧ I64 n.f1 ∧ n.f2.length ≤ 1073741824
/-- between two rounds of the first loop -/
structure Br1 (w W : World) (ds : List S31) (k : Nat) : Prop where
  below : Below w.heap.size w W
  res : W.heap[w.heap.size]? = some (.cells #[.slice none 0 0] 31 (0, 0))
  ok : vdE (ds.take k) = 0
/-- between two rounds of the second loop -/
structure Br2 (w W : World) (mb : Nat) (ds : List S31) (k : Nat) (v : Value) : Prop where
  tb : BrTb w W (mb + 1) mb (mb + 2) (impKs (ds.take k)) v
  map : ∃ g m, shK (ds.take k) = some g ∧ IMap W (mb + 2) m g ∧ m ≤ sumL (ds.take k)
/-- how it ends with an error -/
theorem br_fin {w W : World} (er : Int) (h1 : Below w.heap.size w W) (h2 : W.heap[w.heap.size]? = some (.cells #[.slice none 0 0] 31 (0, 0))) : DgPost w [] er (.returned (.tuple #[.agg #[.slice none 0 0], .int .i64 er])) (W.setCell ⟨w.heap.size, 0, none⟩ (.slice none 0 0)) :=
  ⟨h1.setCell (p := ⟨w.heap.size, 0, none⟩) (Nat.le_refl _) _, _, rfl, Kd.R_nil _ _ _ _ _⟩
theorem ds_len {ds : List S31} {k : Nat} (hk : k < ds.length) : sumL (ds.take k) + ds[k].f0.length ≤ sumL ds := by
  have h1 := sumL_take_le ds (k + 1)
  rwa [List.take_succ_eq_append_getElem hk, sumL_snoc] at h1
set_option maxHeartbeats 32000000 in
set_option maxRecDepth 100000 in
theorem brw_calls (site : Int) (ds : List S31) (A : Option Addr) (c : Nat) (w : World) (hC : Kd.C k31 w A ds.length ds) (hc : ds.length ≤ c) (hs : I64 site) (hI : DsOk ds) (hsum : (sumL ds + 2) * 40 ≤ 140737488355328) (htab : PowTab w.heap.size w) (hrng : rngB site ds.length = true) :
    Calls Tryd.prog 34 #[.int .i64 site, .slice A ds.length c] w (DgPost w (brL site ds) (brE site ds)) := by
  have hmm := @run_makeMap Tryd.prog
  have hb0 : Below w.heap.size w (w.alloc (.cells #[.slice none 0 0] 31)) := (Below.refl _ w).alloc (Nat.le_refl _) _
  have hr0 := heap_alloc_new w (.cells #[.slice none 0 0] 31)
  have HB0 := Lib.hid hb0
  have HR0 := Lib.hid hr0
  have HC := Lib.hid hC
  have HI := Lib.hid hI
  have HSUM := Lib.hid hsum
  have HTAB := Lib.hid htab
  obtain ⟨N, hN⟩ : ∃ N, N = ds.length := ⟨_, rfl⟩
  have HN := Lib.hid hN
  rw [← hN] at hc hrng ⊢
  have HRNG := Lib.hid (show rngB site ds.length = true by rw [← hN]; exact hrng)
  obtain ⟨q0, q1, q2, q3⟩ : 0 ≤ site ∧ site < 64 ∧ 1 ≤ N ∧ N ≤ 16 := of_decide_eq_true hrng
  clear hC hI hsum htab hN hb0 hr0 hrng
  go_enter Tryd.func34, Tryd.ntmps34
  go_wp2
  go_loopw [36] (fun i wr => ∃ k : Nat, i = .int .i64 k ∧ k ≤ N ∧ Aside0 (Br1 w wr ds k)) (fun i _ => N - (intOf i).toNat)
  case atStart => exact ⟨0, rfl, Nat.zero_le _, ⟨⟨HB0.out, HR0.out, by simp [vdE]⟩⟩⟩
  case round =>
    obtain ⟨k, rfl, hk, hst⟩ := hrel
    have HST := Lib.hid hst.out
    clear hst
    have hwr := HST.out.below.size
    have hrl := blk_lt HST.out.res
    by_cases hlt : k < N
    · have hkd : k < ds.length := by have := HN.out; omega
      obtain ⟨ad, A0, c0, rfl, d0, l0, g0⟩ := at_T31 (Kd.C_below HC.out HST.out.below) (k : Int) (by omega) (by omega)
      rw [Int.toNat_natCast] at d0
      have hrd : rd_T31 ds (k : Int) = ds[k] := by unfold rd_T31; rw [Int.toNat_natCast, List.getD_eq_getElem?_getD, List.getElem?_eq_getElem hkd]; rfl
      rw [hrd] at d0 l0 g0
      have hsl := ds_len hkd
      obtain ⟨d, hd⟩ : ∃ d, d = ds[k] := ⟨_, rfl⟩
      have hdm : d ∈ ds := by rw [hd]; exact List.getElem_mem hkd
      rw [← hd] at d0 l0 g0 hsl
      have hb1 : Below wr.heap.size wr (wr.alloc (.cells #[.slice A0 d.f0.length c0] 31)) := (Below.refl _ wr).alloc (Nat.le_refl _) _
      have hV := validate_calls d.f0 A0 c0 _ (Kd.C_below g0 hb1) l0 (HI.out d hdm) (by have := HSUM.out; omega) (PowTab.up (HTAB.out.on (HST.out.below.trans (hb1.mono hwr))) (Nat.le_trans hwr hb1.size)) (fun n hn => Nat.le_trans (redL_kids16 d.f0 n hn) (by decide))
      obtain ⟨D, hD⟩ : ∃ D, D = d.f0.length := ⟨_, rfl⟩
      rw [← hD] at hV d0 l0 hb1
      have HB1 := Lib.hid hb1
      have HD := Lib.hid hd
      have hkb : k < 4000000000000 := by omega
      have hki : (k : Int) < (N : Int) := by omega
      clear hrd g0 hb1 hd hdm hsl hD
      by_cases h0 : valE d.f0 = 0
      · rw [h0] at hV
        have HV0 := Lib.hid h0
        clear h0
        go_wp2_with (go_at_call 21; refine hV.mono ?_; clear hV; rintro e w2 ⟨rfl, hb2⟩; have HB2 := Lib.hid (HB1.out.trans (hb2.mono HB1.out.size)); clear hb2)
        go_roundw
        case rel => exact ⟨k + 1, by go_num, hlt, ⟨⟨HST.out.below.trans (HB2.out.mono hwr), (HB2.out.block _ hrl).trans HST.out.res, by
          rw [List.take_succ_eq_append_getElem hkd]
          exact vdE_snoc _ _ HST.out.ok (by rw [← HD.out]; exact HV0.out)⟩⟩⟩
        case measure => simp [intOf]; omega
      · have hE : brE site ds = valE d.f0 := by
          have h1 := vdE_take ds k hkd HST.out.ok (by rw [← HD.out]; exact h0)
          rw [← HD.out] at h1
          unfold brE
          rw [if_pos HRNG.out, h1, if_neg h0]
        have hL : brL site ds = [] := by unfold brL; rw [hE, if_neg h0]
        have HE := Lib.hid hE
        have HL := Lib.hid hL
        obtain ⟨er, her⟩ : ∃ er, er = valE d.f0 := ⟨_, rfl⟩
        rw [← her] at hV h0 HE
        clear hE hL her
        go_wp2_with (go_at_call 21; refine hV.mono ?_; clear hV; rintro e w2 ⟨rfl, hb2⟩; have HB2 := Lib.hid (HB1.out.trans (hb2.mono HB1.out.size)); have hr2 := (HB2.out.block _ hrl).trans HST.out.res; have b1 := blk_cell hr2 0; have f1 := blk_frozen hr2 0; have HR2 := Lib.hid hr2; clear hb2 hr2)
        have hb3 := blk_set HR2.out 0 (.slice none 0 0)
        have q0 := (blk_cell hb3 0).trans rfl
        have hf := br_fin er (HST.out.below.trans (HB2.out.mono hwr)) HR2.out
        rw [← HL.out, ← HE.out] at hf
        rw [HE.out] at hf
        exact bodyPost_ret (v := .tuple #[.agg #[.slice none 0 0], .int .i64 er]) (by simp [results, Tryd.f34, go_sem, q0]) rfl (by rw [HE.out]; exact hf)
    · obtain rfl : N = k := by omega
      have hv0 := HST.out.ok
      rw [show ds.take N = ds from List.take_of_length_le (by have := HN.out; omega)] at hv0
      have hg : ∀ d ∈ ds, grB d.f0 = true := fun d hd => (val_ok (vdE_all hv0 d hd)).1
      have HG := Lib.hid hg
      have HV0 := Lib.hid hv0
      clear hg hv0 hk
      obtain ⟨wo, rfl⟩ : ∃ wo : World, wo = wr := ⟨_, rfl⟩
      go_wp2_with (go_at_call 46; refine (new_calls wo).mono ?_; rintro e w2 ⟨rfl, hb2, hs2, hT2⟩; have HB2 := Lib.hid (HST.out.below.trans (hb2.mono hwr)); have HR2 := Lib.hid ((hb2.block _ hrl).trans HST.out.res); have HS2 := Lib.hid hs2; have HT2 := Lib.hid (hT2 wo.heap.size (Nat.le_refl _)); clear hb2 hs2 hT2)
      have hst2 : Br2 w (w2.alloc (.map #[] 0)) wo.heap.size ds 0 (.slice none 0 0) := by
        refine ⟨BrTb.first HT2.out HS2.out HB2.out HR2.out, fun _ => none, 0, by simp [shK, flatD, shp], ?_, by omega⟩
        have := IMap.made w2
        rwa [HS2.out] at this
      have HST2 := Lib.hid hst2
      have htab2 : PowTab wo.heap.size w := PowTab.up HTAB.out hwr
      have HT := Lib.hid htab2
      have hwmb : w.heap.size < wo.heap.size := hrl
      clear hst2 htab2
      rw [HS2.out]
      go_loopw [11, 51] (fun v i W => ∃ (k : Nat) (vv : Value), vv = v ∧ i = .int .i64 k ∧ k ≤ N ∧ Br2 w W wo.heap.size ds k vv) (fun _ i _ => N - (intOf i).toNat)
      case atStart => exact ⟨0, _, rfl, rfl, Nat.zero_le _, HST2.out⟩
      case round =>
        obtain ⟨k, vv, rfl, rfl, hk, hst⟩ := hrel
        have hbl := hst.tb.below.size
        obtain ⟨g, m, hsh, hmap, hm⟩ := hst.map
        obtain ⟨s, hse⟩ : ∃ s, s = impKs (ds.take k) := ⟨_, rfl⟩
        have htb := hst.tb
        rw [← hse] at htb
        obtain ⟨hT, hTl, hTn⟩ := impKs_tbl (ds := ds) (fun d hd => ⟨gr_fit (HG.out d hd), gr_ne (HG.out d hd)⟩) k (by have := HN.out; omega)
        have hTk := impKs_kids (m := 16) (ds := ds) (fun d hd => gr_kids (HG.out d hd)) k (by have := HN.out; omega)
        rw [← hse] at hT hTl hTn hTk
        have hsl0 := sumL_take_le ds k
        obtain ⟨Av, cv, rfl⟩ := Kd.R_slice htb.row
        have hml := hmap.lt
        have HSH := Lib.hid hsh
        have HMAP := Lib.hid hmap
        have HM := Lib.hid hm
        have HSE := Lib.hid hse
        have HTB := Lib.hid htb
        have HT1 := Lib.hid hT
        have HTL := Lib.hid hTl
        have HTN := Lib.hid hTn
        have HTK := Lib.hid hTk
        have HSL0 := Lib.hid hsl0
        have hrl2 := blk_lt htb.res
        clear hst hsh hmap hm hse htb hT hTl hTn hTk hsl0
        by_cases hlt : k < N
        · have hkd : k < ds.length := by have := HN.out; omega
          obtain ⟨ad, A0, c0, rfl, d0, l0, g0⟩ := at_T31 HC.out (k : Int) (by omega) (by omega)
          rw [Int.toNat_natCast] at d0
          have hrd : rd_T31 ds (k : Int) = ds[k] := by unfold rd_T31; rw [Int.toNat_natCast, List.getD_eq_getElem?_getD, List.getElem?_eq_getElem hkd]; rfl
          rw [hrd] at d0 l0 g0
          replace d0 := pw_cell_below HTB.out.below d0
          have hsl := ds_len hkd
          have hsnoc : ds.take (k + 1) = ds.take k ++ [ds[k]] := List.take_succ_eq_append_getElem hkd
          obtain ⟨d, hd⟩ : ∃ d, d = ds[k] := ⟨_, rfl⟩
          have hdm : d ∈ ds := by rw [hd]; exact List.getElem_mem hkd
          rw [← hd] at d0 l0 g0 hsl hsnoc
          have hgd := HG.out d hdm
          have hId := HI.out d hdm
          have hb1 : Below wr.heap.size wr (wr.alloc (.cells #[.slice A0 d.f0.length c0] 31)) := (Below.refl _ wr).alloc (Nat.le_refl _) _
          have hb1w := HTB.out.below.trans (hb1.mono hbl)
          have hS := shapes_calls w.heap.size (wo.heap.size + 2) m g d.f0 A0 c0 (wr.alloc (.cells #[.slice A0 d.f0.length c0] 31)) hb1w.size (by omega) (HMAP.out.move (hb1.block _ hml)) (fun W hW => Kd.C_below g0 (hb1w.trans hW)) l0 hId (by have := HM.out; have := HSL0.out; have := HSUM.out; omega)
          have hbx := heap_alloc_new wr (.cells #[.slice A0 d.f0.length c0] 31)
          obtain ⟨D, hD⟩ : ∃ D, D = d.f0.length := ⟨_, rfl⟩
          rw [← hD] at hS d0 l0 hb1 hbx hb1w hsl
          have HB1 := Lib.hid hb1
          have HBX := Lib.hid hbx
          have HDD := Lib.hid hd
          have HSN := Lib.hid hsnoc
          have HD := Lib.hid hD
          have HG0 := Lib.hid g0
          have HGD := Lib.hid hgd
          have HID := Lib.hid hId
          have HTB1 := Lib.hid (HTB.out.on hb1)
          have hkb : k < 4000000000000 := by omega
          have hki : (k : Int) < (N : Int) := by omega
          clear hrd g0 hb1 hd hdm hD hsnoc hbx hgd hId hb1w
          cases hq : shp g d.f0 with
          | none =>
            have hE : brE site ds = 2 := by
              have h1 : shK ds = none := shK_take (k := k + 1) (by rw [HSN.out, shK_snoc, HSH.out]; exact hq)
              unfold brE
              rw [if_pos HRNG.out, if_pos HV0.out, h1, if_neg (by simp)]
            have hL : brL site ds = [] := by unfold brL; rw [hE, if_neg (by decide)]
            rw [hq] at hS
            have HE := Lib.hid hE
            have HL := Lib.hid hL
            clear hE hL hq
            go_wp2_with (go_at_call 60; refine hS.mono ?_; clear hS; rintro e w3 ⟨hg3, rfl, -⟩; have HTB3 := Lib.hid (HTB1.out.grown hwmb (by omega) (by omega) hg3); clear hg3; have b1 := blk_cell HTB3.out.res 0; have f1 := blk_frozen HTB3.out.res 0; have hl3 := blk_lt HTB3.out.res)
            have hb3 := blk_set HTB3.out.res 0 (.slice none 0 0)
            have q0 := (blk_cell hb3 0).trans rfl
            have hf := br_fin 2 HTB3.out.below HTB3.out.res
            exact bodyPost_ret (v := .tuple #[.agg #[.slice none 0 0], .int .i64 2]) (by simp [results, Tryd.f34, go_sem, q0]) rfl (by rw [HE.out, HL.out]; exact hf)
          | some g' =>
            have HQ := Lib.hid hq
            rw [hq] at hS
            have hqs : shK (ds.take (k + 1)) = some g' := by rw [HSN.out, shK_snoc, HSH.out]; exact hq
            have HQS := Lib.hid hqs
            have hik : impKs (ds.take (k + 1)) = ((imp s.1 [] d.f0).1, s.2 ++ [lk (imp s.1 [] d.f0).2 ((d.f0.length - 1 : Nat) : Int)]) := by rw [HSN.out, impKs_snoc, ← HSE.out]; rfl
            have hsl3 : sumL (ds.take (k + 1)) = sumL (ds.take k) + D := by rw [HSN.out, sumL_snoc, ← HD.out]
            obtain ⟨z, hz⟩ : ∃ z, z = lk (imp s.1 [] d.f0).2 ((d.f0.length - 1 : Nat) : Int) := ⟨_, rfl⟩
            obtain ⟨U, hU⟩ : ∃ U, U = (imp s.1 [] d.f0).1 := ⟨_, rfl⟩
            rw [← hz, ← hU] at hik
            have HIK := Lib.hid hik
            have HZ := Lib.hid hz
            have HU := Lib.hid hU
            have HSL3 := Lib.hid hsl3
            clear hq hqs hik hz hU hsl3
            go_wp2_with (first
              | (go_at_call 60; refine hS.mono ?_; clear hS; rintro e w3 ⟨hg3, rfl, hn3⟩; have HTB3 := Lib.hid (HTB1.out.grown hwmb (by omega) (by omega) hg3); have HBX3 := Lib.hid ((hg3.block _ (blk_lt HBX.out) (fun e => by injection e with e; omega)).trans HBX.out); have b3 := blk_cell HBX3.out 0; have hs3 := hg3.size; have HN3 := Lib.hid (hn3 g' rfl); clear hg3 hn3)
              | (go_at_call 48; have hA := root_calls wo.heap.size (wo.heap.size + 1) wo.heap.size _ s.1 d.f0 A0 c0 w3 HTB3.out.tab (HTB3.out.okT (by omega) (by omega) (by have := HN3.out; have := HB1.out.size; omega)) (by have := HB1.out.size; omega) (by have := HB1.out.size; omega) (by have := HB1.out.size; omega) (fun W hW => Kd.C_below HG0.out (HTB3.out.below.trans (hW.mono hwr))) (by rw [← HD.out]; exact l0) (gr_fit HGD.out) (gr_ne HGD.out) ⟨HT1.out.down, HT1.out.nodup, by simp⟩ HID.out (by have := HTL.out; have := HSL0.out; have := HSUM.out; have := HD.out; omega) (PowTab.up (HTAB.out.on HTB3.out.below) hwr); rw [← HZ.out, ← HU.out, ← HD.out] at hA; refine hA.mono ?_; clear hA; rintro e w4 ⟨rfl, hT4, hTc4⟩; have HTB4 := Lib.hid (HTB3.out.step hwmb (by omega) (by omega) hT4 hTc4); have HM4 := Lib.hid hTc4; have hsz4 := hTc4.size; have hsz1 := HB1.out.size; have hs4 : wo.heap.size + 2 < w4.heap.size := (by omega); clear hsz4 hsz1; clear hT4 hTc4)
              | (at_builtin; refine Kd.R_append (Kd.int .i64) (w0 := w4) (W := w4) (wo.heap.size + 2 + 1) rfl (.tmp 61) (.tmp 65) 22 3 (.int .i64 0) 8 rfl Tryd.underlying22 info3 rfl (by decide) (by decide) (.slice Av s.2.length cv) s.2 z [.int .i64 z] (fun j => wo.heap.size + 2 < j) (fun _ => False) (by rfl) (by rfl) rfl (fun _ h => h.elim) (fun j hj => by omega) HTB4.out.row (Below.refl _ _) (by omega) (by have := HTN.out; omega) ?_; intro v5 w5 hR5 hB5 hg5 hat5; refine Hid.out ?_))
            refine Lib.hid ?_
            obtain ⟨A5, c5, hv5⟩ := Kd.R_slice hR5
            rw [List.length_append, List.length_singleton] at hv5
            subst hv5
            have HTB5 := Lib.hid (HTB4.out.kid hwmb (by omega) (by omega) hR5 hg5 hat5)
            obtain ⟨m3, hm3, hm3l⟩ := HN3.out
            have HMP5 := Lib.hid (map_kid (BrTb.map_step hm3 (by omega) (by omega) HM4.out) HTB4.out.row.1 hg5)
            clear hR5 hB5 hg5 hat5 hm3
            go_wp2
            go_roundw
            case rel =>
              refine ⟨k + 1, _, rfl, by go_num, hlt, ⟨?_, g', m3, HQS.out, HMP5.out, by rw [HSL3.out]; have := HM.out; have := HD.out; omega⟩⟩
              rw [HIK.out]
              exact HTB5.out
            case measure => simp [intOf]; omega
        · obtain rfl : N = k := by omega
          have htk : ds.take N = ds := List.take_of_length_le (by have := HN.out; omega)
          have hsh := HSH.out
          have hse := HSE.out
          have hm := HM.out
          rw [htk] at hsh hse hm
          obtain ⟨D, hown, hD⟩ := HMAP.out
          have HSHK := Lib.hid hsh
          have HSE2 := Lib.hid hse
          have HMM := Lib.hid hm
          have HD := Lib.hid hD
          have HOWN := Lib.hid hown
          clear hsh hse hm hD htk
          obtain ⟨wp, rfl⟩ : ∃ wp : World, wp = wr := ⟨_, rfl⟩
          go_wp2_with (first
            | (at_range; refine wpList_range_own _ rfl _ 73 rfl 3 3 (int_keyed Tryd.underlying3) Tryd.underlying73 _ (wo.heap.size + 2) m D rfl hown ?_; intro w0 hrg0 hg0 hs0)
            | go_in)
          go_frame
          go_loopw [14] (fun _ W => ∃ (left : Lit → Bool) (cnt : Nat), W.ranges Tryd.prog 3 (plainElem Tryd.prog 3) (wo.heap.size + 2) wp.heap.size m D left cnt ∧ Below wp.heap.size wp W ∧ Aside0 ((∀ kl, left kl = true → Maps.has D kl = true) ∧ ∀ x : Int, Maps.has D (.int .i64 x) = true → left (.int .i64 x) = false → site < x)) (fun _ W => W.rangeLeft (wo.heap.size + 2) wp.heap.size)
          case atStart => exact ⟨_, _, hrg0, ⟨hg0.os, hg0.tape, hg0.output, hg0.size, fun j hj => hg0.block j hj (by simp)⟩, ⟨fun kl h => h, fun x h1 h2 => by rw [h1] at h2; cases h2⟩⟩
          case round =>
            obtain ⟨left, cnt, hrg, hbW, hinv⟩ := hrel
            have HBW := Lib.hid hbW
            have HINV := Lib.hid hinv.out
            have HTBW := Lib.hid (HTB.out.on hbW)
            have hsw := hbW.size
            have hrlW := blk_lt HTBW.out.res
            clear hbW hinv
            go_wp2_with (first
              | (at_next; refine wpList_next_ranges_ii _ rfl _ rfl 3 3 .i64 .i64 (int_keyed Tryd.underlying3) Tryd.underlying3 Tryd.underlying3 (wo.heap.size + 2) wp.heap.size m _ _ _ rfl hrg ?_ ?_)
              | go_in)
            · intro hc0 hl0
              have hlow : lowB site (flatD ds) = true := lowB_of HSHK.out (fun x hx => HINV.out.2 x (by rw [(HD.out x).1]; exact hx) (hl0 _))
              obtain ⟨sh, hshs, hsh⟩ := br_shape HG.out (by rw [HSHK.out]; rfl) hlow q0
              have hne : ds ≠ [] := by intro e; have := HN.out; rw [e] at this; simp at this; omega
              obtain ⟨jt1, jt2, jt3⟩ := jn_tb hsh ⟨q0, q1⟩ hne hshs.symm (by have := HN.out; omega)
              have hjt : jnT site ds = placeB s.1 site s.2 := by unfold jnT; rw [← HSE2.out]
              rw [hjt] at jt1 jt2 jt3
              have hjn : jn site ds = expo (placeB s.1 site s.2).1 (placeB s.1 site s.2).2 := by unfold jn; rw [hjt]
              have hkids : ∀ n ∈ (placeB s.1 site s.2).1, n.f2.length ≤ 16 := by
                intro n hn
                rcases jt1.ok n hn with h1 | h1
                · rw [(jt1.red.leafy n hn (by omega)).2]; simp
                · exact h1.2.2.2
              obtain ⟨R, hR⟩ : ∃ R : Nat, (placeB s.1 site s.2).2 = (R : Int) := ⟨_, (Int.toNat_of_nonneg jt2.1).symm⟩
              have hsN := HTN.out
              have hsne : s.2 ≠ [] := by intro e; rw [e] at hsN; simp at hsN; omega
              obtain ⟨Aq, cq, hveq, hcq, hCq⟩ := Kd.R_reads HTBW.out.row
              injection hveq with hv1 hv2 hv3
              subst hv1
              subst hv3
              have hI : ∀ x ∈ site :: 0 :: s.2, I64 x := by
                intro x hx
                rcases List.mem_cons.1 hx with rfl | hx
                · exact hs
                · rcases List.mem_cons.1 hx with rfl | hx
                  · exact ⟨by omega, by omega⟩
                  · have h1 := HT1.out.at_lt x hx
                    have := HTL.out; have := HSL0.out; have := HSUM.out
                    exact ⟨by omega, by omega⟩
              have hA := branch_calls wo.heap.size (wo.heap.size + 1) wo.heap.size _ s.1 site s.2 Av cv wr HTBW.out.tab (HTBW.out.okT (by omega) (by omega) (by omega)) (by omega) hCq hcq hsne hI (by omega) (by have := HTL.out; have := HSL0.out; have := HSUM.out; omega) (PowTab.up (HTAB.out.on HTBW.out.below) hwr)
              rw [hR] at hA hjn jt2
              obtain ⟨U, hU⟩ : ∃ U, U = (placeB s.1 site s.2).1 := ⟨_, rfl⟩
              rw [← hU] at hA hjn jt1 jt2 jt3 hkids
              have hR' : R < U.length := by omega
              obtain ⟨fuel, hfu⟩ := exL_root jt1.red.down 20000 R hR'
              have hfu0 := hfu 0
              rw [Nat.zero_add, ← hjn] at hfu0
              have hbr := brE_cases site ds HRNG.out HV0.out (by rw [HSHK.out]; rfl) hlow
              have HFU := Lib.hid hfu0
              have HBR := Lib.hid hbr
              have HPUB := Lib.hid (And.intro jt1.red.down (And.intro hR' (And.intro jt3 hkids)))
              clear hfu hfu0 hbr jt1 jt2 jt3 hkids hR' hU hR hjn hjt hI hsne hCq hcq hshs hsh hlow hsN hne
              by_cases hle : (jn site ds).length ≤ 20000
              · obtain ⟨hE, hL⟩ := HBR.out.1 hle
                have HF2 := Lib.hid (show exL U 20000 fuel (fun _ => none) [] [((R : Nat), 0)] = some (some (jn site ds)) from by have := HFU.out; rw [if_pos hle] at this; exact this)
                have HE := Lib.hid hE
                have HL := Lib.hid hL
                obtain ⟨J, hJ⟩ : ∃ J, J = jn site ds := ⟨_, rfl⟩
                have HJ := Lib.hid hJ
                rw [← hJ] at HF2
                clear hE hL hJ hle
                go_wp2_with (first
                  | (go_at_call 58; refine hA.mono ?_; clear hA; rintro e w5 ⟨rfl, hT5, hTc5⟩; have HTB5 := Lib.hid (HTBW.out.step hwmb (by omega) (by omega) hT5 hTc5); have hs5 := hTc5.size; have HT5 := Lib.hid hT5; clear hT5 hTc5)
                  | (go_at_call 47; refine (export_calls fuel wo.heap.size (wo.heap.size + 1) wo.heap.size _ U R w5 _ HT5.out HPUB.out.1 HPUB.out.2.1 HF2.out (by have := HPUB.out.2.2.1; have := HSUM.out; omega) (fun n hn => Nat.le_trans (HPUB.out.2.2.2 n hn) (by decide))).mono ?_; rintro e w6 ⟨hb6, hm⟩; obtain ⟨vo, rfl, hR6⟩ := hm; obtain ⟨A6, c6, rfl⟩ := Kd.R_slice hR6; have hbx6 := (hb6.block _ (blk_lt HTB5.out.res)).trans HTB5.out.res; have b0 := blk_cell hbx6 0; have f0 := blk_frozen hbx6 0; have hlt6 := blk_lt hbx6; have HBX6 := Lib.hid hbx6; have HB6 := Lib.hid hb6; have HR6 := Lib.hid hR6; clear hbx6 hb6 hR6))
                have hbz := (HTB5.out.below.trans (HB6.out.mono HTB5.out.below.size)).setCell (p := ⟨w.heap.size, 0, none⟩) (Nat.le_refl _) (.slice A6 J.length c6)
                have hbq := hbz.alloc (by have := hbz.size; exact this) (.cells #[.slice A6 J.length c6] 31)
                have hb2 := blk_set HBX6.out 0 (.slice A6 J.length c6)
                have hbx5 := (Below.heap_alloc (w6.setCell ⟨w.heap.size, 0, none⟩ (.slice A6 J.length c6)) (.cells #[.slice A6 J.length c6] 31) _ (blk_lt hb2)).trans hb2
                have q0 := (blk_cell hbx5 0).trans rfl
                refine bodyPost_ret (v := .tuple #[.agg #[.slice A6 J.length c6], .int .i64 0]) (by simp [results, Tryd.f34, go_sem, q0]) rfl ⟨hbq, _, by rw [HE.out], ?_⟩
                rw [HL.out, ← HJ.out]
                exact Kd.R_below (Kd.R_set (Kd.R_lower (base' := w.heap.size) HR6.out (by have := HTB5.out.below.size; omega)) HBX6.out (by decide) 0 _) ((Below.refl _ _).alloc (Nat.le_refl _) _)
              · obtain ⟨hE, hL⟩ := HBR.out.2 hle
                have HF2 := Lib.hid (show exL U 20000 fuel (fun _ => none) [] [((R : Nat), 0)] = some none from by have := HFU.out; rw [if_neg hle] at this; exact this)
                have HE := Lib.hid hE
                have HL := Lib.hid hL
                clear hE hL hle
                go_wp2_with (first
                  | (go_at_call 58; refine hA.mono ?_; clear hA; rintro e w5 ⟨rfl, hT5, hTc5⟩; have HTB5 := Lib.hid (HTBW.out.step hwmb (by omega) (by omega) hT5 hTc5); have hs5 := hTc5.size; have HT5 := Lib.hid hT5; clear hT5 hTc5)
                  | (go_at_call 47; refine (export_calls fuel wo.heap.size (wo.heap.size + 1) wo.heap.size _ U R w5 _ HT5.out HPUB.out.1 HPUB.out.2.1 HF2.out (by have := HPUB.out.2.2.1; have := HSUM.out; omega) (fun n hn => Nat.le_trans (HPUB.out.2.2.2 n hn) (by decide))).mono ?_; rintro e w6 ⟨hb6, hm⟩; obtain rfl := hm; have hbx6 := (hb6.block _ (blk_lt HTB5.out.res)).trans HTB5.out.res; have b0 := blk_cell hbx6 0; have f0 := blk_frozen hbx6 0; have hlt6 := blk_lt hbx6; have HBX6 := Lib.hid hbx6; have HB6 := Lib.hid hb6; clear hbx6 hb6))
                have hbz := (HTB5.out.below.trans (HB6.out.mono HTB5.out.below.size)).setCell (p := ⟨w.heap.size, 0, none⟩) (Nat.le_refl _) (.slice none 0 0)
                have hbq := hbz.alloc (by have := hbz.size; exact this) (.cells #[.slice none 0 0] 31)
                have hb2 := blk_set HBX6.out 0 (.slice none 0 0)
                have hbx5 := (Below.heap_alloc (w6.setCell ⟨w.heap.size, 0, none⟩ (.slice none 0 0)) (.cells #[.slice none 0 0] 31) _ (blk_lt hb2)).trans hb2
                have q0 := (blk_cell hbx5 0).trans rfl
                refine bodyPost_ret (v := .tuple #[.agg #[.slice none 0 0], .int .i64 9]) (by simp [results, Tryd.f34, go_sem, q0]) rfl ⟨hbq, _, by rw [HE.out], ?_⟩
                rw [HL.out]
                exact Kd.R_nil _ _ _ _ _
            · intro x c_ w1 cnt1 hwx hwc hlx hat hrg1 hlt1 hg1 hs1 hen
              have hb1 : Below wp.heap.size wp w1 := HBW.out.trans (grown_below hg1 hsw (Nat.le_refl _))
              have hhas := HINV.out.1 _ hlx
              have hgx : (g x).isSome = true := by rw [← (HD.out x).1]; exact hhas
              have HTB1 := Lib.hid (HTB.out.on hb1)
              have HB1 := Lib.hid hb1
              have HLX := Lib.hid hlx
              have HGX := Lib.hid hgx
              have HRG1 := Lib.hid hrg1
              have b1 := blk_cell HTB1.out.res 0
              have f1 := blk_frozen HTB1.out.res 0
              have hl1 := blk_lt HTB1.out.res
              clear hb1 hhas hgx hlx hat hg1 hs1
              by_cases hx : x ≤ site
              · have hE : brE site ds = 2 := by
                  unfold brE
                  rw [if_pos HRNG.out, if_pos HV0.out, if_pos (by rw [HSHK.out]; rfl), if_neg (by rw [lowB_bad HSHK.out HGX.out hx]; decide)]
                have hL : brL site ds = [] := by unfold brL; rw [hE, if_neg (by decide)]
                have HE := Lib.hid hE
                have HL := Lib.hid hL
                clear hE hL
                go_wp2
                have hb3 := blk_set HTB1.out.res 0 (.slice none 0 0)
                have q0 := (blk_cell hb3 0).trans rfl
                have hf := br_fin 2 HTB1.out.below HTB1.out.res
                exact bodyPost_ret (v := .tuple #[.agg #[.slice none 0 0], .int .i64 2]) (by simp [results, Tryd.f34, go_sem, q0]) rfl (by rw [HE.out, HL.out]; exact hf)
              · go_wp2
                go_roundw
                case rel =>
                  refine ⟨_, cnt1, HRG1.out, HB1.out, ⟨fun kl h => HINV.out.1 kl (by simp only [Bool.and_eq_true] at h; exact h.1), fun y h1 h2 => ?_⟩⟩
                  by_cases hl : left (.int .i64 y) = true
                  · have : (Lit.int .i64 y).sameKey (.int .i64 x) = true := by simpa [hl] using h2
                    have e : y = x := by simpa [Lit.sameKey] using this
                    omega
                  · exact HINV.out.2 y h1 (by simpa using hl)
                case measure => rw [HRG1.out.left_eq, hrg.left_eq]; exact hlt1
set_option maxHeartbeats 8000000 in
set_option maxRecDepth 100000 in
theorem brAll_calls (site : Int) (ds : List S31) (A : Option Addr) (c : Nat) (w : World) (hC : Kd.C k31 w A ds.length ds) (hc : ds.length ≤ c) (hs : I64 site) (hI : DsOk ds) (hsum : (sumL ds + 2) * 40 ≤ 140737488355328) (hlen : ds.length ≤ 1000000) (htab : PowTab w.heap.size w) :
    Calls Tryd.prog 34 #[.int .i64 site, .slice A ds.length c] w (DgPost w (brL site ds) (brE site ds)) := by
  by_cases hr : rngB site ds.length = true
  · exact brw_calls site ds A c w hC hc hs hI hsum htab hr
  · have hE : brE site ds = 1 := by unfold brE; rw [if_neg hr]
    have hL : brL site ds = [] := by unfold brL; rw [hE, if_neg (by decide)]
    rw [hE, hL]
    have hr' : ¬ (0 ≤ site ∧ site < 64 ∧ 1 ≤ ds.length ∧ ds.length ≤ 16) := fun h => hr (decide_eq_true h)
    have hb0 : Below w.heap.size w (w.alloc (.cells #[.slice none 0 0] 31)) := (Below.refl _ w).alloc (Nat.le_refl _) _
    have hr0 := heap_alloc_new w (.cells #[.slice none 0 0] 31)
    have e0 := blk_cell hr0 0
    have f0 := blk_frozen hr0 0
    have q0 := (blk_cell hr0 0).trans rfl
    have hf : DgPost w [] 1 (.returned (.tuple #[.agg #[.slice none 0 0], .int .i64 1])) (w.alloc (.cells #[.slice none 0 0] 31)) := ⟨hb0, _, rfl, Kd.R_nil _ _ _ _ _⟩
    obtain ⟨N, hN⟩ : ∃ N, N = ds.length := ⟨_, rfl⟩
    rw [← hN] at hr' hlen ⊢
    have hq : (decide (site < 0) || decide (64 ≤ site) || decide ((N : Int) < 1) || decide (16 < (N : Int))) = true := by
      simp only [Bool.or_eq_true, decide_eq_true_eq]
      omega
    have HF := Lib.hid hf
    have HQ0 := Lib.hid q0
    clear hC hc hI hsum htab hr hE hL hr' hb0 q0 hf hN
    go_enter Tryd.func34, Tryd.ntmps34
    go_wp2
    all_goals
      have q0 := HQ0.out
      exact bodyPost_ret (v := .tuple #[.agg #[.slice none 0 0], .int .i64 1]) (by simp [results, Tryd.f34, go_sem, q0]) rfl HF.out
end Go.Proofs.YtopbjginpmdebaaDoor.K
-- the contract of diagram.Branch, in the form that the printed texts call it
namespace Go.Proofs.YtopbjginpmdebaaDoor.K
open Go.RowKit Go.Maps Go.Proofs.YtopbjginpmdebaaDoorW.PrintWords Go.Proofs.YtopbjginpmdebaaDoorW.PrintLast Go.Proofs.YtopbjginpmdebaaDoorW.PrintMore
set_option linter.unusedVariables false
set_option linter.unusedSimpArgs false
/-- children that can be handed over -/
def dsOk (site : Int) (ds : List S31) : Bool := (ds.all fun d => ndOk d.f0) && decide (-9223372036854775808 ≤ site ∧ site ≤ 9223372036854775807 ∧ (sumL ds + 2) * 40 ≤ 140737488355328 ∧ ds.length ≤ 1000000)
theorem dsOk_iff {site : Int} {ds : List S31} : dsOk site ds = true ↔ (∀ d ∈ ds, ndOk d.f0 = true) ∧ -9223372036854775808 ≤ site ∧ site ≤ 9223372036854775807 ∧ (sumL ds + 2) * 40 ≤ 140737488355328 ∧ ds.length ≤ 1000000 := by
  unfold dsOk
  rw [Bool.and_eq_true, List.all_eq_true, decide_eq_true_eq]
def diagram_Branch.f (site : Int) (ds : List S31) : Option (List S60 × Int) := if dsOk site ds = true then some (brL site ds, brE site ds) else none
theorem diagram_Branch.calls (site : Int) (A : Option Addr) (c : Nat) (ds : List S31) (r1 : List S60) (r2 : Int) (w : World) (hr : Kd.C k31 w A ds.length ds) (hc : ds.length ≤ c) (h : diagram_Branch.f site ds = some (r1, r2)) (htab : PowTab w.heap.size w) :
    Calls Tryd.prog 34 #[.int .i64 site, .slice A ds.length c] w fun e w' => ∃ v0_ : Value, e = .returned (.tuple #[.agg #[v0_], .int .i64 r2]) ∧ Kd.V k60 60 w' w.heap.size (fun k_ => (w.heap.size ≤ k_)) v0_ r1 ∧ Below w.heap.size w w' := by
  unfold diagram_Branch.f at h
  by_cases hk : dsOk site ds = true
  · rw [if_pos hk] at h
    simp only [Option.some.injEq, Prod.mk.injEq] at h
    obtain ⟨rfl, rfl⟩ := h
    obtain ⟨h1, h2, h3, h4, h5⟩ := dsOk_iff.1 hk
    exact (brAll_calls site ds A c w hr hc ⟨h2, h3⟩ (fun d hd => ndOk_I (h1 d hd)) h4 h5 htab).mono fun e w' ⟨hb, vo, he, hR⟩ => ⟨vo, he, V_of_R hR, hb⟩
  · rw [if_neg hk] at h; cases h
end Go.Proofs.YtopbjginpmdebaaDoor.K
namespace Go.Proofs.YtopbjginpmdebaaDoor.K
open Go.RowKit Go.Proofs.YtopbjginpmdebaaDoorW.PrintWords Go.Proofs.YtopbjginpmdebaaDoorW.PrintLast Go.Proofs.YtopbjginpmdebaaDoorW.PrintMore
attribute [local go_sem] max2_int min2_int max_two min_two max_three min_three max_four min_four   -- for this text's walks alone
set_option linter.unusedVariables false
set_option linter.unusedSimpArgs false

/-! ### exactppllaw19_DiagramBranches: function 9 -/
mutual
def exactppllaw19_DiagramBranches.j0 : Nat → Int → List Int → Int → Int → Option (Bool)
 | 0, _, _, _, _ => none
 | k + 1, x1, x521000, x521001, x521002 => (exactpplmake_Src_N.f x521000 x521001 x521002 5).bind fun bt527 => (exactppllaw19_DiagramBranches.l0 k x1 ([] : List (S31)) bt527.1 x521000 bt527.2.1 bt527.2.2)
def exactppllaw19_DiagramBranches.l0 : Nat → Int → List (S31) → Int → List Int → Int → Int → Option (Bool)
 | 0, _, _, _, _, _, _ => none
 | k + 1, x1, x6, x7, x521000, x521001, x521002 => if x7 > 0 then ((exactpplmake_Src_N.f x521000 x521001 x521002 3).bind fun bt530 => ((exactpplmake_Src_Diagram.f k x521000 bt530.2.1 bt530.2.2 bt530.1 3).bind fun bt533 => ((exactpplmake_Src_N.f x521000 bt533.2.1 bt533.2.2 9).bind fun bt539 => (if bt539.1 = 0 then ((exactpplmake_Src_Nodes.f k x521000 bt539.2.1 bt539.2.2).bind fun bt542 => (if x6.length < 5864062014805 then (exactppllaw19_DiagramBranches.l0 k x1 (x6 ++ [(⟨bt542.1⟩ : S31)]) (wrap64 (x7 - 1)) x521000 bt542.2.1 bt542.2.2) else (none))) else (if x6.length < 5864062014805 then (exactppllaw19_DiagramBranches.l0 k x1 (x6 ++ [(⟨bt533.1⟩ : S31)]) (wrap64 (x7 - 1)) x521000 bt539.2.1 bt539.2.2) else (none)))))) else ((exactpplmake_Src_N.f x521000 x521001 x521002 12).bind fun bt553 => (if bt553.1 = 0 then ((exactpplmake_Src_Pick.f x521000 bt553.2.1 bt553.2.2 (([0, 16, 17] : List Int))).bind fun bt559 => (if 0 ≤ bt559.1 then (if (bt559.1 : Int).toNat ≤ 11728124029610 then (exactppllaw19_DiagramBranches.l1 k x1 (List.replicate (bt559.1 : Int).toNat z31) 0) else (none)) else (none))) else (exactppllaw19_DiagramBranches.j3 k x1 x6)))
def exactppllaw19_DiagramBranches.j3 : Nat → Int → List (S31) → Option (Bool)
 | 0, _, _ => none
 | k + 1, x1, x6 => (diagram_Branch.f x1 x6).bind fun bt569 => ((exactpplref19_Branch.f k x1 x6).bind fun bt574 => (if bt569.2 = bt574.2 then ((exactpplref19_Same.f k bt569.1 bt574.1).bind fun t579 => (if t579 = true then ((exactppllaw19_awake.f).bind fun t580 => (some t580)) else (some false))) else (some false)))
def exactppllaw19_DiagramBranches.l1 : Nat → Int → List (S31) → Int → Option (Bool)
 | 0, _, _, _ => none
 | k + 1, x1, x6, x9 => if x9 < (x6.length : Int) then ((exactpplref19_Const.f x9).bind fun t565 => (if 0 ≤ x9 then (exactppllaw19_DiagramBranches.l1 k x1 (x6.set (x9 : Int).toNat (⟨t565⟩ : S31)) (wrap64 (x9 + 1))) else (none))) else (exactppllaw19_DiagramBranches.j3 k x1 x6)
end
def exactppllaw19_DiagramBranches.f (k : Nat) (l0 : List Int) (a1 : Int) : Option (Bool) := (exactpplmake_New.f l0).bind fun bt517 => ((exactpplmake_Src_N.f bt517.1 bt517.2.1 bt517.2.2 3).bind fun bt521 => (if bt521.1 > 0 then ((exactpplmake_Src_Range.f bt517.1 bt521.2.1 bt521.2.2 (-1) 3).bind fun bt524 => (exactppllaw19_DiagramBranches.j0 k bt524.1 bt517.1 bt524.2.1 bt524.2.2)) else (exactppllaw19_DiagramBranches.j0 k a1 bt517.1 bt521.2.1 bt521.2.2)))
theorem exactppllaw19_DiagramBranches.mono_l : ∀ k, (∀ y0 y1 y2 y3, LeO (exactppllaw19_DiagramBranches.j0 k y0 y1 y2 y3) (exactppllaw19_DiagramBranches.j0 (k + 1) y0 y1 y2 y3)) ∧ (∀ y0 y1 y2 y3 y4 y5, LeO (exactppllaw19_DiagramBranches.l0 k y0 y1 y2 y3 y4 y5) (exactppllaw19_DiagramBranches.l0 (k + 1) y0 y1 y2 y3 y4 y5)) ∧ (∀ y0 y1, LeO (exactppllaw19_DiagramBranches.j3 k y0 y1) (exactppllaw19_DiagramBranches.j3 (k + 1) y0 y1)) ∧ (∀ y0 y1 y2, LeO (exactppllaw19_DiagramBranches.l1 k y0 y1 y2) (exactppllaw19_DiagramBranches.l1 (k + 1) y0 y1 y2))
 | 0 => ⟨fun _ _ _ _ r h => by simp [exactppllaw19_DiagramBranches.j0] at h, fun _ _ _ _ _ _ r h => by simp [exactppllaw19_DiagramBranches.l0] at h, fun _ _ r h => by simp [exactppllaw19_DiagramBranches.j3] at h, fun _ _ _ r h => by simp [exactppllaw19_DiagramBranches.l1] at h⟩
 | k + 1 => by
  obtain ⟨ih0, ih1, ih2, ih3⟩ := exactppllaw19_DiagramBranches.mono_l k
  refine ⟨?_, ?_, ?_, ?_⟩
  ·intro y0 y1 y2 y3
   unfold exactppllaw19_DiagramBranches.j0
   repeat' first
   | (with_reducible exact ih0 _ _ _ _)
   | (with_reducible exact ih1 _ _ _ _ _ _)
   | (with_reducible exact ih2 _ _)
   | (with_reducible exact ih3 _ _ _)
   | (with_reducible exact exactpplmake_Src_Diagram.mono _ _ _ _ _ _)
   | (with_reducible exact exactpplmake_Src_Nodes.mono _ _ _ _)
   | (with_reducible exact exactpplref19_Branch.mono _ _ _)
   | (with_reducible exact exactpplref19_Same.mono _ _ _)
   | (with_reducible exact LeO.refl _)
   | (with_reducible exact LeO.none _)
   | (with_reducible refine LeO.ite ?_ ?_)
   | (with_reducible refine LeO.bind ?_ (fun _ => ?_))
   | exact ih0 _ _ _ _
   | exact ih1 _ _ _ _ _ _
   | exact ih2 _ _
   | exact ih3 _ _ _
   | exact exactpplmake_Src_Diagram.mono _ _ _ _ _ _
   | exact exactpplmake_Src_Nodes.mono _ _ _ _
   | exact exactpplref19_Branch.mono _ _ _
   | exact exactpplref19_Same.mono _ _ _
   | exact LeO.none _
   | refine LeO.ite ?_ ?_
   | refine LeO.bind ?_ (fun _ => ?_)
  ·intro y0 y1 y2 y3 y4 y5
   unfold exactppllaw19_DiagramBranches.l0
   repeat' first
   | (with_reducible exact ih0 _ _ _ _)
   | (with_reducible exact ih1 _ _ _ _ _ _)
   | (with_reducible exact ih2 _ _)
   | (with_reducible exact ih3 _ _ _)
   | (with_reducible exact exactpplmake_Src_Diagram.mono _ _ _ _ _ _)
   | (with_reducible exact exactpplmake_Src_Nodes.mono _ _ _ _)
   | (with_reducible exact exactpplref19_Branch.mono _ _ _)
   | (with_reducible exact exactpplref19_Same.mono _ _ _)
   | (with_reducible exact LeO.refl _)
   | (with_reducible exact LeO.none _)
   | (with_reducible refine LeO.ite ?_ ?_)
   | (with_reducible refine LeO.bind ?_ (fun _ => ?_))
   | exact ih0 _ _ _ _
   | exact ih1 _ _ _ _ _ _
   | exact ih2 _ _
   | exact ih3 _ _ _
   | exact exactpplmake_Src_Diagram.mono _ _ _ _ _ _
   | exact exactpplmake_Src_Nodes.mono _ _ _ _
   | exact exactpplref19_Branch.mono _ _ _
   | exact exactpplref19_Same.mono _ _ _
   | exact LeO.none _
   | refine LeO.ite ?_ ?_
   | refine LeO.bind ?_ (fun _ => ?_)
  ·intro y0 y1
   unfold exactppllaw19_DiagramBranches.j3
   repeat' first
   | (with_reducible exact ih0 _ _ _ _)
   | (with_reducible exact ih1 _ _ _ _ _ _)
   | (with_reducible exact ih2 _ _)
   | (with_reducible exact ih3 _ _ _)
   | (with_reducible exact exactpplmake_Src_Diagram.mono _ _ _ _ _ _)
   | (with_reducible exact exactpplmake_Src_Nodes.mono _ _ _ _)
   | (with_reducible exact exactpplref19_Branch.mono _ _ _)
   | (with_reducible exact exactpplref19_Same.mono _ _ _)
   | (with_reducible exact LeO.refl _)
   | (with_reducible exact LeO.none _)
   | (with_reducible refine LeO.ite ?_ ?_)
   | (with_reducible refine LeO.bind ?_ (fun _ => ?_))
   | exact ih0 _ _ _ _
   | exact ih1 _ _ _ _ _ _
   | exact ih2 _ _
   | exact ih3 _ _ _
   | exact exactpplmake_Src_Diagram.mono _ _ _ _ _ _
   | exact exactpplmake_Src_Nodes.mono _ _ _ _
   | exact exactpplref19_Branch.mono _ _ _
   | exact exactpplref19_Same.mono _ _ _
   | exact LeO.none _
   | refine LeO.ite ?_ ?_
   | refine LeO.bind ?_ (fun _ => ?_)
  ·intro y0 y1 y2
   unfold exactppllaw19_DiagramBranches.l1
   repeat' first
   | (with_reducible exact ih0 _ _ _ _)
   | (with_reducible exact ih1 _ _ _ _ _ _)
   | (with_reducible exact ih2 _ _)
   | (with_reducible exact ih3 _ _ _)
   | (with_reducible exact exactpplmake_Src_Diagram.mono _ _ _ _ _ _)
   | (with_reducible exact exactpplmake_Src_Nodes.mono _ _ _ _)
   | (with_reducible exact exactpplref19_Branch.mono _ _ _)
   | (with_reducible exact exactpplref19_Same.mono _ _ _)
   | (with_reducible exact LeO.refl _)
   | (with_reducible exact LeO.none _)
   | (with_reducible refine LeO.ite ?_ ?_)
   | (with_reducible refine LeO.bind ?_ (fun _ => ?_))
   | exact ih0 _ _ _ _
   | exact ih1 _ _ _ _ _ _
   | exact ih2 _ _
   | exact ih3 _ _ _
   | exact exactpplmake_Src_Diagram.mono _ _ _ _ _ _
   | exact exactpplmake_Src_Nodes.mono _ _ _ _
   | exact exactpplref19_Branch.mono _ _ _
   | exact exactpplref19_Same.mono _ _ _
   | exact LeO.none _
   | refine LeO.ite ?_ ?_
   | refine LeO.bind ?_ (fun _ => ?_)
theorem exactppllaw19_DiagramBranches.mono : ∀ a0 a1 k, LeO (exactppllaw19_DiagramBranches.f k a0 a1) (exactppllaw19_DiagramBranches.f (k + 1) a0 a1) := by
 intro a0 a1 k
 obtain ⟨ih0, ih1, ih2, ih3⟩ := exactppllaw19_DiagramBranches.mono_l k
 unfold exactppllaw19_DiagramBranches.f
 repeat' first
   | (with_reducible exact ih0 _ _ _ _)
   | (with_reducible exact ih1 _ _ _ _ _ _)
   | (with_reducible exact ih2 _ _)
   | (with_reducible exact ih3 _ _ _)
   | (with_reducible exact exactpplmake_Src_Diagram.mono _ _ _ _ _ _)
   | (with_reducible exact exactpplmake_Src_Nodes.mono _ _ _ _)
   | (with_reducible exact exactpplref19_Branch.mono _ _ _)
   | (with_reducible exact exactpplref19_Same.mono _ _ _)
   | (with_reducible exact LeO.refl _)
   | (with_reducible exact LeO.none _)
   | (with_reducible refine LeO.ite ?_ ?_)
   | (with_reducible refine LeO.bind ?_ (fun _ => ?_))
   | exact ih0 _ _ _ _
   | exact ih1 _ _ _ _ _ _
   | exact ih2 _ _
   | exact ih3 _ _ _
   | exact exactpplmake_Src_Diagram.mono _ _ _ _ _ _
   | exact exactpplmake_Src_Nodes.mono _ _ _ _
   | exact exactpplref19_Branch.mono _ _ _
   | exact exactpplref19_Same.mono _ _ _
   | exact LeO.none _
   | refine LeO.ite ?_ ?_
   | refine LeO.bind ?_ (fun _ => ?_)
set_option maxHeartbeats 8000000 in
set_option maxRecDepth 100000 in
theorem exactppllaw19_DiagramBranches.calls (k : Nat) (A0 : Option Addr) (c0 : Nat) (l0 : List Int) (a1 : Int) (r : Bool) (w : World) (hr0 : Kd.C (Kd.int .i64) w A0 l0.length l0) (hc0 : l0.length ≤ c0) (h : exactppllaw19_DiagramBranches.f k l0 a1 = some r) (htab : PowTab w.heap.size w) :
  Calls Tryd.prog 9 #[.slice A0 l0.length c0, .int .i64 a1] w fun e w' => e = .returned (.bool r) ∧ Below w.heap.size w w' := by
 have HTAB := Aside0.mk htab
 clear htab
 have hu31 := Tryd.underlying31
 have HR0 := Aside0.mk hr0
 have HC0 := Aside0.mk hc0
 clear hr0 hc0
 have HB := Aside0.mk (Below.refl w.heap.size w)
 have H : ((exactpplmake_New.f l0).bind fun bt517 => ((exactpplmake_Src_N.f bt517.1 bt517.2.1 bt517.2.2 3).bind fun bt521 => (if bt521.1 > 0 then ((exactpplmake_Src_Range.f bt517.1 bt521.2.1 bt521.2.2 (-1) 3).bind fun bt524 => (exactppllaw19_DiagramBranches.j0 k bt524.1 bt517.1 bt524.2.1 bt524.2.2)) else (exactppllaw19_DiagramBranches.j0 k a1 bt517.1 bt521.2.1 bt521.2.2)))) = some r := h
 clear h
 replace H := Option.bind_eq_some_iff.mp H
 obtain ⟨⟨t517, t518, t519⟩, A30, H⟩ := H
 replace H : ((exactpplmake_Src_N.f t517 t518 t519 3).bind fun bt521 => (if bt521.1 > 0 then ((exactpplmake_Src_Range.f t517 bt521.2.1 bt521.2.2 (-1) 3).bind fun bt524 => (exactppllaw19_DiagramBranches.j0 k bt524.1 t517 bt524.2.1 bt524.2.2)) else (exactppllaw19_DiagramBranches.j0 k a1 t517 bt521.2.1 bt521.2.2))) = some r := H
 have A3 := Aside0.mk A30
 clear A30
 replace H := Option.bind_eq_some_iff.mp H
 obtain ⟨⟨t521, t522, t523⟩, A40, H⟩ := H
 replace H : (if t521 > 0 then ((exactpplmake_Src_Range.f t517 t522 t523 (-1) 3).bind fun bt524 => (exactppllaw19_DiagramBranches.j0 k bt524.1 t517 bt524.2.1 bt524.2.2)) else (exactppllaw19_DiagramBranches.j0 k a1 t517 t522 t523)) = some r := H
 have A4 := Aside0.mk A40
 clear A40
 have HC5 := Aside0.mk H
 clear H
 go_enter Tryd.func9, Tryd.ntmps9
 go_upto_if 18 with (first | ((with_reducible refine gate_callee (f := 15) rfl ?_); refine goesL_ (some 15) rfl rfl Tryd.func15 (by kernel_rfl) rfl #[.slice A0 l0.length c0] rfl (by (try simp only [List.map_toArray, List.map_cons, List.map_nil]); first | done | rfl | (simp only [List.length_drop, List.length_take]; rfl)) ?_; (with_reducible refine (exactpplmake_New.calls _ _ l0 t517 t518 t519 w _ ?side1 ?side2 ?side3 A3.out).mono ?_); (case side1 => repeat (first | (with_reducible first | exact HB.out | apply below_alloc | apply pw_below_drewN | apply below_drew1) | exact HB.out)); (case side2 => exact HR0.out); (case side3 => exact HC0.out); rintro e w6 ⟨g520, rfl, hi, hb, hb2⟩; refine ⟨_, rfl, ?_⟩; have HI520 := Aside0.mk (hi); replace HB := Aside0.mk (hb); (try clear hb); (try clear hb2); (try clear hk); (try clear hi)) | ((with_reducible refine gate_callee (f := 23) rfl ?_); refine goesL_ (some 17) rfl rfl Tryd.func23 (by kernel_rfl) rfl #[.pointer (some ⟨g520, 0, none⟩), .int .i64 3] rfl (by (try simp only [List.map_toArray, List.map_cons, List.map_nil]); first | done | rfl | (simp only [List.length_drop, List.length_take]; rfl)) ?_; (with_reducible refine (exactpplmake_Src_N.calls g520 t517 t518 t519 3 t521 t522 t523 w _ ?side1 ?side2 A4.out).mono ?_); (case side1 => repeat (first | (with_reducible first | exact HI520.out | apply IsS58.alloc | apply IsS58.drewN | apply IsS58.drew | apply IsS58.set_1 | apply IsS58.set_2) | exact HI520.out)); (case side2 => repeat (first | (with_reducible first | exact HB.out | apply below_alloc | apply pw_below_drewN | apply below_drew1 | refine below_set ?_ (IsS58.ge HI520.out)) | exact HB.out)); rintro e w7 ⟨rfl, hi, hb, hk⟩; refine ⟨_, rfl, ?_⟩; replace HB := Aside0.mk (hb); replace HI520 := Aside0.mk (hi); (try clear hb); (try clear hb2); (try clear hk); (try clear hi)))
 (try simp only [Act.put, List.setIfInBounds_toArray, List.set_cons_zero, List.set_cons_succ])
 go_cut [1] (fun v1 wc => ∃ (kq : Nat) (x1_4 : Int) (x521001_4 : Int) (x521002_4 : Int), v1 = .int .i64 x1_4 ∧ Aside0 (exactppllaw19_DiagramBranches.j0 kq x1_4 t517 x521001_4 x521002_4 = some r) ∧ Aside0 (kq ≤ k) ∧ Aside0 (IsS58 w wc g520 t517 x521001_4 x521002_4) ∧ Aside0 (Below w.heap.size w wc))
 case first =>
  have H := HC5.out
  clear HC5
  by_cases c8 : t521 > 0
  ·rw [if_pos c8] at H
   have c8b0 : decide (0 < t521) = true := decide_eq_true c8
   clear c8
   (first | rw [c8b0] | (simp only [i64_w, i32_w]; rw [c8b0]) | skip)
   replace H := Option.bind_eq_some_iff.mp H
   obtain ⟨⟨t524, t525, t526⟩, A90, H⟩ := H
   replace H : (exactppllaw19_DiagramBranches.j0 k t524 t517 t525 t526) = some r := H
   have A9 := Aside0.mk A90
   clear A90
   have H' := Aside0.mk H
   clear H
   go_wp2_with (first | ((with_reducible refine gate_callee (f := 25) rfl ?_); refine goesL_ (some 20) rfl rfl Tryd.func25 (by kernel_rfl) rfl #[.pointer (some ⟨g520, 0, none⟩), .int .i64 (-1), .int .i64 3] rfl (by (try simp only [List.map_toArray, List.map_cons, List.map_nil]); first | done | rfl | (simp only [List.length_drop, List.length_take]; rfl)) ?_; (with_reducible refine (exactpplmake_Src_Range.calls g520 t517 t522 t523 (-1) 3 t524 t525 t526 w _ ?side1 ?side2 A9.out).mono ?_); (case side1 => repeat (first | (with_reducible first | exact HI520.out | apply IsS58.alloc | apply IsS58.drewN | apply IsS58.drew | apply IsS58.set_1 | apply IsS58.set_2) | exact HI520.out)); (case side2 => repeat (first | (with_reducible first | exact HB.out | apply below_alloc | apply pw_below_drewN | apply below_drew1 | refine below_set ?_ (IsS58.ge HI520.out)) | exact HB.out)); rintro e w10 ⟨rfl, hi, hb, hk⟩; refine ⟨_, rfl, ?_⟩; replace HB := Aside0.mk (hb); replace HI520 := Aside0.mk (hi); (try clear hb); (try clear hb2); (try clear hk); (try clear hi)))
   go_meet
   case rel => exact ⟨_, (t524), (t525), (t526), rs_, H', ⟨by first | omega | exact Nat.le_refl _⟩, ⟨si_⟩, ⟨bl_⟩⟩
  ·rw [if_neg c8] at H
   have c8b0 : decide (0 < t521) = false := decide_eq_false c8
   clear c8
   (first | rw [c8b0] | (simp only [i64_w, i32_w]; rw [c8b0]) | skip)
   have H' := Aside0.mk H
   clear H
   go_wp2
   go_meet
   case rel => exact ⟨_, (a1), (t522), (t523), rs_, H', ⟨by first | omega | exact Nat.le_refl _⟩, ⟨si_⟩, ⟨bl_⟩⟩
 case rest =>
  clear HC5
  try clear c1
  try clear c2
  try clear p2
  try clear c8
  try clear c8b0
  try clear c9
  obtain ⟨kq, x1_4, x521001_4, x521002_4, rfl, HA, HJ4, HI520, HB⟩ := hcut
  cases kq with
  | zero => exact absurd HA.out (by simp [exactppllaw19_DiagramBranches.j0])
  | succ kj4 =>
   have H := HA.out
   clear HA
   simp only [exactppllaw19_DiagramBranches.j0] at H
   replace H := Option.bind_eq_some_iff.mp H
   obtain ⟨⟨t527, t528, t529⟩, A110, H⟩ := H
   replace H : (exactppllaw19_DiagramBranches.l0 kj4 x1_4 ([] : List (S31)) t527 t517 t528 t529) = some r := H
   have A11 := Aside0.mk A110
   clear A110
   have H' := Aside0.mk H
   clear H
   go_wp2_with (first | ((with_reducible refine gate_callee (f := 23) rfl ?_); refine goesL_ (some 22) rfl rfl Tryd.func23 (by kernel_rfl) rfl #[.pointer (some ⟨g520, 0, none⟩), .int .i64 5] rfl (by (try simp only [List.map_toArray, List.map_cons, List.map_nil]); first | done | rfl | (simp only [List.length_drop, List.length_take]; rfl)) ?_; (with_reducible refine (exactpplmake_Src_N.calls g520 t517 x521001_4 x521002_4 5 t527 t528 t529 w _ ?side1 ?side2 A11.out).mono ?_); (case side1 => repeat (first | (with_reducible first | exact HI520.out | apply IsS58.alloc | apply IsS58.drewN | apply IsS58.drew | apply IsS58.set_1 | apply IsS58.set_2) | exact HI520.out)); (case side2 => repeat (first | (with_reducible first | exact HB.out | apply below_alloc | apply pw_below_drewN | apply below_drew1 | refine below_set ?_ (IsS58.ge HI520.out)) | exact HB.out)); rintro e w12 ⟨rfl, hi, hb, hk⟩; refine ⟨_, rfl, ?_⟩; replace HB := Aside0.mk (hb); replace HI520 := Aside0.mk (hi); (try clear hb); (try clear hb2); (try clear hk); (try clear hi)))
   go_loopg [6, 7] kj4 (fun kq v6 v7 w' => ∃ (x6_2 : List (S31)) (x7_2 : Int) (x521001_2 : Int) (x521002_2 : Int), v7 = .int .i64 x7_2 ∧ Aside0 (exactppllaw19_DiagramBranches.l0 kq x1_4 x6_2 x7_2 t517 x521001_2 x521002_2 = some r) ∧ Aside0 (kq ≤ kj4) ∧ Aside0 (Kd.N k31 31 w' w.heap.size (fun k_ => k_ ≠ g520) v6 x6_2) ∧ Aside0 (IsS58 w w' g520 t517 x521001_2 x521002_2) ∧ Aside0 (Below w.heap.size w w'))
   case atStart => exact ⟨(([] : List (S31))), (t527), (t528), (t529), rs_, H', ⟨Nat.le_refl _⟩, ⟨by first | exact Kd.R_nil _ _ _ _ _ | exact Kd.N_nil _ _ _ _ _ | exact Kd.V_nil _ _ _ _ _ | exact Kd.Q_nil _ _ _ _ _ | exact Kd.S_nil _ _ _ _ _⟩, ⟨si_⟩, ⟨bl_⟩⟩
   case round =>
    clear H'
    try clear c1
    try clear c2
    try clear p2
    try clear c8
    try clear c8b0
    try clear c9
    try clear p2
    obtain ⟨x6_2, x7_2, x521001_2, x521002_2, rfl, HA, HK2, HO_6, HI520, HB⟩ := hrel
    cases gk with
    | zero => exact absurd HA.out (by simp [exactppllaw19_DiagramBranches.l0])
    | succ k2 =>
     have H := HA.out
     clear HA
     simp only [exactppllaw19_DiagramBranches.l0] at H
     by_cases c13 : x7_2 > 0
     ·rw [if_pos c13] at H
      have c13b0 : decide (0 < x7_2) = true := decide_eq_true c13
      clear c13
      replace H := Option.bind_eq_some_iff.mp H
      obtain ⟨⟨t530, t531, t532⟩, A140, H⟩ := H
      replace H : ((exactpplmake_Src_Diagram.f k2 t517 t531 t532 t530 3).bind fun bt533 => ((exactpplmake_Src_N.f t517 bt533.2.1 bt533.2.2 9).bind fun bt539 => (if bt539.1 = 0 then ((exactpplmake_Src_Nodes.f k2 t517 bt539.2.1 bt539.2.2).bind fun bt542 => (if x6_2.length < 5864062014805 then (exactppllaw19_DiagramBranches.l0 k2 x1_4 (x6_2 ++ [(⟨bt542.1⟩ : S31)]) (wrap64 (x7_2 - 1)) t517 bt542.2.1 bt542.2.2) else (none))) else (if x6_2.length < 5864062014805 then (exactppllaw19_DiagramBranches.l0 k2 x1_4 (x6_2 ++ [(⟨bt533.1⟩ : S31)]) (wrap64 (x7_2 - 1)) t517 bt539.2.1 bt539.2.2) else (none))))) = some r := H
      have A14 := Aside0.mk A140
      clear A140
      replace H := Option.bind_eq_some_iff.mp H
      obtain ⟨⟨t533, t536, t537⟩, A150, H⟩ := H
      replace H : ((exactpplmake_Src_N.f t517 t536 t537 9).bind fun bt539 => (if bt539.1 = 0 then ((exactpplmake_Src_Nodes.f k2 t517 bt539.2.1 bt539.2.2).bind fun bt542 => (if x6_2.length < 5864062014805 then (exactppllaw19_DiagramBranches.l0 k2 x1_4 (x6_2 ++ [(⟨bt542.1⟩ : S31)]) (wrap64 (x7_2 - 1)) t517 bt542.2.1 bt542.2.2) else (none))) else (if x6_2.length < 5864062014805 then (exactppllaw19_DiagramBranches.l0 k2 x1_4 (x6_2 ++ [(⟨t533⟩ : S31)]) (wrap64 (x7_2 - 1)) t517 bt539.2.1 bt539.2.2) else (none)))) = some r := H
      have A15 := Aside0.mk A150
      clear A150
      replace H := Option.bind_eq_some_iff.mp H
      obtain ⟨⟨t539, t540, t541⟩, A160, H⟩ := H
      replace H : (if t539 = 0 then ((exactpplmake_Src_Nodes.f k2 t517 t540 t541).bind fun bt542 => (if x6_2.length < 5864062014805 then (exactppllaw19_DiagramBranches.l0 k2 x1_4 (x6_2 ++ [(⟨bt542.1⟩ : S31)]) (wrap64 (x7_2 - 1)) t517 bt542.2.1 bt542.2.2) else (none))) else (if x6_2.length < 5864062014805 then (exactppllaw19_DiagramBranches.l0 k2 x1_4 (x6_2 ++ [(⟨t533⟩ : S31)]) (wrap64 (x7_2 - 1)) t517 t540 t541) else (none))) = some r := H
      have A16 := Aside0.mk A160
      clear A160
      by_cases c17 : t539 = 0
      ·rw [if_pos c17] at H
       have c17b0 : (t539 == 0) = true := beq_iff_eq.mpr c17
       have c17b1 : (t539 != 0) = false := bne_eq_false_iff_eq.mpr c17
       clear c17
       replace H := Option.bind_eq_some_iff.mp H
       obtain ⟨⟨t542, t545, t546⟩, A180, H⟩ := H
       replace H : (if x6_2.length < 5864062014805 then (exactppllaw19_DiagramBranches.l0 k2 x1_4 (x6_2 ++ [(⟨t542⟩ : S31)]) (wrap64 (x7_2 - 1)) t517 t545 t546) else (none)) = some r := H
       have A18 := Aside0.mk A180
       clear A180
       by_cases c19 : x6_2.length < 5864062014805
       ·rw [if_pos c19] at H
        have LMc19 := Aside0.mk c19
        clear c19
        obtain ⟨y547, hy547⟩ : ∃ y_ : List (S31), y_ = (x6_2 ++ [(⟨t542⟩ : S31)]) := ⟨_, rfl⟩
        replace H : (exactppllaw19_DiagramBranches.l0 k2 x1_4 y547 (wrap64 (x7_2 - 1)) t517 t545 t546) = some r := by first | (rw [hy547]; with_reducible exact H) | (have H2_ := (Option.bind_some _ _).symm.trans H; rw [hy547]; with_reducible exact H2_) | (have H2_ := (Option.bind_some _ _).symm.trans H; with_reducible exact H2_) | with_reducible exact H | (rw [hy547]; exact H) | exact H
        have Ny547 := Aside0.mk hy547
        clear hy547
        have H' := Aside0.mk H
        clear H
        go_wp2_with (first | ((with_reducible refine gate_callee (f := 23) rfl ?_); refine goesL_ (some 29) rfl rfl Tryd.func23 (by kernel_rfl) rfl #[.pointer (some ⟨g520, 0, none⟩), .int .i64 3] rfl (by (try simp only [List.map_toArray, List.map_cons, List.map_nil]); first | done | rfl | (simp only [List.length_drop, List.length_take]; rfl)) ?_; (with_reducible refine (exactpplmake_Src_N.calls g520 t517 x521001_2 x521002_2 3 t530 t531 t532 w _ ?side1 ?side2 A14.out).mono ?_); (case side1 => repeat (first | (with_reducible first | exact HI520.out | apply IsS58.alloc | apply IsS58.drewN | apply IsS58.drew | apply IsS58.set_1 | apply IsS58.set_2) | exact HI520.out)); (case side2 => repeat (first | (with_reducible first | exact HB.out | apply below_alloc | apply pw_below_drewN | apply below_drew1 | refine below_set ?_ (IsS58.ge HI520.out)) | exact HB.out)); rintro e w20 ⟨rfl, hi, hb, hk⟩; refine ⟨_, rfl, ?_⟩; replace HO_6 := Aside0.mk (Kd.N_mono (Kd.N_keep (Kd.N_mono (ok := fun k_ => k_ ≠ g520) (pN_ HO_6.out) (fun k_ hk_ => (⟨hk_, hk_⟩ : _ ∧ k_ ≠ g520))) hk (fun _ h => h.2)) (fun _ h => h.1)); replace HB := Aside0.mk (hb); replace HI520 := Aside0.mk (hi); (try clear hb); (try clear hb2); (try clear hk); (try clear hi)) | ((with_reducible refine gate_callee (f := 22) rfl ?_); refine goesL_ (some 30) rfl rfl Tryd.func22 (by kernel_rfl) rfl #[.pointer (some ⟨g520, 0, none⟩), .int .i64 t530, .int .i64 3] rfl (by (try simp only [List.map_toArray, List.map_cons, List.map_nil]); first | done | rfl | (simp only [List.length_drop, List.length_take]; rfl)) ?_; (with_reducible refine (exactpplmake_Src_Diagram.calls k2 g520 t517 t531 t532 t530 3 t533 t536 t537 w _ ?side1 ?side2 A15.out).mono ?_); (case side1 => repeat (first | (with_reducible first | exact HI520.out | apply IsS58.alloc | apply IsS58.drewN | apply IsS58.drew | apply IsS58.set_1 | apply IsS58.set_2) | exact HI520.out)); (case side2 => repeat (first | (with_reducible first | exact HB.out | apply below_alloc | apply pw_below_drewN | apply below_drew1 | refine below_set ?_ (IsS58.ge HI520.out)) | exact HB.out)); rintro e w21 ⟨v534, rfl, ho0, hi, hb, hk⟩; refine ⟨_, rfl, ?_⟩; have HO535 := Aside0.mk (Kd.V_lower (Kd.V_mono (ok' := fun k_ => some k_ ≠ (u6 : Value).ownBlock ∧ k_ ≠ g520) ho0 (fun k_ hk_ => ⟨(Kd.fresh' (Kd.N_lt (pN_ HO_6.out)) k_ hk_), (IsS58.fresh si_ k_ hk_)⟩)) (below_size bl_)); replace HO_6 := Aside0.mk (Kd.N_mono (Kd.N_keep (Kd.N_mono (ok := fun k_ => k_ ≠ g520) (pN_ HO_6.out) (fun k_ hk_ => (⟨hk_, hk_⟩ : _ ∧ k_ ≠ g520))) hk (fun _ h => h.2)) (fun _ h => h.1)); replace HB := Aside0.mk (hb); replace HI520 := Aside0.mk (hi); (try clear hb); (try clear hb2); (try clear hk); (try clear hi); (try clear ho0)) | ((with_reducible refine gate_dst (N := 8) rfl ?_); refine box_event ?hg (N := 8) ?hd (cs := #[.slice none 0 0]) (t := 31) ?hr ?_; (case hd => rfl); (case hg => rfl); (case hr => first | (go_simp; done) | (go_simp; rfl)); intro gb538 hg w22 hbox hb; have BK538 := Aside0.mk (hbox); have GW538 : Aside0 (w.heap.size ≤ gb538) := gw_ hg (below_size bl_); have GE538 := GW538; have NB520_538 := Aside0.mk ((by rw [hg]; exact Nat.ne_of_lt (IsS58.lt (show IsS58 w _ g520 t517 t536 t537 from si_)) : g520 ≠ gb538)); have NB538_520 := Aside0.mk ((by rw [hg]; exact Nat.ne_of_gt (IsS58.lt (show IsS58 w _ g520 t517 t536 t537 from si_)) : gb538 ≠ g520)); replace HO_6 := Aside0.mk (Kd.N_below (Kd.N_elderB (pN_ HO_6.out) gb538 (Nat.le_of_eq hg.symm)) hb); replace HO535 := Aside0.mk (Kd.V_below (Kd.V_elderB (pV_ HO535.out) gb538 (Nat.le_of_eq hg.symm)) hb); replace HI520 := Aside0.mk (IsS58.below si_ hb); replace HB := Aside0.mk (below_step bl_ hb); clear hb hbox hg; obtain ⟨Ao23, co23, eo23⟩ := Kd.V_slice HO535.out; subst eo23; have hnb24 := NB538_520.out; have hnc24 := NB520_538.out; obtain ⟨hcz25_0, hfz25_0⟩ := cf1_ BK538.out) | ((with_reducible refine gate_callee (f := 23) rfl ?_); refine goesL_ (some 32) rfl rfl Tryd.func23 (by kernel_rfl) rfl #[.pointer (some ⟨g520, 0, none⟩), .int .i64 9] rfl (by (try simp only [List.map_toArray, List.map_cons, List.map_nil]); first | done | rfl | (simp only [List.length_drop, List.length_take]; rfl)) ?_; (with_reducible refine (exactpplmake_Src_N.calls g520 t517 t536 t537 9 t539 t540 t541 w _ ?side1 ?side2 A16.out).mono ?_); (case side1 => repeat (first | (with_reducible first | exact HI520.out | apply IsS58.alloc | apply IsS58.drewN | apply IsS58.drew | apply IsS58.set_1 | apply IsS58.set_2 | refine IsS58.far ?_ NB520_538.out _) | exact HI520.out)); (case side2 => repeat (first | (with_reducible first | exact HB.out | apply below_alloc | apply pw_below_drewN | apply below_drew1 | refine below_set ?_ (IsS58.ge HI520.out) | refine below_set ?_ GE538.out) | exact HB.out)); rintro e w26 ⟨rfl, hi, hb, hk⟩; refine ⟨_, rfl, ?_⟩; replace HO_6 := Aside0.mk (Kd.N_mono (Kd.N_keep (Kd.N_mono (ok := fun k_ => (k_ ≠ g520 ∧ k_ ≠ gb538)) (by (with_reducible repeat (first | apply Kd.N_alloc | apply Kd.N_drewN | apply Kd.N_drew)); exact (Kd.N_mono (Kd.N_far (p := ⟨gb538, 0, none⟩) (Kd.N_mono HO_6.out (fun k_ hk => (⟨hk, by first | exact hk.2 | exact hk.1 | exact hk.2 | exact hk.1.1 | exact hk.1.2⟩ : _ ∧ k_ ≠ gb538))) (fun _ hk => hk.2) (.slice Ao23 t533.length co23)) (fun _ h_ => h_.1))) (fun k_ hk_ => (⟨hk_, hk_.1⟩ : _ ∧ k_ ≠ g520))) hk (fun _ h => h.2)) (fun _ h => h.1)); replace HO535 := Aside0.mk (Kd.V_mono (Kd.V_keep (Kd.V_mono (ok := fun k_ => ((some k_ ≠ (u6 : Value).ownBlock ∧ k_ ≠ g520) ∧ k_ ≠ gb538)) (by (with_reducible repeat (first | apply Kd.V_alloc | apply Kd.V_drewN | apply Kd.V_drew)); exact (Kd.V_mono (Kd.V_far (p := ⟨gb538, 0, none⟩) (Kd.V_mono HO535.out (fun k_ hk => (⟨hk, by first | exact hk.2 | exact hk.1 | exact hk.2 | exact hk.1.1 | exact hk.1.2⟩ : _ ∧ k_ ≠ gb538))) (fun _ hk => hk.2) (.slice Ao23 t533.length co23)) (fun _ h_ => h_.1))) (fun k_ hk_ => (⟨hk_, hk_.1.2⟩ : _ ∧ k_ ≠ g520))) hk (fun _ h => h.2)) (fun _ h => h.1)); replace BK538 := Aside0.mk (KeepBut.blk hk (g' := gb538) (o := .cells #[.slice Ao23 t533.length co23] 31 (0, 0)) (by (with_reducible repeat (first | refine blk_drewN ?_ _ | refine blk_drew ?_ | refine blk_alloc ?_ _)); refine blk_put (cs := #[.slice none 0 0]) ?_ 0 _ rfl; (with_reducible repeat (first | refine blk_drewN ?_ _ | refine blk_drew ?_ | refine blk_alloc ?_ _)); exact BK538.out) NB538_520.out (by simp)); replace HB := Aside0.mk (hb); replace HI520 := Aside0.mk (hi); (try clear hb); (try clear hb2); (try clear hk); (try clear hi)) | ((with_reducible refine gate_callee (f := 16) rfl ?_); refine goesL_ (some 35) rfl rfl Tryd.func16 (by kernel_rfl) rfl #[.pointer (some ⟨g520, 0, none⟩)] rfl (by (try simp only [List.map_toArray, List.map_cons, List.map_nil]); first | done | rfl | (simp only [List.length_drop, List.length_take]; rfl)) ?_; (with_reducible refine (exactpplmake_Src_Nodes.calls k2 g520 t517 t540 t541 t542 t545 t546 w _ ?side1 ?side2 A18.out).mono ?_); (case side1 => repeat (first | (with_reducible first | exact HI520.out | apply IsS58.alloc | apply IsS58.drewN | apply IsS58.drew | apply IsS58.set_1 | apply IsS58.set_2 | refine IsS58.far ?_ NB520_538.out _) | exact HI520.out)); (case side2 => repeat (first | (with_reducible first | exact HB.out | apply below_alloc | apply pw_below_drewN | apply below_drew1 | refine below_set ?_ (IsS58.ge HI520.out) | refine below_set ?_ GE538.out) | exact HB.out)); rintro e w27 ⟨v543, rfl, ho0, hi, hb, hk⟩; refine ⟨_, rfl, ?_⟩; have HO544 := Aside0.mk (Kd.N_lower (Kd.N_mono (ok' := fun k_ => some k_ ≠ (u6 : Value).ownBlock ∧ k_ ≠ gb538 ∧ k_ ≠ g520) (Kd.S_N (Kd.S_bound ho0)) (fun k_ hk_ => ⟨(Kd.fresh' (Kd.N_lt (pN_ HO_6.out)) k_ hk_.2.1), (Kd.freshB (g := gb538) (o := .cells #[.slice Ao23 t533.length co23] 31 (0, 0)) bk_ k_ hk_.2.1), (IsS58.fresh si_ k_ hk_.2.1)⟩)) (below_size bl_)); replace HO_6 := Aside0.mk (Kd.N_mono (Kd.N_told (Kd.N_oldK (Kd.N_mono (ok := fun k_ => (k_ ≠ g520 ∧ k_ ≠ gb538)) (pN_ HO_6.out) (fun k_ hk_ => (⟨hk_, hk_.1⟩ : _ ∧ k_ ≠ g520))) hk) (by first | exact Kd.N_base ho0 | exact Kd.R_base ho0 | exact Kd.N_base (Kd.S_N ho0))) (fun _ h_ => h_.1)); replace HO535 := Aside0.mk (Kd.V_mono (Kd.V_told (Kd.V_oldK (Kd.V_mono (ok := fun k_ => ((some k_ ≠ (u6 : Value).ownBlock ∧ k_ ≠ g520) ∧ k_ ≠ gb538)) (pV_ HO535.out) (fun k_ hk_ => (⟨hk_, hk_.1.2⟩ : _ ∧ k_ ≠ g520))) hk) (by first | exact Kd.N_base ho0 | exact Kd.R_base ho0 | exact Kd.N_base (Kd.S_N ho0))) (fun _ h_ => h_.1)); replace BK538 := Aside0.mk (KeepBut.blk hk (g' := gb538) (o := .cells #[.slice Ao23 t533.length co23] 31 (0, 0)) bk_ NB538_520.out (by simp)); replace HB := Aside0.mk (hb); replace HI520 := Aside0.mk (hi); (try clear hb); (try clear hb2); (try clear hk); (try clear hi); (try clear ho0); obtain ⟨Ao28, co28, eo28⟩ := Kd.N_slice HO544.out; subst eo28; obtain ⟨hcz29_0, hfz29_0⟩ := cf1_ BK538.out) | ((with_reducible refine gate_store (t := 31) (p := 8) rfl ?_); refine store_event (t := 31) (p := 8) (v := ?vo_w30) (w1 := (w27.setCell ⟨gb538, 0, none⟩ (.slice Ao28 t542.length co28))) ?hg ?ho ?hn ?hr ?_; (case ho => rfl); (case hg => rfl); (case hn => rfl); (case hr => first | (go_simp; done) | (go_simp; rfl)); intro w30 hw; replace HO_6 : Aside0 (Kd.N k31 31 w30 w.heap.size (fun k_ => some k_ ≠ (.slice Ao28 t542.length co28 : Value).ownBlock ∧ k_ ≠ g520 ∧ k_ ≠ gb538) u6 x6_2) := ⟨(by rw [hw]; exact (by (with_reducible repeat (first | apply Kd.N_alloc | apply Kd.N_drewN | apply Kd.N_drew)); exact Kd.N_mono (Kd.N_far (p := ⟨gb538, 0, none⟩) (Kd.N_mono HO_6.out (fun k_ hk => (⟨hk, by first | exact hk.1.2 | exact hk.1 | exact hk.2 | exact hk.1.1 | exact hk.1.2⟩ : _ ∧ k_ ≠ gb538))) (fun _ hk => hk.2) (.slice Ao28 t542.length co28)) (fun _ hk => ⟨hk.1.2, ⟨hk.1.1.1, hk.1.1.2⟩⟩)))⟩; replace HO535 : Aside0 (Kd.V k60 60 w30 w.heap.size (fun k_ => some k_ ≠ (u6 : Value).ownBlock ∧ some k_ ≠ (.slice Ao28 t542.length co28 : Value).ownBlock ∧ k_ ≠ g520 ∧ k_ ≠ gb538) (.slice Ao23 t533.length co23) t533) := ⟨(by rw [hw]; exact (by (with_reducible repeat (first | apply Kd.V_alloc | apply Kd.V_drewN | apply Kd.V_drew)); exact Kd.V_mono (Kd.V_far (p := ⟨gb538, 0, none⟩) (Kd.V_mono HO535.out (fun k_ hk => (⟨hk, by first | exact hk.1.2 | exact hk.1 | exact hk.2 | exact hk.1.1 | exact hk.1.2⟩ : _ ∧ k_ ≠ gb538))) (fun _ hk => hk.2) (.slice Ao28 t542.length co28)) (fun _ hk => ⟨hk.1.1.1.1, ⟨hk.1.2, ⟨hk.1.1.1.2, hk.1.1.2⟩⟩⟩)))⟩; replace HO544 : Aside0 (Kd.N k60 60 w30 w.heap.size (fun k_ => some k_ ≠ (u6 : Value).ownBlock ∧ k_ ≠ gb538 ∧ k_ ≠ g520) (.slice Ao28 t542.length co28) t542) := ⟨(by rw [hw]; exact (by (with_reducible repeat (first | apply Kd.N_alloc | apply Kd.N_drewN | apply Kd.N_drew)); exact Kd.N_mono (Kd.N_far (p := ⟨gb538, 0, none⟩) (Kd.N_mono HO544.out (fun k_ hk => (⟨hk, by first | exact hk.2.1 | exact hk.1 | exact hk.2 | exact hk.1.1 | exact hk.1.2⟩ : _ ∧ k_ ≠ gb538))) (fun _ hk => hk.2) (.slice Ao28 t542.length co28)) (fun _ hk => ⟨hk.1.1, ⟨hk.1.2.1, hk.1.2.2⟩⟩)))⟩; replace BK538 : Aside0 (w30.heap[gb538]? = some (.cells #[.slice Ao28 t542.length co28] 31 (0, 0))) := ⟨(by rw [hw]; exact (by (with_reducible repeat (first | refine blk_drewN ?_ _ | refine blk_drew ?_ | refine blk_alloc ?_ _)); refine blk_put (cs := #[.slice Ao23 t533.length co23]) ?_ 0 _ rfl; (with_reducible repeat (first | refine blk_drewN ?_ _ | refine blk_drew ?_ | refine blk_alloc ?_ _)); exact BK538.out))⟩; replace HI520 : Aside0 (IsS58 w w30 g520 t517 t545 t546) := ⟨(by rw [hw]; exact si_)⟩; replace HB : Aside0 (Below w.heap.size w w30) := ⟨(by rw [hw]; exact bl_)⟩; clear hw; obtain ⟨hcz31_0, hfz31_0⟩ := cf1_ BK538.out) | ((with_reducible refine gate_builtin (b := .append) (xs := #[.tmp 37, .tmp 39]) rfl ?_); at_builtin; refine Kd.N_append k31 (w0 := w) w.heap.size rfl (.tmp 37) (.tmp 39) 48 31 (.agg #[(.slice none 0 0)]) 24 rfl Tryd.underlying48 info31 rfl (by decide) (by omega) u6 x6_2 (⟨t542⟩ : S31) [.slice Ao28 t542.length co28] (fun k_ => k_ ≠ gb538 ∧ k_ ≠ g520) (fun k_ => ((fun k_ => k_ ≠ gb538 ∧ k_ ≠ g520)) k_ ∧ some k_ ≠ (u6 : Value).ownBlock) rfl rfl ?aP (fun _ hk => hk) ?aF ?aO ?aB ?aS ?aL ?_; (case aP => exact (k31_mkF _ _ (⟨t542⟩ : S31) (Kd.N_reads' (Kd.N_mono (ok' := (fun k_ => ((fun k_ => k_ ≠ gb538 ∧ k_ ≠ g520)) k_ ∧ some k_ ≠ (u6 : Value).ownBlock)) (HO544.out) (fun k_ hk => ⟨⟨hk.2.1, hk.2.2⟩, hk.1⟩))).2.1 (Kd.N_F (Kd.N_mono (ok' := (fun k_ => ((fun k_ => k_ ≠ gb538 ∧ k_ ≠ g520)) k_ ∧ some k_ ≠ (u6 : Value).ownBlock)) (HO544.out) (fun k_ hk => ⟨⟨hk.2.1, hk.2.2⟩, hk.1⟩))))); (case aB => exact bl_); (case aF => exact (fun k_ hk => ⟨Kd.freshB (g := gb538) (o := .cells #[.slice Ao28 t542.length co28] 31 (0, 0)) bk_ k_ hk, IsS58.fresh si_ k_ hk⟩)); (case aO => exact (by (with_reducible repeat (first | apply Kd.N_alloc | apply Kd.N_drewN | apply Kd.N_drew)); exact Kd.N_mono HO_6.out (fun _ hk => ⟨hk.2.2, hk.2.1⟩))); (case aS => exact (below_size bl_)); (case aL => have := LMc19.out; omega); intro v548 w32 ho hb hg hat; rw [← Ny547.out] at ho; have HO549 := Aside0.mk (ho); replace HI520 := Aside0.mk (IsS58.grown si_ hg (IsS58.own_neN HI520.out HO_6.out (by decide))); replace HO535 := Aside0.mk (Kd.V_afterv (ok := (fun k_ => some k_ ≠ (.slice Ao28 t542.length co28 : Value).ownBlock ∧ k_ ≠ g520 ∧ k_ ≠ gb538)) (by (with_reducible repeat (first | apply Kd.V_alloc | apply Kd.V_drewN | apply Kd.V_drew)); exact Kd.V_mono HO535.out (fun _ hk => ⟨⟨hk.2.1, ⟨hk.2.2.1, hk.2.2.2⟩⟩, hk.1⟩)) hg hat); replace BK538 := Aside0.mk (blk_grown (g := gb538) (o := .cells #[.slice Ao28 t542.length co28] 31 (0, 0)) bk_ hg (Kd.N_away HO_6.out (fun _ hk => hk.2.2))); replace HB := Aside0.mk (hb); clear HO_6 HO544; clear ho hb hg hat))
        go_roundg k2
        case measure => have := HJ4.out; have := HK2.out; omega
        case rel => exact ⟨(y547), (wrap64 (x7_2 - 1)), (t545), (t546), rs_, H', ⟨by have := HJ4.out; have := HK2.out; omega⟩, ⟨by (with_reducible repeat (first | apply Kd.N_alloc | apply Kd.N_drewN | apply Kd.N_drew)); exact Kd.N_mono HO549.out (fun _ hk => hk.2)⟩, ⟨si_⟩, ⟨bl_⟩⟩
       ·rw [if_neg c19] at H
        exact absurd H (by simp)
      ·rw [if_neg c17] at H
       have c17b0 : (t539 == 0) = false := beq_eq_false_iff_ne.mpr c17
       have c17b1 : (t539 != 0) = true := bne_iff_ne.mpr c17
       by_cases c33 : x6_2.length < 5864062014805
       ·rw [if_pos c33] at H
        have LMc33 := Aside0.mk c33
        clear c33
        obtain ⟨y550, hy550⟩ : ∃ y_ : List (S31), y_ = (x6_2 ++ [(⟨t533⟩ : S31)]) := ⟨_, rfl⟩
        replace H : (exactppllaw19_DiagramBranches.l0 k2 x1_4 y550 (wrap64 (x7_2 - 1)) t517 t540 t541) = some r := by first | (rw [hy550]; with_reducible exact H) | (have H2_ := (Option.bind_some _ _).symm.trans H; rw [hy550]; with_reducible exact H2_) | (have H2_ := (Option.bind_some _ _).symm.trans H; with_reducible exact H2_) | with_reducible exact H | (rw [hy550]; exact H) | exact H
        have Ny550 := Aside0.mk hy550
        clear hy550
        have H' := Aside0.mk H
        clear H
        go_wp2_with (first | ((with_reducible refine gate_callee (f := 23) rfl ?_); refine goesL_ (some 29) rfl rfl Tryd.func23 (by kernel_rfl) rfl #[.pointer (some ⟨g520, 0, none⟩), .int .i64 3] rfl (by (try simp only [List.map_toArray, List.map_cons, List.map_nil]); first | done | rfl | (simp only [List.length_drop, List.length_take]; rfl)) ?_; (with_reducible refine (exactpplmake_Src_N.calls g520 t517 x521001_2 x521002_2 3 t530 t531 t532 w _ ?side1 ?side2 A14.out).mono ?_); (case side1 => repeat (first | (with_reducible first | exact HI520.out | apply IsS58.alloc | apply IsS58.drewN | apply IsS58.drew | apply IsS58.set_1 | apply IsS58.set_2) | exact HI520.out)); (case side2 => repeat (first | (with_reducible first | exact HB.out | apply below_alloc | apply pw_below_drewN | apply below_drew1 | refine below_set ?_ (IsS58.ge HI520.out)) | exact HB.out)); rintro e w34 ⟨rfl, hi, hb, hk⟩; refine ⟨_, rfl, ?_⟩; replace HO_6 := Aside0.mk (Kd.N_mono (Kd.N_keep (Kd.N_mono (ok := fun k_ => k_ ≠ g520) (pN_ HO_6.out) (fun k_ hk_ => (⟨hk_, hk_⟩ : _ ∧ k_ ≠ g520))) hk (fun _ h => h.2)) (fun _ h => h.1)); replace HB := Aside0.mk (hb); replace HI520 := Aside0.mk (hi); (try clear hb); (try clear hb2); (try clear hk); (try clear hi)) | ((with_reducible refine gate_callee (f := 22) rfl ?_); refine goesL_ (some 30) rfl rfl Tryd.func22 (by kernel_rfl) rfl #[.pointer (some ⟨g520, 0, none⟩), .int .i64 t530, .int .i64 3] rfl (by (try simp only [List.map_toArray, List.map_cons, List.map_nil]); first | done | rfl | (simp only [List.length_drop, List.length_take]; rfl)) ?_; (with_reducible refine (exactpplmake_Src_Diagram.calls k2 g520 t517 t531 t532 t530 3 t533 t536 t537 w _ ?side1 ?side2 A15.out).mono ?_); (case side1 => repeat (first | (with_reducible first | exact HI520.out | apply IsS58.alloc | apply IsS58.drewN | apply IsS58.drew | apply IsS58.set_1 | apply IsS58.set_2) | exact HI520.out)); (case side2 => repeat (first | (with_reducible first | exact HB.out | apply below_alloc | apply pw_below_drewN | apply below_drew1 | refine below_set ?_ (IsS58.ge HI520.out)) | exact HB.out)); rintro e w35 ⟨v534, rfl, ho0, hi, hb, hk⟩; refine ⟨_, rfl, ?_⟩; have HO535 := Aside0.mk (Kd.V_lower (Kd.V_mono (ok' := fun k_ => some k_ ≠ (u6 : Value).ownBlock ∧ k_ ≠ g520) ho0 (fun k_ hk_ => ⟨(Kd.fresh' (Kd.N_lt (pN_ HO_6.out)) k_ hk_), (IsS58.fresh si_ k_ hk_)⟩)) (below_size bl_)); replace HO_6 := Aside0.mk (Kd.N_mono (Kd.N_keep (Kd.N_mono (ok := fun k_ => k_ ≠ g520) (pN_ HO_6.out) (fun k_ hk_ => (⟨hk_, hk_⟩ : _ ∧ k_ ≠ g520))) hk (fun _ h => h.2)) (fun _ h => h.1)); replace HB := Aside0.mk (hb); replace HI520 := Aside0.mk (hi); (try clear hb); (try clear hb2); (try clear hk); (try clear hi); (try clear ho0)) | ((with_reducible refine gate_dst (N := 8) rfl ?_); refine box_event ?hg (N := 8) ?hd (cs := #[.slice none 0 0]) (t := 31) ?hr ?_; (case hd => rfl); (case hg => rfl); (case hr => first | (go_simp; done) | (go_simp; rfl)); intro gb538 hg w36 hbox hb; have BK538 := Aside0.mk (hbox); have GW538 : Aside0 (w.heap.size ≤ gb538) := gw_ hg (below_size bl_); have GE538 := GW538; have NB520_538 := Aside0.mk ((by rw [hg]; exact Nat.ne_of_lt (IsS58.lt (show IsS58 w _ g520 t517 t536 t537 from si_)) : g520 ≠ gb538)); have NB538_520 := Aside0.mk ((by rw [hg]; exact Nat.ne_of_gt (IsS58.lt (show IsS58 w _ g520 t517 t536 t537 from si_)) : gb538 ≠ g520)); replace HO_6 := Aside0.mk (Kd.N_below (Kd.N_elderB (pN_ HO_6.out) gb538 (Nat.le_of_eq hg.symm)) hb); replace HO535 := Aside0.mk (Kd.V_below (Kd.V_elderB (pV_ HO535.out) gb538 (Nat.le_of_eq hg.symm)) hb); replace HI520 := Aside0.mk (IsS58.below si_ hb); replace HB := Aside0.mk (below_step bl_ hb); clear hb hbox hg; obtain ⟨Ao37, co37, eo37⟩ := Kd.V_slice HO535.out; subst eo37; have hnb38 := NB538_520.out; have hnc38 := NB520_538.out; obtain ⟨hcz39_0, hfz39_0⟩ := cf1_ BK538.out) | ((with_reducible refine gate_callee (f := 23) rfl ?_); refine goesL_ (some 32) rfl rfl Tryd.func23 (by kernel_rfl) rfl #[.pointer (some ⟨g520, 0, none⟩), .int .i64 9] rfl (by (try simp only [List.map_toArray, List.map_cons, List.map_nil]); first | done | rfl | (simp only [List.length_drop, List.length_take]; rfl)) ?_; (with_reducible refine (exactpplmake_Src_N.calls g520 t517 t536 t537 9 t539 t540 t541 w _ ?side1 ?side2 A16.out).mono ?_); (case side1 => repeat (first | (with_reducible first | exact HI520.out | apply IsS58.alloc | apply IsS58.drewN | apply IsS58.drew | apply IsS58.set_1 | apply IsS58.set_2 | refine IsS58.far ?_ NB520_538.out _) | exact HI520.out)); (case side2 => repeat (first | (with_reducible first | exact HB.out | apply below_alloc | apply pw_below_drewN | apply below_drew1 | refine below_set ?_ (IsS58.ge HI520.out) | refine below_set ?_ GE538.out) | exact HB.out)); rintro e w40 ⟨rfl, hi, hb, hk⟩; refine ⟨_, rfl, ?_⟩; replace HO_6 := Aside0.mk (Kd.N_mono (Kd.N_keep (Kd.N_mono (ok := fun k_ => (k_ ≠ g520 ∧ k_ ≠ gb538)) (by (with_reducible repeat (first | apply Kd.N_alloc | apply Kd.N_drewN | apply Kd.N_drew)); exact (Kd.N_mono (Kd.N_far (p := ⟨gb538, 0, none⟩) (Kd.N_mono HO_6.out (fun k_ hk => (⟨hk, by first | exact hk.2 | exact hk.1 | exact hk.2 | exact hk.1.1 | exact hk.1.2⟩ : _ ∧ k_ ≠ gb538))) (fun _ hk => hk.2) (.slice Ao37 t533.length co37)) (fun _ h_ => h_.1))) (fun k_ hk_ => (⟨hk_, hk_.1⟩ : _ ∧ k_ ≠ g520))) hk (fun _ h => h.2)) (fun _ h => h.1)); replace HO535 := Aside0.mk (Kd.V_mono (Kd.V_keep (Kd.V_mono (ok := fun k_ => ((some k_ ≠ (u6 : Value).ownBlock ∧ k_ ≠ g520) ∧ k_ ≠ gb538)) (by (with_reducible repeat (first | apply Kd.V_alloc | apply Kd.V_drewN | apply Kd.V_drew)); exact (Kd.V_mono (Kd.V_far (p := ⟨gb538, 0, none⟩) (Kd.V_mono HO535.out (fun k_ hk => (⟨hk, by first | exact hk.2 | exact hk.1 | exact hk.2 | exact hk.1.1 | exact hk.1.2⟩ : _ ∧ k_ ≠ gb538))) (fun _ hk => hk.2) (.slice Ao37 t533.length co37)) (fun _ h_ => h_.1))) (fun k_ hk_ => (⟨hk_, hk_.1.2⟩ : _ ∧ k_ ≠ g520))) hk (fun _ h => h.2)) (fun _ h => h.1)); replace BK538 := Aside0.mk (KeepBut.blk hk (g' := gb538) (o := .cells #[.slice Ao37 t533.length co37] 31 (0, 0)) (by (with_reducible repeat (first | refine blk_drewN ?_ _ | refine blk_drew ?_ | refine blk_alloc ?_ _)); refine blk_put (cs := #[.slice none 0 0]) ?_ 0 _ rfl; (with_reducible repeat (first | refine blk_drewN ?_ _ | refine blk_drew ?_ | refine blk_alloc ?_ _)); exact BK538.out) NB538_520.out (by simp)); replace HB := Aside0.mk (hb); replace HI520 := Aside0.mk (hi); (try clear hb); (try clear hb2); (try clear hk); (try clear hi); obtain ⟨hcz41_0, hfz41_0⟩ := cf1_ BK538.out) | ((with_reducible refine gate_builtin (b := .append) (xs := #[.tmp 37, .tmp 39]) rfl ?_); at_builtin; refine Kd.N_append k31 (w0 := w) w.heap.size rfl (.tmp 37) (.tmp 39) 48 31 (.agg #[(.slice none 0 0)]) 24 rfl Tryd.underlying48 info31 rfl (by decide) (by omega) u6 x6_2 (⟨t533⟩ : S31) [.slice Ao37 t533.length co37] (fun k_ => k_ ≠ gb538 ∧ k_ ≠ g520) (fun k_ => ((fun k_ => k_ ≠ gb538 ∧ k_ ≠ g520)) k_ ∧ some k_ ≠ (u6 : Value).ownBlock) rfl rfl ?aP (fun _ hk => hk) ?aF ?aO ?aB ?aS ?aL ?_; (case aP => exact (k31_mkF _ _ (⟨t533⟩ : S31) (Kd.V_reads' (Kd.V_mono (ok' := (fun k_ => ((fun k_ => k_ ≠ gb538 ∧ k_ ≠ g520)) k_ ∧ some k_ ≠ (u6 : Value).ownBlock)) (HO535.out) (fun k_ hk => ⟨⟨hk.2, hk.1.2⟩, hk.1.1⟩))).2.1 (Kd.V_F (Kd.V_mono (ok' := (fun k_ => ((fun k_ => k_ ≠ gb538 ∧ k_ ≠ g520)) k_ ∧ some k_ ≠ (u6 : Value).ownBlock)) (HO535.out) (fun k_ hk => ⟨⟨hk.2, hk.1.2⟩, hk.1.1⟩))))); (case aB => exact bl_); (case aF => exact (fun k_ hk => ⟨Kd.freshB (g := gb538) (o := .cells #[.slice Ao37 t533.length co37] 31 (0, 0)) bk_ k_ hk, IsS58.fresh si_ k_ hk⟩)); (case aO => exact (by (with_reducible repeat (first | apply Kd.N_alloc | apply Kd.N_drewN | apply Kd.N_drew)); exact Kd.N_mono HO_6.out (fun _ hk => ⟨hk.2, hk.1⟩))); (case aS => exact (below_size bl_)); (case aL => have := LMc33.out; omega); intro v551 w42 ho hb hg hat; rw [← Ny550.out] at ho; have HO552 := Aside0.mk (ho); replace HI520 := Aside0.mk (IsS58.grown si_ hg (IsS58.own_neN HI520.out HO_6.out (by decide))); replace HO535 := Aside0.mk (Kd.V_afterv (ok := (fun k_ => k_ ≠ g520 ∧ k_ ≠ gb538)) (by (with_reducible repeat (first | apply Kd.V_alloc | apply Kd.V_drewN | apply Kd.V_drew)); exact Kd.V_mono HO535.out (fun _ hk => ⟨⟨hk.1.2, hk.2⟩, hk.1.1⟩)) hg hat); replace BK538 := Aside0.mk (blk_grown (g := gb538) (o := .cells #[.slice Ao37 t533.length co37] 31 (0, 0)) bk_ hg (Kd.N_away HO_6.out (fun _ hk => hk.2))); replace HB := Aside0.mk (hb); clear HO_6; clear ho hb hg hat))
        go_roundg k2
        case measure => have := HJ4.out; have := HK2.out; omega
        case rel => exact ⟨(y550), (wrap64 (x7_2 - 1)), (t540), (t541), rs_, H', ⟨by have := HJ4.out; have := HK2.out; omega⟩, ⟨by (with_reducible repeat (first | apply Kd.N_alloc | apply Kd.N_drewN | apply Kd.N_drew)); exact Kd.N_mono HO552.out (fun _ hk => hk.2)⟩, ⟨si_⟩, ⟨bl_⟩⟩
       ·rw [if_neg c33] at H
        exact absurd H (by simp)
     ·rw [if_neg c13] at H
      have c13b0 : decide (0 < x7_2) = false := decide_eq_false c13
      clear c13
      replace H := Option.bind_eq_some_iff.mp H
      obtain ⟨⟨t553, t554, t555⟩, A430, H⟩ := H
      replace H : (if t553 = 0 then ((exactpplmake_Src_Pick.f t517 t554 t555 (([0, 16, 17] : List Int))).bind fun bt559 => (if 0 ≤ bt559.1 then (if (bt559.1 : Int).toNat ≤ 11728124029610 then (exactppllaw19_DiagramBranches.l1 k2 x1_4 (List.replicate (bt559.1 : Int).toNat z31) 0) else (none)) else (none))) else (exactppllaw19_DiagramBranches.j3 k2 x1_4 x6_2)) = some r := H
      have A43 := Aside0.mk A430
      clear A430
      have HC44 := Aside0.mk H
      clear H
      go_upto_if 43 with (first | ((with_reducible refine gate_callee (f := 23) rfl ?_); refine goesL_ (some 42) rfl rfl Tryd.func23 (by kernel_rfl) rfl #[.pointer (some ⟨g520, 0, none⟩), .int .i64 12] rfl (by (try simp only [List.map_toArray, List.map_cons, List.map_nil]); first | done | rfl | (simp only [List.length_drop, List.length_take]; rfl)) ?_; (with_reducible refine (exactpplmake_Src_N.calls g520 t517 x521001_2 x521002_2 12 t553 t554 t555 w _ ?side1 ?side2 A43.out).mono ?_); (case side1 => repeat (first | (with_reducible first | exact HI520.out | apply IsS58.alloc | apply IsS58.drewN | apply IsS58.drew | apply IsS58.set_1 | apply IsS58.set_2) | exact HI520.out)); (case side2 => repeat (first | (with_reducible first | exact HB.out | apply below_alloc | apply pw_below_drewN | apply below_drew1 | refine below_set ?_ (IsS58.ge HI520.out)) | exact HB.out)); rintro e w45 ⟨rfl, hi, hb, hk⟩; refine ⟨_, rfl, ?_⟩; replace HO_6 := Aside0.mk (Kd.N_mono (Kd.N_keep (Kd.N_mono (ok := fun k_ => k_ ≠ g520) (pN_ HO_6.out) (fun k_ hk_ => (⟨hk_, hk_⟩ : _ ∧ k_ ≠ g520))) hk (fun _ h => h.2)) (fun _ h => h.1)); replace HB := Aside0.mk (hb); replace HI520 := Aside0.mk (hi); (try clear hb); (try clear hb2); (try clear hk); (try clear hi)))
      (try simp only [Act.put, List.setIfInBounds_toArray, List.set_cons_zero, List.set_cons_succ])
      go_cut [6] (fun v6 wc => ∃ (kq : Nat) (x6_43 : List (S31)), Aside0 (exactppllaw19_DiagramBranches.j3 kq x1_4 x6_43 = some r) ∧ Aside0 (kq ≤ k2) ∧ Aside0 (Kd.N k31 31 wc w.heap.size (fun _ => True) v6 x6_43) ∧ Aside0 (Below w.heap.size w wc))
      case first =>
       have H := HC44.out
       clear HC44
       by_cases c46 : t553 = 0
       ·rw [if_pos c46] at H
        have c46b0 : (t553 == 0) = true := beq_iff_eq.mpr c46
        have c46b1 : (t553 != 0) = false := bne_eq_false_iff_eq.mpr c46
        clear c46
        (first | rw [c46b0] | (simp only [i64_w, i32_w]; rw [c46b0]) | skip)
        obtain ⟨y556, hy556⟩ : ∃ y_ : List Int, y_ = (([0, 16, 17] : List Int)) := ⟨_, rfl⟩
        replace H : ((exactpplmake_Src_Pick.f t517 t554 t555 y556).bind fun bt559 => (if 0 ≤ bt559.1 then (if (bt559.1 : Int).toNat ≤ 11728124029610 then (exactppllaw19_DiagramBranches.l1 k2 x1_4 (List.replicate (bt559.1 : Int).toNat z31) 0) else (none)) else (none))) = some r := by first | (rw [hy556]; with_reducible exact H) | (have H2_ := (Option.bind_some _ _).symm.trans H; rw [hy556]; with_reducible exact H2_) | (have H2_ := (Option.bind_some _ _).symm.trans H; with_reducible exact H2_) | with_reducible exact H | (rw [hy556]; exact H) | exact H
        have Ny556 := Aside0.mk hy556
        clear hy556
        replace H := Option.bind_eq_some_iff.mp H
        obtain ⟨⟨t559, t560, t561⟩, A470, H⟩ := H
        replace H : (if 0 ≤ t559 then (if (t559 : Int).toNat ≤ 11728124029610 then (exactppllaw19_DiagramBranches.l1 k2 x1_4 (List.replicate (t559 : Int).toNat z31) 0) else (none)) else (none)) = some r := H
        have A47 := Aside0.mk A470
        clear A470
        by_cases c48 : 0 ≤ t559
        ·rw [if_pos c48] at H
         have c48b0 := eq_true c48
         have c48b1 : decide (0 ≤ t559) = true := decide_eq_true c48
         clear c48
         by_cases c49 : (t559 : Int).toNat ≤ 11728124029610
         ·rw [if_pos c49] at H
          have c49b0 := eq_true c49
          have c49b1 : decide ((t559 : Int).toNat ≤ 11728124029610) = true := decide_eq_true c49
          clear c49
          obtain ⟨y562, hy562⟩ : ∃ y_ : List (S31), y_ = (List.replicate (t559 : Int).toNat z31) := ⟨_, rfl⟩
          replace H : (exactppllaw19_DiagramBranches.l1 k2 x1_4 y562 0) = some r := by first | (rw [hy562]; with_reducible exact H) | (have H2_ := (Option.bind_some _ _).symm.trans H; rw [hy562]; with_reducible exact H2_) | (have H2_ := (Option.bind_some _ _).symm.trans H; with_reducible exact H2_) | with_reducible exact H | (rw [hy562]; exact H) | exact H
          have Ny562 := Aside0.mk hy562
          clear hy562
          have H' := Aside0.mk H
          clear H
          go_wp2_with (first | ((with_reducible refine gate_dst (N := 45) rfl ?_); refine Kd.R_lit (Kd.int .i64) _ 3 ?hg (N := 45) ?hd (xs := ([0, 16, 17] : List Int)) (inner := [.int .i64 0, .int .i64 16, .int .i64 17]) (ok := fun _ => True) (okp := fun _ => True) ?hr ?hp (fun _ hk => hk) trivial (Below.refl _ _) (Nat.le_refl _) (by simp) ?_; (case hd => rfl); (case hg => rfl); (case hr => first | (go_simp; done) | (go_simp; rfl)); (case hp => exact (Reps.one (show Kd.M (Kd.int .i64) _ _ _ 0 [.int .i64 0] from rfl) (Reps.one (show Kd.M (Kd.int .i64) _ _ _ 16 [.int .i64 16] from rfl) (Reps.one (show Kd.M (Kd.int .i64) _ _ _ 17 [.int .i64 17] from rfl) (Reps.none _ _))))); intro v557 w50 ho51 hb hg_ hnew_; clear hg_ hnew_; (first | rw [← Ny556.out] at ho51 | (simp only [Int.reduceToNat] at ho51; rw [← Ny556.out] at ho51)); have HO558 := Aside0.mk (Kd.R_lower ho51 (below_size bl_)); replace HO_6 := Aside0.mk (Kd.N_elder' (pN_ HO_6.out) (Kd.R_base ho51) hb); replace HI520 := Aside0.mk (IsS58.below si_ hb); replace HB := Aside0.mk (below_step bl_ hb); clear hb ho51; obtain ⟨Ao52, co52, eo52⟩ := Kd.R_slice HO558.out; subst eo52) | ((with_reducible refine gate_callee (f := 32) rfl ?_); refine goesL_ (some 46) rfl rfl Tryd.func32 (by kernel_rfl) rfl #[.pointer (some ⟨g520, 0, none⟩), .slice Ao52 y556.length co52] rfl (by (try simp only [List.map_toArray, List.map_cons, List.map_nil]); first | done | rfl | (simp only [List.length_drop, List.length_take]; rfl)) ?_; (with_reducible refine (exactpplmake_Src_Pick.calls g520 t517 t554 t555 _ _ y556 t559 t560 t561 w _ ?side1 ?side2 ?side3 ?side4 ?side5 A47.out).mono ?_); (case side1 => repeat (first | (with_reducible first | exact HI520.out | apply IsS58.alloc | apply IsS58.drewN | apply IsS58.drew | apply IsS58.set_1 | apply IsS58.set_2) | exact HI520.out)); (case side2 => repeat (first | (with_reducible first | exact HB.out | apply below_alloc | apply pw_below_drewN | apply below_drew1 | refine below_set ?_ (IsS58.ge HI520.out)) | exact HB.out)); (case side3 => repeat (first | exact (Kd.R_reads' HO558.out).2.2 | (with_reducible refine Kd.C_alloc ?_ _) | (with_reducible refine Kd.C_drewN ?_ _) | (with_reducible refine Kd.C_drew ?_))); (case side4 => exact (Kd.R_reads' HO558.out).2.1); (case side5 => exact far_slice (IsS58.own_ne HI520.out HO558.out (by decide))); rintro e w53 ⟨rfl, hi, hb, hk⟩; refine ⟨_, rfl, ?_⟩; replace HO_6 := Aside0.mk (Kd.N_mono (Kd.N_keep (Kd.N_mono (ok := fun k_ => (k_ ≠ g520 ∧ some k_ ≠ (.slice Ao52 y556.length co52 : Value).ownBlock)) (pN_ HO_6.out) (fun k_ hk_ => (⟨hk_, hk_.1⟩ : _ ∧ k_ ≠ g520))) hk (fun _ h => h.2)) (fun _ h => h.1)); replace HO558 := Aside0.mk (Kd.R_mono (Kd.R_keep (IsS58.apart (show IsS58 w _ g520 t517 t554 t555 from si_) (pR_ HO558.out) (by decide)) hk (fun _ h => h.2)) (fun _ h => h.1)); replace HB := Aside0.mk (hb); replace HI520 := Aside0.mk (hi); (try clear hb); (try clear hb2); (try clear hk); (try clear hi)) | ((with_reducible refine gate_dst (N := 47) rfl ?_); refine Kd.N_make k31 _ 31 rfl (N' := 47) rfl 48 _ _ rfl t559 rfl rfl Tryd.underlying48 (.agg #[(.slice none 0 0)]) 24 info31 rfl (by decide) (by omega) z31 (ok := fun k_ => w53.heap.size ≤ k_) (okp := fun _ => False) (k31_mkF _ _ z31 (Nat.le_refl _) (Kd.F_nil _ _ _)) (fun _ hk => hk.elim) (Nat.le_refl _) (dt_) (Nat.le_trans (Nat.mul_le_mul_right _ (dt_ : t559.toNat ≤ 11728124029610)) (by omega)) (Below.refl _ _) (Nat.le_refl _) ?_; intro v563 w54 ho55 hb hg_ hnew_; clear hg_ hnew_; (first | rw [← Ny562.out] at ho55 | (simp only [Int.reduceToNat] at ho55; rw [← Ny562.out] at ho55)); have HO564 := Aside0.mk (Kd.N_lower (Kd.N_mono (ok' := fun k_ => some k_ ≠ (u6 : Value).ownBlock ∧ some k_ ≠ (.slice Ao52 y556.length co52 : Value).ownBlock ∧ k_ ≠ g520) ho55 (fun k_ hk_ => ⟨(Kd.fresh' (Kd.N_lt (pN_ HO_6.out)) k_ hk_), (Kd.fresh' (Kd.R_lt (pR_ HO558.out)) k_ hk_), (IsS58.fresh si_ k_ hk_)⟩)) (below_size bl_)); replace HO_6 := Aside0.mk (Kd.N_elder' (pN_ HO_6.out) (by first | exact Kd.N_base ho55 | exact Kd.R_base ho55 | exact Kd.N_base (Kd.S_N ho55)) hb); replace HO558 := Aside0.mk (Kd.R_below (pR_ HO558.out) hb); replace HI520 := Aside0.mk (IsS58.below si_ hb); replace HB := Aside0.mk (below_step bl_ hb); clear hb ho55))
          go_loopg [9] k2 (fun kq v9 w' => ∃ (x6_3 : List (S31)) (x9_3 : Int), v9 = .int .i64 x9_3 ∧ Aside0 (exactppllaw19_DiagramBranches.l1 kq x1_4 x6_3 x9_3 = some r) ∧ Aside0 (kq ≤ k2) ∧ Aside0 (Kd.N k31 31 w' w.heap.size (fun _ => True) v563 x6_3) ∧ Aside0 (Below w.heap.size w w'))
          case atStart => exact ⟨(y562), (0), rs_, H', ⟨Nat.le_refl _⟩, ⟨by (with_reducible repeat (first | apply Kd.N_alloc | apply Kd.N_drewN | apply Kd.N_drew)); exact Kd.N_mono HO564.out (fun _ hk => trivial)⟩, ⟨bl_⟩⟩
          case round =>
           clear H'
           try clear c1
           try clear c2
           try clear p2
           try clear c3
           try clear c4
           try clear p6
           try clear c8
           try clear c8b0
           try clear c9
           try clear c13
           try clear c13b0
           try clear c15
           try clear c16
           try clear c17
           try clear c17b0
           try clear c17b1
           try clear c19
           try clear c22
           try clear c23
           try clear c24
           try clear c25
           try clear c32
           try clear c33
           try clear c38
           try clear c46
           try clear c46b0
           try clear c46b1
           try clear c48
           try clear c48b0
           try clear c48b1
           try clear c49
           try clear c49b0
           try clear c49b1
           try clear hcz25_0 hfz25_0
           try clear hcz29_0 hfz29_0
           try clear hcz31_0 hfz31_0
           try clear hcz39_0 hfz39_0
           try clear hcz41_0 hfz41_0
           try clear p2
           obtain ⟨x6_3, x9_3, rfl, HA, HK3, HO_6, HB⟩ := hrel
           cases gk with
           | zero => exact absurd HA.out (by simp [exactppllaw19_DiagramBranches.l1])
           | succ k3 =>
            have H := HA.out
            clear HA
            simp only [exactppllaw19_DiagramBranches.l1] at H
            by_cases c56 : x9_3 < (x6_3.length : Int)
            ·rw [if_pos c56] at H
             have c56b0 : decide (x9_3 < (x6_3.length : Int)) = true := decide_eq_true c56
             clear c56
             replace H := Option.bind_eq_some_iff.mp H
             obtain ⟨t565, A570, H⟩ := H
             replace H : (if 0 ≤ x9_3 then (exactppllaw19_DiagramBranches.l1 k3 x1_4 (x6_3.set (x9_3 : Int).toNat (⟨t565⟩ : S31)) (wrap64 (x9_3 + 1))) else (none)) = some r := H
             have A57 := Aside0.mk A570
             clear A570
             by_cases c58 : 0 ≤ x9_3
             ·rw [if_pos c58] at H
              have c58b0 : decide (0 ≤ x9_3) = true := decide_eq_true c58
              clear c58
              obtain ⟨y568, hy568⟩ : ∃ y_ : List (S31), y_ = (x6_3.set (x9_3 : Int).toNat (⟨t565⟩ : S31)) := ⟨_, rfl⟩
              replace H : (exactppllaw19_DiagramBranches.l1 k3 x1_4 y568 (wrap64 (x9_3 + 1))) = some r := by first | (rw [hy568]; with_reducible exact H) | (have H2_ := (Option.bind_some _ _).symm.trans H; rw [hy568]; with_reducible exact H2_) | (have H2_ := (Option.bind_some _ _).symm.trans H; with_reducible exact H2_) | with_reducible exact H | (rw [hy568]; exact H) | exact H
              have Ny568 := Aside0.mk hy568
              clear hy568
              have H' := Aside0.mk H
              clear H
              obtain ⟨Ao60, co60, eo60⟩ := Kd.N_slice HO_6.out
              subst eo60
              go_wp2_with (first | ((with_reducible refine gate_callee (f := 33) rfl ?_); refine goesL_ (some 57) rfl rfl Tryd.func33 (by kernel_rfl) rfl #[.int .i64 x9_3] rfl (by (try simp only [List.map_toArray, List.map_cons, List.map_nil]); first | done | rfl | (simp only [List.length_drop, List.length_take]; rfl)) ?_; (with_reducible refine (exactpplref19_Const.calls x9_3 t565 _ A57.out).mono ?_); rintro e w61 ⟨v566, rfl, ho0, hb⟩; refine ⟨_, rfl, ?_⟩; have HO567 := Aside0.mk (Kd.N_lower (Kd.N_mono (ok' := fun k_ => some k_ ≠ (.slice Ao60 x6_3.length co60 : Value).ownBlock) (Kd.S_N (Kd.S_bound ho0)) (fun k_ hk_ => (Kd.fresh' (Kd.N_lt (pN_ HO_6.out)) k_ hk_.2.1))) (below_size bl_)); replace HO_6 := Aside0.mk (Kd.N_elder' (pN_ HO_6.out) (by first | exact Kd.N_base ho0 | exact Kd.R_base ho0 | exact Kd.N_base (Kd.S_N ho0)) hb); replace HB := Aside0.mk (below_step bl_ hb); (try clear hb); (try clear hb2); (try clear hk); (try clear hi); (try clear ho0); obtain ⟨Ao9566, co9566, eo9566⟩ := Kd.N_slice HO567.out; subst eo9566; have p59 : 0 ≤ (x9_3 : Int) := dt_; have q59 : (x9_3 : Int) < ((x6_3.length : Int) : Int) := dt_; obtain ⟨go59, co59, eo59, gb59, gl59, cl59, HG59⟩ := Kd.N_form HO_6.out (by omega); (first | cases eo59 | (injection eo59 with ea_ en_ ec_; (first | subst ea_ | (injection ea_ with ea_; subst ea_)); subst ec_; clear en_)); have GB59 := Aside0.mk gb59; have GG59 := Aside0.mk HG59; clear gb59 gl59 HG59; obtain ⟨ce59, hcl59, hM59, hcc59, hfr59⟩ := Kd.N_elem HO_6.out z31 (x9_3 : Int) p59 q59; obtain ⟨ua59_0, uc59_0, rfl, ul59_0, ge59_0⟩ := k31_openF hM59; have hx59_0 := hcc59 0 _ rfl; have hf59_0 := hfr59 0; (try simp only [show (k31).sz = 1 from rfl, Nat.mul_one, Nat.add_zero] at hx59_0); (try simp only [show (k31).sz = 1 from rfl, Nat.mul_one, Nat.add_zero] at hf59_0); clear hcl59 hcc59 hfr59 hM59; replace p59 := eq_true p59; replace q59 := eq_true q59; have n_ := Aside0.mk (Kd.N_mono (ok' := (fun k_ => some k_ ≠ (.slice Ao9566 t565.length co9566 : Value).ownBlock)) HO_6.out (fun k_ hk => hk.2)); clear HO_6; have HO_6 := n_; clear n_; have HX62 := Aside0.mk (show Kd.N k31 31 w61 w.heap.size (fun _ => True) (.slice (some ⟨go59, 0, none⟩) x6_3.length co60) x6_3 from (by (with_reducible repeat (first | apply Kd.N_alloc | apply Kd.N_drewN | apply Kd.N_drew)); exact Kd.N_mono HO_6.out (fun _ hk => trivial))); obtain ⟨ce62, hcl62, hM62, hcc62, hfr62⟩ := Kd.N_elem HX62.out z31 (x9_3 : Int) (dt_) (by have h_ : (x9_3 : Int) < ((x6_3.length : Int) : Int) := dt_; first | exact h_ | (have e_ := (Kd.N_reads' HO_6.out).1; omega) | simpa using h_); obtain ⟨ua62_0, uc62_0, rfl, ul62_0, ge62_0⟩ := k31_openF hM62; have HP62 := Kd.N_seg HX62.out (x9_3 : Int) (dt_) (by have h_ : (x9_3 : Int) < ((x6_3.length : Int) : Int) := dt_; first | exact h_ | (have e_ := (Kd.N_reads' HO_6.out).1; omega) | simpa using h_) (seg := [(.slice Ao9566 t565.length co9566)]) (j := 0) hcl62 hcc62 (show 1 ≤ 1 from by decide) (x' := (⟨t565⟩ : S31)) (k31_mkF _ _ (⟨t565⟩ : S31) (Kd.N_reads' (Kd.N_mono (ok' := (fun k_ => ((fun _ => True)) k_ ∧ k_ ≠ go59)) (HO567.out) (fun k_ hk => ⟨trivial, fun e_ => (hk) (by rw [e_]; rfl)⟩))).2.1 (Kd.N_F (Kd.N_mono (ok' := (fun k_ => ((fun _ => True)) k_ ∧ k_ ≠ go59)) (HO567.out) (fun k_ hk => ⟨trivial, fun e_ => (hk) (by rw [e_]; rfl)⟩)))) (fun _ hk => hk); have hx62_0 := hcc62 0 _ rfl; (try simp only [show (k31).sz = 1 from rfl, Nat.mul_one, Nat.add_zero] at hx62_0); have hf62_0 := hfr62 0; (try simp only [show (k31).sz = 1 from rfl, Nat.mul_one, Nat.add_zero] at hf62_0); clear hcl62 hcc62 hfr62 hM62; (try simp only [show (k31).sz = 1 from rfl, Nat.mul_one, Nat.add_zero] at HP62); (try simp only [show (k31).sz = 1 from rfl, Nat.mul_one, Nat.add_zero] at HP62)) | ((with_reducible refine gate_store (t := 31) (p := 58) rfl ?_); refine store_event (t := 31) (p := 58) (v := ?vo_w63) (w1 := (w61.setCell ⟨go59, (x9_3 : Int).toNat, none⟩ ((.slice Ao9566 t565.length co9566)))) ?hg ?ho ?hn ?hr ?_; (case ho => rfl); (case hg => rfl); (case hn => rfl); (case hr => first | (go_simp; done) | (go_simp; rfl)); intro w63 hw; have hg : w61.grownBy w63 (some go59) := (by rw [hw]; exact HP62.2); have hp_ : Kd.N k31 31 w63 w.heap.size (fun _ => True) (.slice (some ⟨go59, 0, none⟩) x6_3.length co60) y568 := (by rw [hw, Ny568.out]; exact HP62.1); clear HP62; replace HO_6 := Aside0.mk (hp_); replace HB := Aside0.mk ((by rw [hw]; exact below_set (HB.out) GB59.out : Below w.heap.size w w63)); clear HO567; clear hg hw hp_))
              go_roundg k3
              case measure => have := HJ4.out; have := HK2.out; have := HK3.out; omega
              case rel => exact ⟨(y568), (wrap64 (x9_3 + 1)), rs_, H', ⟨by have := HJ4.out; have := HK2.out; have := HK3.out; omega⟩, ⟨pN_ HO_6.out⟩, ⟨bl_⟩⟩
             ·rw [if_neg c58] at H
              exact absurd H (by simp)
            ·rw [if_neg c56] at H
             have c56b0 : decide (x9_3 < (x6_3.length : Int)) = false := decide_eq_false c56
             clear c56
             have H' := Aside0.mk H
             clear H
             obtain ⟨Ao64, co64, eo64⟩ := Kd.N_slice HO_6.out
             subst eo64
             go_wp2
             go_meet
             case rel => exact ⟨_, (x6_3), H', ⟨by have := HJ4.out; have := HK2.out; have := HK3.out; first | omega | exact Nat.le_refl _⟩, ⟨pN_ HO_6.out⟩, ⟨bl_⟩⟩
         ·rw [if_neg c49] at H
          exact absurd H (by simp)
        ·rw [if_neg c48] at H
         exact absurd H (by simp)
       ·rw [if_neg c46] at H
        have c46b0 : (t553 == 0) = false := beq_eq_false_iff_ne.mpr c46
        have c46b1 : (t553 != 0) = true := bne_iff_ne.mpr c46
        (first | rw [c46b0] | (simp only [i64_w, i32_w]; rw [c46b0]) | skip)
        have H' := Aside0.mk H
        clear H
        go_wp2
        go_meet
        case rel => exact ⟨_, (x6_2), H', ⟨by have := HJ4.out; have := HK2.out; first | omega | exact Nat.le_refl _⟩, ⟨by (with_reducible repeat (first | apply Kd.N_alloc | apply Kd.N_drewN | apply Kd.N_drew)); exact Kd.N_mono HO_6.out (fun _ hk => trivial)⟩, ⟨bl_⟩⟩
      case rest =>
       clear HC44
       try clear c1
       try clear c2
       try clear p2
       try clear c3
       try clear c4
       try clear c5
       try clear p5
       try clear q5
       try clear hx5
       try clear hf5
       try clear c6
       try clear p6
       try clear hx6
       try clear hf6
       try clear c8
       try clear c8b0
       try clear c9
       try clear c13
       try clear c13b0
       try clear c15
       try clear c16
       try clear c17
       try clear c17b0
       try clear c17b1
       try clear c19
       try clear c22
       try clear c23
       try clear c24
       try clear c25
       try clear c32
       try clear c33
       try clear c38
       try clear c46
       try clear c46b0
       try clear c46b1
       try clear c48
       try clear c48b0
       try clear c48b1
       try clear c49
       try clear c49b0
       try clear c49b1
       try clear c56
       try clear c56b0
       try clear c58
       try clear c58b0
       try clear c59
       try clear p59
       try clear q59
       try clear hx59
       try clear hf59
       try clear c62
       try clear hx62
       try clear hf62
       try clear p64
       try clear hcz25_0 hfz25_0
       try clear hcz29_0 hfz29_0
       try clear hcz31_0 hfz31_0
       try clear hcz39_0 hfz39_0
       try clear hcz41_0 hfz41_0
       try clear hx59_0
       try clear hx62_0
       try clear p2
       try clear p59
       try clear p6
       try clear q59
       obtain ⟨kq, x6_43, HA, HJ43, HO_6, HB⟩ := hcut
       cases kq with
       | zero => exact absurd HA.out (by simp [exactppllaw19_DiagramBranches.j3])
       | succ kj43 =>
        have H := HA.out
        clear HA
        simp only [exactppllaw19_DiagramBranches.j3] at H
        replace H := Option.bind_eq_some_iff.mp H
        obtain ⟨⟨t569, t572⟩, A650, H⟩ := H
        replace H : ((exactpplref19_Branch.f kj43 x1_4 x6_43).bind fun bt574 => (if t572 = bt574.2 then ((exactpplref19_Same.f kj43 t569 bt574.1).bind fun t579 => (if t579 = true then ((exactppllaw19_awake.f).bind fun t580 => (some t580)) else (some false))) else (some false))) = some r := H
        have A65 := Aside0.mk A650
        clear A650
        replace H := Option.bind_eq_some_iff.mp H
        obtain ⟨⟨t574, t577⟩, A660, H⟩ := H
        replace H : (if t572 = t577 then ((exactpplref19_Same.f kj43 t569 t574).bind fun t579 => (if t579 = true then ((exactppllaw19_awake.f).bind fun t580 => (some t580)) else (some false))) else (some false)) = some r := H
        have A66 := Aside0.mk A660
        clear A660
        by_cases c67 : t572 = t577
        ·rw [if_pos c67] at H
         have c67b0 : (t572 == t577) = true := beq_iff_eq.mpr c67
         have c67b1 : (t572 != t577) = false := bne_eq_false_iff_eq.mpr c67
         clear c67
         replace H := Option.bind_eq_some_iff.mp H
         obtain ⟨t579, A680, H⟩ := H
         replace H : (if t579 = true then ((exactppllaw19_awake.f).bind fun t580 => (some t580)) else (some false)) = some r := H
         have A68 := Aside0.mk A680
         clear A680
         by_cases c69 : t579 = true
         ·subst c69
          have H1 : ((exactppllaw19_awake.f).bind fun t580 => (some t580)) = some r := by rw [if_pos rfl] at H; exact H
          clear H
          have H := H1
          clear H1
          replace H := Option.bind_eq_some_iff.mp H
          obtain ⟨t580, A700, H⟩ := H
          replace H : (some t580) = some r := H
          have A70 := Aside0.mk A700
          clear A700
          obtain rfl := Option.some.inj H
          obtain ⟨Ao71, co71, eo71⟩ := Kd.N_slice HO_6.out
          subst eo71
          go_wp2_with (first | ((with_reducible refine gate_callee (f := 34) rfl ?_); refine goesL_ (some 62) rfl rfl Tryd.func34 (by kernel_rfl) rfl #[.int .i64 x1_4, .slice Ao71 x6_43.length co71] rfl (by (try simp only [List.map_toArray, List.map_cons, List.map_nil]); first | done | rfl | (simp only [List.length_drop, List.length_take]; rfl)) ?_; (with_reducible refine (diagram_Branch.calls x1_4 _ _ x6_43 t569 t572 _ ?side1 ?side2 A65.out ?tab).mono ?_); (case tab => exact ptab HTAB.out bl_); (case side1 => repeat (first | exact (Kd.N_reads' HO_6.out).2.2 | (with_reducible refine Kd.C_alloc ?_ _) | (with_reducible refine Kd.C_drewN ?_ _) | (with_reducible refine Kd.C_drew ?_))); (case side2 => exact (Kd.N_reads' HO_6.out).2.1); rintro e w72 ⟨v570, rfl, ho0, hb⟩; refine ⟨_, rfl, ?_⟩; have HO571 := Aside0.mk (Kd.V_lower (Kd.V_mono (ok' := fun k_ => some k_ ≠ (.slice Ao71 x6_43.length co71 : Value).ownBlock) ho0 (fun k_ hk_ => (Kd.fresh' (Kd.N_lt (pN_ HO_6.out)) k_ hk_))) (below_size bl_)); replace HO_6 := Aside0.mk (Kd.N_below (pN_ HO_6.out) hb); replace HB := Aside0.mk (below_step bl_ hb); (try clear hb); (try clear hb2); (try clear hk); (try clear hi); (try clear ho0)) | ((with_reducible refine gate_dst (N := 10) rfl ?_); refine box_event ?hg (N := 10) ?hd (cs := #[.slice none 0 0]) (t := 31) ?hr ?_; (case hd => rfl); (case hg => rfl); (case hr => first | (go_simp; done) | (go_simp; rfl)); intro gb573 hg w73 hbox hb; have BK573 := Aside0.mk (hbox); have GW573 : Aside0 (w.heap.size ≤ gb573) := gw_ hg (below_size bl_); have GE573 := GW573; replace HO_6 := Aside0.mk (Kd.N_below (Kd.N_elderB (pN_ HO_6.out) gb573 (Nat.le_of_eq hg.symm)) hb); replace HO571 := Aside0.mk (Kd.V_below (Kd.V_elderB (pV_ HO571.out) gb573 (Nat.le_of_eq hg.symm)) hb); replace HB := Aside0.mk (below_step bl_ hb); clear hb hbox hg; obtain ⟨Ao74, co74, eo74⟩ := Kd.V_slice HO571.out; subst eo74; obtain ⟨hcz75_0, hfz75_0⟩ := cf1_ BK573.out) | ((with_reducible refine gate_callee (f := 35) rfl ?_); refine goesL_ (some 68) rfl rfl Tryd.func35 (by kernel_rfl) rfl #[.int .i64 x1_4, .slice Ao71 x6_43.length co71] rfl (by (try simp only [List.map_toArray, List.map_cons, List.map_nil]); first | done | rfl | (simp only [List.length_drop, List.length_take]; rfl)) ?_; (with_reducible refine (exactpplref19_Branch.calls kj43 x1_4 _ _ x6_43 t574 t577 _ ?side1 ?side2 A66.out).mono ?_); (case side1 => refine (Kd.N_reads' (e := 31) (base := w.heap.size) (ok := fun k_ => (True ∧ k_ ≠ gb573)) (n := x6_43.length) (c := co71) ?_).2.2; exact (by (with_reducible repeat (first | apply Kd.N_alloc | apply Kd.N_drewN | apply Kd.N_drew)); exact (Kd.N_mono (Kd.N_far (p := ⟨gb573, 0, none⟩) (Kd.N_mono HO_6.out (fun k_ hk => (⟨hk, by first | exact hk.2 | exact hk.1 | exact hk.2 | exact hk.1.1 | exact hk.1.2⟩ : _ ∧ k_ ≠ gb573))) (fun _ hk => hk.2) (.slice Ao74 t569.length co74)) (fun _ h_ => h_.1)))); (case side2 => exact (Kd.N_reads' HO_6.out).2.1); rintro e w76 ⟨v575, rfl, ho0, hb⟩; refine ⟨_, rfl, ?_⟩; have HO576 := Aside0.mk (Kd.V_lower (Kd.V_mono (ok' := fun k_ => some k_ ≠ (.slice Ao71 x6_43.length co71 : Value).ownBlock ∧ k_ ≠ gb573) ho0 (fun k_ hk_ => ⟨(Kd.fresh' (Kd.N_lt (by (with_reducible repeat (first | apply Kd.N_alloc | apply Kd.N_drewN | apply Kd.N_drew)); exact (Kd.N_mono (Kd.N_far (p := ⟨gb573, 0, none⟩) (Kd.N_mono HO_6.out (fun k_ hk => (⟨hk, by first | exact hk.2 | exact hk.1 | exact hk.2 | exact hk.1.1 | exact hk.1.2⟩ : _ ∧ k_ ≠ gb573))) (fun _ hk => hk.2) (.slice Ao74 t569.length co74)) (fun _ h_ => h_.1)))) k_ hk_), (Kd.freshB (g := gb573) (o := .cells #[.slice Ao74 t569.length co74] 31 (0, 0)) (by (with_reducible repeat (first | refine blk_drewN ?_ _ | refine blk_drew ?_ | refine blk_alloc ?_ _)); refine blk_put (cs := #[.slice none 0 0]) ?_ 0 _ rfl; (with_reducible repeat (first | refine blk_drewN ?_ _ | refine blk_drew ?_ | refine blk_alloc ?_ _)); exact BK573.out) k_ hk_)⟩)) (below_size bl_)); replace HO_6 := Aside0.mk (Kd.N_below (by (with_reducible repeat (first | apply Kd.N_alloc | apply Kd.N_drewN | apply Kd.N_drew)); exact (Kd.N_mono (Kd.N_far (p := ⟨gb573, 0, none⟩) (Kd.N_mono HO_6.out (fun k_ hk => (⟨hk, by first | exact hk.2 | exact hk.1 | exact hk.2 | exact hk.1.1 | exact hk.1.2⟩ : _ ∧ k_ ≠ gb573))) (fun _ hk => hk.2) (.slice Ao74 t569.length co74)) (fun _ h_ => h_.1))) hb); replace HO571 := Aside0.mk (Kd.V_below (by (with_reducible repeat (first | apply Kd.V_alloc | apply Kd.V_drewN | apply Kd.V_drew)); exact (Kd.V_mono (Kd.V_far (p := ⟨gb573, 0, none⟩) (Kd.V_mono HO571.out (fun k_ hk => (⟨hk, by first | exact hk.2 | exact hk.1 | exact hk.2 | exact hk.1.1 | exact hk.1.2⟩ : _ ∧ k_ ≠ gb573))) (fun _ hk => hk.2) (.slice Ao74 t569.length co74)) (fun _ h_ => h_.1))) hb); replace BK573 := Aside0.mk (blk_below (g := gb573) (o := .cells #[.slice Ao74 t569.length co74] 31 (0, 0)) (by (with_reducible repeat (first | refine blk_drewN ?_ _ | refine blk_drew ?_ | refine blk_alloc ?_ _)); refine blk_put (cs := #[.slice none 0 0]) ?_ 0 _ rfl; (with_reducible repeat (first | refine blk_drewN ?_ _ | refine blk_drew ?_ | refine blk_alloc ?_ _)); exact BK573.out) hb); replace HB := Aside0.mk (below_step bl_ hb); (try clear hb); (try clear hb2); (try clear hk); (try clear hi); (try clear ho0)) | ((with_reducible refine gate_dst (N := 12) rfl ?_); refine box_event ?hg (N := 12) ?hd (cs := #[.slice none 0 0]) (t := 31) ?hr ?_; (case hd => rfl); (case hg => rfl); (case hr => first | (go_simp; done) | (go_simp; rfl)); intro gb578 hg w77 hbox hb; have BK578 := Aside0.mk (hbox); have GW578 : Aside0 (w.heap.size ≤ gb578) := gw_ hg (below_size bl_); have GE578 := GW578; have NB573_578 := Aside0.mk ((by rw [hg]; exact Nat.ne_of_lt (blk_lt (g := gb573) (o := .cells #[.slice Ao74 t569.length co74] 31 (0, 0)) bk_) : gb573 ≠ gb578)); have NB578_573 := Aside0.mk ((by rw [hg]; exact Nat.ne_of_gt (blk_lt (g := gb573) (o := .cells #[.slice Ao74 t569.length co74] 31 (0, 0)) bk_) : gb578 ≠ gb573)); replace HO_6 := Aside0.mk (Kd.N_below (Kd.N_elderB (pN_ HO_6.out) gb578 (Nat.le_of_eq hg.symm)) hb); replace HO571 := Aside0.mk (Kd.V_below (Kd.V_elderB (pV_ HO571.out) gb578 (Nat.le_of_eq hg.symm)) hb); replace HO576 := Aside0.mk (Kd.V_below (Kd.V_elderB (pV_ HO576.out) gb578 (Nat.le_of_eq hg.symm)) hb); replace BK573 := Aside0.mk (blk_below (g := gb573) (o := .cells #[.slice Ao74 t569.length co74] 31 (0, 0)) bk_ hb); replace HB := Aside0.mk (below_step bl_ hb); clear hb hbox hg; obtain ⟨Ao78, co78, eo78⟩ := Kd.V_slice HO576.out; subst eo78; have hnb79 := NB578_573.out; have hnc79 := NB573_578.out; obtain ⟨hcz80_0, hfz80_0⟩ := cf1_ BK578.out; obtain ⟨hcz81_0, hfz81_0⟩ := cf1_ BK573.out) | (go_at_call 20; (with_reducible refine (exactpplref19_Same.calls kj43 _ _ t569 _ _ t574 true _ ?side1 ?side2 ?side3 ?side4 A68.out).mono ?_); (case side1 => refine (Kd.V_reads' (e := 60) (base := w.heap.size) (ok := fun k_ => ((some k_ ≠ (.slice Ao71 x6_43.length co71 : Value).ownBlock ∧ k_ ≠ gb573) ∧ k_ ≠ gb578)) (n := t569.length) (c := co74) ?_).2.2; exact (by (with_reducible repeat (first | apply Kd.V_alloc | apply Kd.V_drewN | apply Kd.V_drew)); exact (Kd.V_mono (Kd.V_far (p := ⟨gb578, 0, none⟩) (Kd.V_mono HO571.out (fun k_ hk => (⟨hk, by first | exact hk.2 | exact hk.1 | exact hk.2 | exact hk.1.1 | exact hk.1.2⟩ : _ ∧ k_ ≠ gb578))) (fun _ hk => hk.2) (.slice Ao78 t574.length co78)) (fun _ h_ => h_.1)))); (case side2 => exact (Kd.V_reads' HO571.out).2.1); (case side3 => refine (Kd.V_reads' (e := 60) (base := w.heap.size) (ok := fun k_ => ((some k_ ≠ (.slice Ao71 x6_43.length co71 : Value).ownBlock ∧ k_ ≠ gb573) ∧ k_ ≠ gb578)) (n := t574.length) (c := co78) ?_).2.2; exact (by (with_reducible repeat (first | apply Kd.V_alloc | apply Kd.V_drewN | apply Kd.V_drew)); exact (Kd.V_mono (Kd.V_far (p := ⟨gb578, 0, none⟩) (Kd.V_mono HO576.out (fun k_ hk => (⟨hk, by first | exact hk.2 | exact hk.1 | exact hk.2 | exact hk.1.1 | exact hk.1.2⟩ : _ ∧ k_ ≠ gb578))) (fun _ hk => hk.2) (.slice Ao78 t574.length co78)) (fun _ h_ => h_.1)))); (case side4 => exact (Kd.V_reads' HO576.out).2.1); rintro e w82 ⟨rfl, hb⟩; replace HO_6 := Aside0.mk (Kd.N_below (by (with_reducible repeat (first | apply Kd.N_alloc | apply Kd.N_drewN | apply Kd.N_drew)); exact (Kd.N_mono (Kd.N_far (p := ⟨gb578, 0, none⟩) (Kd.N_mono HO_6.out (fun k_ hk => (⟨hk, by first | exact hk.2 | exact hk.1 | exact hk.2 | exact hk.1.1 | exact hk.1.2⟩ : _ ∧ k_ ≠ gb578))) (fun _ hk => hk.2) (.slice Ao78 t574.length co78)) (fun _ h_ => h_.1))) hb); replace HO571 := Aside0.mk (Kd.V_below (by (with_reducible repeat (first | apply Kd.V_alloc | apply Kd.V_drewN | apply Kd.V_drew)); exact (Kd.V_mono (Kd.V_far (p := ⟨gb578, 0, none⟩) (Kd.V_mono HO571.out (fun k_ hk => (⟨hk, by first | exact hk.2 | exact hk.1 | exact hk.2 | exact hk.1.1 | exact hk.1.2⟩ : _ ∧ k_ ≠ gb578))) (fun _ hk => hk.2) (.slice Ao78 t574.length co78)) (fun _ h_ => h_.1))) hb); replace HO576 := Aside0.mk (Kd.V_below (by (with_reducible repeat (first | apply Kd.V_alloc | apply Kd.V_drewN | apply Kd.V_drew)); exact (Kd.V_mono (Kd.V_far (p := ⟨gb578, 0, none⟩) (Kd.V_mono HO576.out (fun k_ hk => (⟨hk, by first | exact hk.2 | exact hk.1 | exact hk.2 | exact hk.1.1 | exact hk.1.2⟩ : _ ∧ k_ ≠ gb578))) (fun _ hk => hk.2) (.slice Ao78 t574.length co78)) (fun _ h_ => h_.1))) hb); replace BK573 := Aside0.mk (blk_below (g := gb573) (o := .cells #[.slice Ao74 t569.length co74] 31 (0, 0)) (by (with_reducible repeat (first | refine blk_drewN ?_ _ | refine blk_drew ?_ | refine blk_alloc ?_ _)); refine blk_far ?_ NB573_578.out _; (with_reducible repeat (first | refine blk_drewN ?_ _ | refine blk_drew ?_ | refine blk_alloc ?_ _)); exact BK573.out) hb); replace BK578 := Aside0.mk (blk_below (g := gb578) (o := .cells #[.slice Ao78 t574.length co78] 31 (0, 0)) (by (with_reducible repeat (first | refine blk_drewN ?_ _ | refine blk_drew ?_ | refine blk_alloc ?_ _)); refine blk_put (cs := #[.slice none 0 0]) ?_ 0 _ rfl; (with_reducible repeat (first | refine blk_drewN ?_ _ | refine blk_drew ?_ | refine blk_alloc ?_ _)); exact BK578.out) hb); replace HB := Aside0.mk (below_step bl_ hb); (try clear hb); (try clear hb2); (try clear hk); (try clear hi)) | (go_at_call 17; (with_reducible refine (exactppllaw19_awake.calls  t580 _ A70.out ?tab).mono ?_); (case tab => exact ptab HTAB.out bl_); rintro e w83 ⟨rfl, hb⟩; replace HO_6 := Aside0.mk (Kd.N_below (pN_ HO_6.out) hb); replace HO571 := Aside0.mk (Kd.V_below (pV_ HO571.out) hb); replace HO576 := Aside0.mk (Kd.V_below (pV_ HO576.out) hb); replace BK573 := Aside0.mk (blk_below (g := gb573) (o := .cells #[.slice Ao74 t569.length co74] 31 (0, 0)) bk_ hb); replace BK578 := Aside0.mk (blk_below (g := gb578) (o := .cells #[.slice Ao78 t574.length co78] 31 (0, 0)) bk_ hb); replace HB := Aside0.mk (below_step bl_ hb); (try clear hb); (try clear hb2); (try clear hk); (try clear hi)))
          go_ret
          exact ⟨re_, bl_⟩
         ·replace c69 := Bool.eq_false_iff.mpr c69
          subst c69
          have H1 : (some false) = some r := by rw [if_neg (show ¬ (false = true) by decide)] at H; exact H
          clear H
          have H := H1
          clear H1
          obtain rfl := Option.some.inj H
          obtain ⟨Ao84, co84, eo84⟩ := Kd.N_slice HO_6.out
          subst eo84
          go_wp2_with (first | ((with_reducible refine gate_callee (f := 34) rfl ?_); refine goesL_ (some 62) rfl rfl Tryd.func34 (by kernel_rfl) rfl #[.int .i64 x1_4, .slice Ao84 x6_43.length co84] rfl (by (try simp only [List.map_toArray, List.map_cons, List.map_nil]); first | done | rfl | (simp only [List.length_drop, List.length_take]; rfl)) ?_; (with_reducible refine (diagram_Branch.calls x1_4 _ _ x6_43 t569 t572 _ ?side1 ?side2 A65.out ?tab).mono ?_); (case tab => exact ptab HTAB.out bl_); (case side1 => repeat (first | exact (Kd.N_reads' HO_6.out).2.2 | (with_reducible refine Kd.C_alloc ?_ _) | (with_reducible refine Kd.C_drewN ?_ _) | (with_reducible refine Kd.C_drew ?_))); (case side2 => exact (Kd.N_reads' HO_6.out).2.1); rintro e w85 ⟨v570, rfl, ho0, hb⟩; refine ⟨_, rfl, ?_⟩; have HO571 := Aside0.mk (Kd.V_lower (Kd.V_mono (ok' := fun k_ => some k_ ≠ (.slice Ao84 x6_43.length co84 : Value).ownBlock) ho0 (fun k_ hk_ => (Kd.fresh' (Kd.N_lt (pN_ HO_6.out)) k_ hk_))) (below_size bl_)); replace HO_6 := Aside0.mk (Kd.N_below (pN_ HO_6.out) hb); replace HB := Aside0.mk (below_step bl_ hb); (try clear hb); (try clear hb2); (try clear hk); (try clear hi); (try clear ho0)) | ((with_reducible refine gate_dst (N := 10) rfl ?_); refine box_event ?hg (N := 10) ?hd (cs := #[.slice none 0 0]) (t := 31) ?hr ?_; (case hd => rfl); (case hg => rfl); (case hr => first | (go_simp; done) | (go_simp; rfl)); intro gb573 hg w86 hbox hb; have BK573 := Aside0.mk (hbox); have GW573 : Aside0 (w.heap.size ≤ gb573) := gw_ hg (below_size bl_); have GE573 := GW573; replace HO_6 := Aside0.mk (Kd.N_below (Kd.N_elderB (pN_ HO_6.out) gb573 (Nat.le_of_eq hg.symm)) hb); replace HO571 := Aside0.mk (Kd.V_below (Kd.V_elderB (pV_ HO571.out) gb573 (Nat.le_of_eq hg.symm)) hb); replace HB := Aside0.mk (below_step bl_ hb); clear hb hbox hg; obtain ⟨Ao87, co87, eo87⟩ := Kd.V_slice HO571.out; subst eo87; obtain ⟨hcz88_0, hfz88_0⟩ := cf1_ BK573.out) | ((with_reducible refine gate_callee (f := 35) rfl ?_); refine goesL_ (some 68) rfl rfl Tryd.func35 (by kernel_rfl) rfl #[.int .i64 x1_4, .slice Ao84 x6_43.length co84] rfl (by (try simp only [List.map_toArray, List.map_cons, List.map_nil]); first | done | rfl | (simp only [List.length_drop, List.length_take]; rfl)) ?_; (with_reducible refine (exactpplref19_Branch.calls kj43 x1_4 _ _ x6_43 t574 t577 _ ?side1 ?side2 A66.out).mono ?_); (case side1 => refine (Kd.N_reads' (e := 31) (base := w.heap.size) (ok := fun k_ => (True ∧ k_ ≠ gb573)) (n := x6_43.length) (c := co84) ?_).2.2; exact (by (with_reducible repeat (first | apply Kd.N_alloc | apply Kd.N_drewN | apply Kd.N_drew)); exact (Kd.N_mono (Kd.N_far (p := ⟨gb573, 0, none⟩) (Kd.N_mono HO_6.out (fun k_ hk => (⟨hk, by first | exact hk.2 | exact hk.1 | exact hk.2 | exact hk.1.1 | exact hk.1.2⟩ : _ ∧ k_ ≠ gb573))) (fun _ hk => hk.2) (.slice Ao87 t569.length co87)) (fun _ h_ => h_.1)))); (case side2 => exact (Kd.N_reads' HO_6.out).2.1); rintro e w89 ⟨v575, rfl, ho0, hb⟩; refine ⟨_, rfl, ?_⟩; have HO576 := Aside0.mk (Kd.V_lower (Kd.V_mono (ok' := fun k_ => some k_ ≠ (.slice Ao84 x6_43.length co84 : Value).ownBlock ∧ k_ ≠ gb573) ho0 (fun k_ hk_ => ⟨(Kd.fresh' (Kd.N_lt (by (with_reducible repeat (first | apply Kd.N_alloc | apply Kd.N_drewN | apply Kd.N_drew)); exact (Kd.N_mono (Kd.N_far (p := ⟨gb573, 0, none⟩) (Kd.N_mono HO_6.out (fun k_ hk => (⟨hk, by first | exact hk.2 | exact hk.1 | exact hk.2 | exact hk.1.1 | exact hk.1.2⟩ : _ ∧ k_ ≠ gb573))) (fun _ hk => hk.2) (.slice Ao87 t569.length co87)) (fun _ h_ => h_.1)))) k_ hk_), (Kd.freshB (g := gb573) (o := .cells #[.slice Ao87 t569.length co87] 31 (0, 0)) (by (with_reducible repeat (first | refine blk_drewN ?_ _ | refine blk_drew ?_ | refine blk_alloc ?_ _)); refine blk_put (cs := #[.slice none 0 0]) ?_ 0 _ rfl; (with_reducible repeat (first | refine blk_drewN ?_ _ | refine blk_drew ?_ | refine blk_alloc ?_ _)); exact BK573.out) k_ hk_)⟩)) (below_size bl_)); replace HO_6 := Aside0.mk (Kd.N_below (by (with_reducible repeat (first | apply Kd.N_alloc | apply Kd.N_drewN | apply Kd.N_drew)); exact (Kd.N_mono (Kd.N_far (p := ⟨gb573, 0, none⟩) (Kd.N_mono HO_6.out (fun k_ hk => (⟨hk, by first | exact hk.2 | exact hk.1 | exact hk.2 | exact hk.1.1 | exact hk.1.2⟩ : _ ∧ k_ ≠ gb573))) (fun _ hk => hk.2) (.slice Ao87 t569.length co87)) (fun _ h_ => h_.1))) hb); replace HO571 := Aside0.mk (Kd.V_below (by (with_reducible repeat (first | apply Kd.V_alloc | apply Kd.V_drewN | apply Kd.V_drew)); exact (Kd.V_mono (Kd.V_far (p := ⟨gb573, 0, none⟩) (Kd.V_mono HO571.out (fun k_ hk => (⟨hk, by first | exact hk.2 | exact hk.1 | exact hk.2 | exact hk.1.1 | exact hk.1.2⟩ : _ ∧ k_ ≠ gb573))) (fun _ hk => hk.2) (.slice Ao87 t569.length co87)) (fun _ h_ => h_.1))) hb); replace BK573 := Aside0.mk (blk_below (g := gb573) (o := .cells #[.slice Ao87 t569.length co87] 31 (0, 0)) (by (with_reducible repeat (first | refine blk_drewN ?_ _ | refine blk_drew ?_ | refine blk_alloc ?_ _)); refine blk_put (cs := #[.slice none 0 0]) ?_ 0 _ rfl; (with_reducible repeat (first | refine blk_drewN ?_ _ | refine blk_drew ?_ | refine blk_alloc ?_ _)); exact BK573.out) hb); replace HB := Aside0.mk (below_step bl_ hb); (try clear hb); (try clear hb2); (try clear hk); (try clear hi); (try clear ho0)) | ((with_reducible refine gate_dst (N := 12) rfl ?_); refine box_event ?hg (N := 12) ?hd (cs := #[.slice none 0 0]) (t := 31) ?hr ?_; (case hd => rfl); (case hg => rfl); (case hr => first | (go_simp; done) | (go_simp; rfl)); intro gb578 hg w90 hbox hb; have BK578 := Aside0.mk (hbox); have GW578 : Aside0 (w.heap.size ≤ gb578) := gw_ hg (below_size bl_); have GE578 := GW578; have NB573_578 := Aside0.mk ((by rw [hg]; exact Nat.ne_of_lt (blk_lt (g := gb573) (o := .cells #[.slice Ao87 t569.length co87] 31 (0, 0)) bk_) : gb573 ≠ gb578)); have NB578_573 := Aside0.mk ((by rw [hg]; exact Nat.ne_of_gt (blk_lt (g := gb573) (o := .cells #[.slice Ao87 t569.length co87] 31 (0, 0)) bk_) : gb578 ≠ gb573)); replace HO_6 := Aside0.mk (Kd.N_below (Kd.N_elderB (pN_ HO_6.out) gb578 (Nat.le_of_eq hg.symm)) hb); replace HO571 := Aside0.mk (Kd.V_below (Kd.V_elderB (pV_ HO571.out) gb578 (Nat.le_of_eq hg.symm)) hb); replace HO576 := Aside0.mk (Kd.V_below (Kd.V_elderB (pV_ HO576.out) gb578 (Nat.le_of_eq hg.symm)) hb); replace BK573 := Aside0.mk (blk_below (g := gb573) (o := .cells #[.slice Ao87 t569.length co87] 31 (0, 0)) bk_ hb); replace HB := Aside0.mk (below_step bl_ hb); clear hb hbox hg; obtain ⟨Ao91, co91, eo91⟩ := Kd.V_slice HO576.out; subst eo91; have hnb92 := NB578_573.out; have hnc92 := NB573_578.out; obtain ⟨hcz93_0, hfz93_0⟩ := cf1_ BK578.out; obtain ⟨hcz94_0, hfz94_0⟩ := cf1_ BK573.out) | (go_at_call 20; (with_reducible refine (exactpplref19_Same.calls kj43 _ _ t569 _ _ t574 false _ ?side1 ?side2 ?side3 ?side4 A68.out).mono ?_); (case side1 => refine (Kd.V_reads' (e := 60) (base := w.heap.size) (ok := fun k_ => ((some k_ ≠ (.slice Ao84 x6_43.length co84 : Value).ownBlock ∧ k_ ≠ gb573) ∧ k_ ≠ gb578)) (n := t569.length) (c := co87) ?_).2.2; exact (by (with_reducible repeat (first | apply Kd.V_alloc | apply Kd.V_drewN | apply Kd.V_drew)); exact (Kd.V_mono (Kd.V_far (p := ⟨gb578, 0, none⟩) (Kd.V_mono HO571.out (fun k_ hk => (⟨hk, by first | exact hk.2 | exact hk.1 | exact hk.2 | exact hk.1.1 | exact hk.1.2⟩ : _ ∧ k_ ≠ gb578))) (fun _ hk => hk.2) (.slice Ao91 t574.length co91)) (fun _ h_ => h_.1)))); (case side2 => exact (Kd.V_reads' HO571.out).2.1); (case side3 => refine (Kd.V_reads' (e := 60) (base := w.heap.size) (ok := fun k_ => ((some k_ ≠ (.slice Ao84 x6_43.length co84 : Value).ownBlock ∧ k_ ≠ gb573) ∧ k_ ≠ gb578)) (n := t574.length) (c := co91) ?_).2.2; exact (by (with_reducible repeat (first | apply Kd.V_alloc | apply Kd.V_drewN | apply Kd.V_drew)); exact (Kd.V_mono (Kd.V_far (p := ⟨gb578, 0, none⟩) (Kd.V_mono HO576.out (fun k_ hk => (⟨hk, by first | exact hk.2 | exact hk.1 | exact hk.2 | exact hk.1.1 | exact hk.1.2⟩ : _ ∧ k_ ≠ gb578))) (fun _ hk => hk.2) (.slice Ao91 t574.length co91)) (fun _ h_ => h_.1)))); (case side4 => exact (Kd.V_reads' HO576.out).2.1); rintro e w95 ⟨rfl, hb⟩; replace HO_6 := Aside0.mk (Kd.N_below (by (with_reducible repeat (first | apply Kd.N_alloc | apply Kd.N_drewN | apply Kd.N_drew)); exact (Kd.N_mono (Kd.N_far (p := ⟨gb578, 0, none⟩) (Kd.N_mono HO_6.out (fun k_ hk => (⟨hk, by first | exact hk.2 | exact hk.1 | exact hk.2 | exact hk.1.1 | exact hk.1.2⟩ : _ ∧ k_ ≠ gb578))) (fun _ hk => hk.2) (.slice Ao91 t574.length co91)) (fun _ h_ => h_.1))) hb); replace HO571 := Aside0.mk (Kd.V_below (by (with_reducible repeat (first | apply Kd.V_alloc | apply Kd.V_drewN | apply Kd.V_drew)); exact (Kd.V_mono (Kd.V_far (p := ⟨gb578, 0, none⟩) (Kd.V_mono HO571.out (fun k_ hk => (⟨hk, by first | exact hk.2 | exact hk.1 | exact hk.2 | exact hk.1.1 | exact hk.1.2⟩ : _ ∧ k_ ≠ gb578))) (fun _ hk => hk.2) (.slice Ao91 t574.length co91)) (fun _ h_ => h_.1))) hb); replace HO576 := Aside0.mk (Kd.V_below (by (with_reducible repeat (first | apply Kd.V_alloc | apply Kd.V_drewN | apply Kd.V_drew)); exact (Kd.V_mono (Kd.V_far (p := ⟨gb578, 0, none⟩) (Kd.V_mono HO576.out (fun k_ hk => (⟨hk, by first | exact hk.2 | exact hk.1 | exact hk.2 | exact hk.1.1 | exact hk.1.2⟩ : _ ∧ k_ ≠ gb578))) (fun _ hk => hk.2) (.slice Ao91 t574.length co91)) (fun _ h_ => h_.1))) hb); replace BK573 := Aside0.mk (blk_below (g := gb573) (o := .cells #[.slice Ao87 t569.length co87] 31 (0, 0)) (by (with_reducible repeat (first | refine blk_drewN ?_ _ | refine blk_drew ?_ | refine blk_alloc ?_ _)); refine blk_far ?_ NB573_578.out _; (with_reducible repeat (first | refine blk_drewN ?_ _ | refine blk_drew ?_ | refine blk_alloc ?_ _)); exact BK573.out) hb); replace BK578 := Aside0.mk (blk_below (g := gb578) (o := .cells #[.slice Ao91 t574.length co91] 31 (0, 0)) (by (with_reducible repeat (first | refine blk_drewN ?_ _ | refine blk_drew ?_ | refine blk_alloc ?_ _)); refine blk_put (cs := #[.slice none 0 0]) ?_ 0 _ rfl; (with_reducible repeat (first | refine blk_drewN ?_ _ | refine blk_drew ?_ | refine blk_alloc ?_ _)); exact BK578.out) hb); replace HB := Aside0.mk (below_step bl_ hb); (try clear hb); (try clear hb2); (try clear hk); (try clear hi)))
          go_ret
          exact ⟨re_, bl_⟩
        ·rw [if_neg c67] at H
         have c67b0 : (t572 == t577) = false := beq_eq_false_iff_ne.mpr c67
         have c67b1 : (t572 != t577) = true := bne_iff_ne.mpr c67
         obtain rfl := Option.some.inj H
         obtain ⟨Ao96, co96, eo96⟩ := Kd.N_slice HO_6.out
         subst eo96
         go_wp2_with (first | ((with_reducible refine gate_callee (f := 34) rfl ?_); refine goesL_ (some 62) rfl rfl Tryd.func34 (by kernel_rfl) rfl #[.int .i64 x1_4, .slice Ao96 x6_43.length co96] rfl (by (try simp only [List.map_toArray, List.map_cons, List.map_nil]); first | done | rfl | (simp only [List.length_drop, List.length_take]; rfl)) ?_; (with_reducible refine (diagram_Branch.calls x1_4 _ _ x6_43 t569 t572 _ ?side1 ?side2 A65.out ?tab).mono ?_); (case tab => exact ptab HTAB.out bl_); (case side1 => repeat (first | exact (Kd.N_reads' HO_6.out).2.2 | (with_reducible refine Kd.C_alloc ?_ _) | (with_reducible refine Kd.C_drewN ?_ _) | (with_reducible refine Kd.C_drew ?_))); (case side2 => exact (Kd.N_reads' HO_6.out).2.1); rintro e w97 ⟨v570, rfl, ho0, hb⟩; refine ⟨_, rfl, ?_⟩; have HO571 := Aside0.mk (Kd.V_lower (Kd.V_mono (ok' := fun k_ => some k_ ≠ (.slice Ao96 x6_43.length co96 : Value).ownBlock) ho0 (fun k_ hk_ => (Kd.fresh' (Kd.N_lt (pN_ HO_6.out)) k_ hk_))) (below_size bl_)); replace HO_6 := Aside0.mk (Kd.N_below (pN_ HO_6.out) hb); replace HB := Aside0.mk (below_step bl_ hb); (try clear hb); (try clear hb2); (try clear hk); (try clear hi); (try clear ho0)) | ((with_reducible refine gate_dst (N := 10) rfl ?_); refine box_event ?hg (N := 10) ?hd (cs := #[.slice none 0 0]) (t := 31) ?hr ?_; (case hd => rfl); (case hg => rfl); (case hr => first | (go_simp; done) | (go_simp; rfl)); intro gb573 hg w98 hbox hb; have BK573 := Aside0.mk (hbox); have GW573 : Aside0 (w.heap.size ≤ gb573) := gw_ hg (below_size bl_); have GE573 := GW573; replace HO_6 := Aside0.mk (Kd.N_below (Kd.N_elderB (pN_ HO_6.out) gb573 (Nat.le_of_eq hg.symm)) hb); replace HO571 := Aside0.mk (Kd.V_below (Kd.V_elderB (pV_ HO571.out) gb573 (Nat.le_of_eq hg.symm)) hb); replace HB := Aside0.mk (below_step bl_ hb); clear hb hbox hg; obtain ⟨Ao99, co99, eo99⟩ := Kd.V_slice HO571.out; subst eo99; obtain ⟨hcz100_0, hfz100_0⟩ := cf1_ BK573.out) | ((with_reducible refine gate_callee (f := 35) rfl ?_); refine goesL_ (some 68) rfl rfl Tryd.func35 (by kernel_rfl) rfl #[.int .i64 x1_4, .slice Ao96 x6_43.length co96] rfl (by (try simp only [List.map_toArray, List.map_cons, List.map_nil]); first | done | rfl | (simp only [List.length_drop, List.length_take]; rfl)) ?_; (with_reducible refine (exactpplref19_Branch.calls kj43 x1_4 _ _ x6_43 t574 t577 _ ?side1 ?side2 A66.out).mono ?_); (case side1 => refine (Kd.N_reads' (e := 31) (base := w.heap.size) (ok := fun k_ => (True ∧ k_ ≠ gb573)) (n := x6_43.length) (c := co96) ?_).2.2; exact (by (with_reducible repeat (first | apply Kd.N_alloc | apply Kd.N_drewN | apply Kd.N_drew)); exact (Kd.N_mono (Kd.N_far (p := ⟨gb573, 0, none⟩) (Kd.N_mono HO_6.out (fun k_ hk => (⟨hk, by first | exact hk.2 | exact hk.1 | exact hk.2 | exact hk.1.1 | exact hk.1.2⟩ : _ ∧ k_ ≠ gb573))) (fun _ hk => hk.2) (.slice Ao99 t569.length co99)) (fun _ h_ => h_.1)))); (case side2 => exact (Kd.N_reads' HO_6.out).2.1); rintro e w101 ⟨v575, rfl, ho0, hb⟩; refine ⟨_, rfl, ?_⟩; have HO576 := Aside0.mk (Kd.V_lower (Kd.V_mono (ok' := fun k_ => some k_ ≠ (.slice Ao96 x6_43.length co96 : Value).ownBlock ∧ k_ ≠ gb573) ho0 (fun k_ hk_ => ⟨(Kd.fresh' (Kd.N_lt (by (with_reducible repeat (first | apply Kd.N_alloc | apply Kd.N_drewN | apply Kd.N_drew)); exact (Kd.N_mono (Kd.N_far (p := ⟨gb573, 0, none⟩) (Kd.N_mono HO_6.out (fun k_ hk => (⟨hk, by first | exact hk.2 | exact hk.1 | exact hk.2 | exact hk.1.1 | exact hk.1.2⟩ : _ ∧ k_ ≠ gb573))) (fun _ hk => hk.2) (.slice Ao99 t569.length co99)) (fun _ h_ => h_.1)))) k_ hk_), (Kd.freshB (g := gb573) (o := .cells #[.slice Ao99 t569.length co99] 31 (0, 0)) (by (with_reducible repeat (first | refine blk_drewN ?_ _ | refine blk_drew ?_ | refine blk_alloc ?_ _)); refine blk_put (cs := #[.slice none 0 0]) ?_ 0 _ rfl; (with_reducible repeat (first | refine blk_drewN ?_ _ | refine blk_drew ?_ | refine blk_alloc ?_ _)); exact BK573.out) k_ hk_)⟩)) (below_size bl_)); replace HO_6 := Aside0.mk (Kd.N_below (by (with_reducible repeat (first | apply Kd.N_alloc | apply Kd.N_drewN | apply Kd.N_drew)); exact (Kd.N_mono (Kd.N_far (p := ⟨gb573, 0, none⟩) (Kd.N_mono HO_6.out (fun k_ hk => (⟨hk, by first | exact hk.2 | exact hk.1 | exact hk.2 | exact hk.1.1 | exact hk.1.2⟩ : _ ∧ k_ ≠ gb573))) (fun _ hk => hk.2) (.slice Ao99 t569.length co99)) (fun _ h_ => h_.1))) hb); replace HO571 := Aside0.mk (Kd.V_below (by (with_reducible repeat (first | apply Kd.V_alloc | apply Kd.V_drewN | apply Kd.V_drew)); exact (Kd.V_mono (Kd.V_far (p := ⟨gb573, 0, none⟩) (Kd.V_mono HO571.out (fun k_ hk => (⟨hk, by first | exact hk.2 | exact hk.1 | exact hk.2 | exact hk.1.1 | exact hk.1.2⟩ : _ ∧ k_ ≠ gb573))) (fun _ hk => hk.2) (.slice Ao99 t569.length co99)) (fun _ h_ => h_.1))) hb); replace BK573 := Aside0.mk (blk_below (g := gb573) (o := .cells #[.slice Ao99 t569.length co99] 31 (0, 0)) (by (with_reducible repeat (first | refine blk_drewN ?_ _ | refine blk_drew ?_ | refine blk_alloc ?_ _)); refine blk_put (cs := #[.slice none 0 0]) ?_ 0 _ rfl; (with_reducible repeat (first | refine blk_drewN ?_ _ | refine blk_drew ?_ | refine blk_alloc ?_ _)); exact BK573.out) hb); replace HB := Aside0.mk (below_step bl_ hb); (try clear hb); (try clear hb2); (try clear hk); (try clear hi); (try clear ho0)) | ((with_reducible refine gate_dst (N := 12) rfl ?_); refine box_event ?hg (N := 12) ?hd (cs := #[.slice none 0 0]) (t := 31) ?hr ?_; (case hd => rfl); (case hg => rfl); (case hr => first | (go_simp; done) | (go_simp; rfl)); intro gb578 hg w102 hbox hb; have BK578 := Aside0.mk (hbox); have GW578 : Aside0 (w.heap.size ≤ gb578) := gw_ hg (below_size bl_); have GE578 := GW578; have NB573_578 := Aside0.mk ((by rw [hg]; exact Nat.ne_of_lt (blk_lt (g := gb573) (o := .cells #[.slice Ao99 t569.length co99] 31 (0, 0)) bk_) : gb573 ≠ gb578)); have NB578_573 := Aside0.mk ((by rw [hg]; exact Nat.ne_of_gt (blk_lt (g := gb573) (o := .cells #[.slice Ao99 t569.length co99] 31 (0, 0)) bk_) : gb578 ≠ gb573)); replace HO_6 := Aside0.mk (Kd.N_below (Kd.N_elderB (pN_ HO_6.out) gb578 (Nat.le_of_eq hg.symm)) hb); replace HO571 := Aside0.mk (Kd.V_below (Kd.V_elderB (pV_ HO571.out) gb578 (Nat.le_of_eq hg.symm)) hb); replace HO576 := Aside0.mk (Kd.V_below (Kd.V_elderB (pV_ HO576.out) gb578 (Nat.le_of_eq hg.symm)) hb); replace BK573 := Aside0.mk (blk_below (g := gb573) (o := .cells #[.slice Ao99 t569.length co99] 31 (0, 0)) bk_ hb); replace HB := Aside0.mk (below_step bl_ hb); clear hb hbox hg; obtain ⟨Ao103, co103, eo103⟩ := Kd.V_slice HO576.out; subst eo103; have hnb104 := NB578_573.out; have hnc104 := NB573_578.out; obtain ⟨hcz105_0, hfz105_0⟩ := cf1_ BK578.out))
         go_ret
         exact ⟨re_, bl_⟩

/-- THE ONE PURE STATEMENT of exactppllaw19_DiagramBranches: yours. -/
def exactppllaw19_DiagramBranches.Pure : Prop := ∀ (l0 : List Int) (a1 : Int), l0.length ≤ maxLen → l0.length * 8 ≤ 140737488351232 → (∀ x ∈ l0, (Lit.int .i64 x).wf = true) → (Lit.int .i64 a1).wf = true → ∃ k, exactppllaw19_DiagramBranches.f k l0 a1 = some true
theorem exactppllaw19_DiagramBranches.walk (P : exactppllaw19_DiagramBranches.Pure) (a0 : Option Addr) (len0 cap0 : Nat) (z0 : List Int) (a1 : Int) (w : World) (htab : PowTab w.heap.size w) (w0 : (a0 = none ∧ len0 = 0 ∧ cap0 = 0 ∧ z0 = []) ∨ ∃ x, a0 = some x ∧ len0 ≤ cap0 ∧ cap0 ≤ maxLen ∧ z0.length = cap0 ∧ (∀ i, i < z0.length → w.cell? (x.add i) = some (.int .i64 (z0.getD i 0))) ∧ ∀ n ∈ z0, (Lit.int .i64 n).wf = true) (y0 : len0 * 8 ≤ 140737488351232) (w1 : (Lit.int .i64 a1).wf = true) :
  Calls Tryd.prog 9 #[.slice a0 len0 cap0, .int .i64 a1] w fun e w' => e = .returned (.bool true) ∧ Below w.heap.size w w' := by
 obtain ⟨l0, rfl, hr0, hm0, hw0, hc0⟩ := ReadsInt.ofRowC w0
 obtain ⟨k, h⟩ := P l0 a1 hm0 y0 hw0 w1
 refine (exactppllaw19_DiagramBranches.calls k _ _ l0 a1 true w (Kd.C_of_reads (d := (0 : Int)) (h1 := fun _ => rfl) hr0) hc0 h htab).mono ?_
 rintro e w' ⟨rfl, hd⟩
 exact ⟨rfl, hd⟩

end Go.Proofs.YtopbjginpmdebaaDoor.K
-- the reference's Reduce, Validate; reduces; the numbers that are read
namespace Go.Proofs.YtopbjginpmdebaaDoor.K
open Go.RowKit Go.Maps Go.Proofs.YtopbjginpmdebaaDoorW.PrintWords Go.Proofs.YtopbjginpmdebaaDoorW.PrintLast Go.Proofs.YtopbjginpmdebaaDoorW.PrintMore
set_option linter.unusedVariables false
set_option linter.unusedSimpArgs false
/-- rounds enough for a list -/
def rnd (l : List Nd) : Nat := 1073741824 + l.length + l.length + 20006
theorem refReduce_f (l : List Nd) (h : ndOk l = true) (k : Nat) (hk : rnd l ≤ k) : exactpplref19_Reduce.f k l = some (redL l, redE l) := by
  have hr := ndOk_room h
  have hI := ndOk_I h
  unfold rnd at hk
  unfold exactpplref19_Reduce.f
  rw [graph_f l (by omega) 1073741824 (by decide) (fun n hn => (hI n hn).2.2) k (by omega), Option.bind_some]
  by_cases hg : grB l = true
  · rw [if_pos hg, exactpplref19_Canon.f, if_pos hg, if_pos h, Option.bind_some]
    unfold exactpplref19_Fit.f redL redE
    rw [if_pos hg]
    by_cases hl : (cn l).length ≤ 20000
    · rw [if_neg (by omega), if_pos hl]; rfl
    · rw [if_pos (by omega), if_neg hl]; rfl
  · rw [if_neg hg]
    unfold redL redE
    rw [if_neg hg]; rfl
theorem redL_len (l : List Nd) : (redL l).length ≤ 20000 := redL_kids
theorem refValidate_f (l : List Nd) (h : ndOk l = true) (k : Nat) (hk : rnd l ≤ k) : exactpplref19_Validate.f k l = some (valE l) := by
  unfold exactpplref19_Validate.f
  rw [refReduce_f l h k hk, Option.bind_some]
  have hl := redL_len l
  unfold rnd at hk
  unfold valE
  by_cases h0 : redE l = 0
  · rw [if_pos h0, if_pos h0, same_f (redL l) l (by omega) 1073741824 (by decide) (fun n hn => Nat.le_trans (redL_kids16 l n hn) (by decide)) k (by omega), Option.bind_some]
    have e : redL l = cn l := by unfold redL; rw [if_pos h0]
    rw [e]
    by_cases hq : cn l = l
    · rw [decide_eq_true hq, if_pos rfl, if_pos hq]
    · rw [decide_eq_false hq, if_neg (by decide), if_neg hq]
  · rw [if_neg h0, if_neg h0]
theorem mono_le {α : Type} {f : Nat → Option α} (h : ∀ k, LeO (f k) (f (k + 1))) {k k' : Nat} (hk : k ≤ k') {r : α} (e : f k = some r) : f k' = some r := by
  induction hk with
  | refl => exact e
  | step _ ih => exact h _ _ ih
/-- what a source is while it is read -/
structure Src (L : List Int) (at_ : Int) : Prop where
  len : L.length ≤ 1000
  i64 : ∀ x ∈ L, -9223372036854775808 ≤ x ∧ x ≤ 9223372036854775807
  lo : 0 ≤ at_
  hi : at_ ≤ (L.length : Int)
theorem new_f (l : List Int) (h : ∀ x ∈ l, -9223372036854775808 ≤ x ∧ x ≤ 9223372036854775807) : ∃ L, exactpplmake_New.f l = some (L, 0, 0) ∧ Src L 0 := by
  unfold exactpplmake_New.f
  by_cases h1 : (l.length : Int) > 1000
  · rw [if_pos h1, if_pos (by omega)]
    exact ⟨_, rfl, by simp; omega, fun x hx => h x (List.mem_of_mem_take hx), by omega, by omega⟩
  · rw [if_neg h1]
    exact ⟨_, rfl, by omega, h, by omega, by omega⟩
theorem w64_id {x : Int} (h : -9223372036854775808 ≤ x) (h2 : x ≤ 9223372036854775807) : wrap64 x = x := by unfold wrap64; omega
theorem raw_f {L : List Int} {a : Int} (h : Src L a) (st : Int) : ∃ x a', exactpplmake_Src_Raw.f L a st = some (x, a', st) ∧ (-9223372036854775808 ≤ x ∧ x ≤ 9223372036854775807) ∧ Src L a' := by
  have hl := h.len
  have h0 := h.lo
  have h1 := h.hi
  unfold exactpplmake_Src_Raw.f
  by_cases he : a ≥ (L.length : Int)
  · rw [if_pos he]
    exact ⟨0, a, rfl, by omega, h⟩
  · rw [if_neg he, w64_id (x := a + 1) (by omega) (by omega), w64_id (x := a + 1 - 1) (by omega) (by omega), if_pos (by omega), if_pos (by omega)]
    refine ⟨_, _, rfl, ?_, ⟨hl, h.i64, by omega, by omega⟩⟩
    refine h.i64 _ ?_
    have hj : a.toNat < L.length := by omega
    have e : rd L (a + 1 - 1) = L[a.toNat] := by rw [show a + 1 - 1 = ((a.toNat : Nat) : Int) by omega, rd_get hj]
    rw [e]; exact List.getElem_mem hj
theorem n_f {L : List Int} {a : Int} (h : Src L a) (st n : Int) (h1 : 1 ≤ n) (h2 : n ≤ 1000000000000) : ∃ x a', exactpplmake_Src_N.f L a st n = some (x, a', st) ∧ (0 ≤ x ∧ x < n) ∧ Src L a' := by
  unfold exactpplmake_Src_N.f
  obtain ⟨x, a', e, hx, h'⟩ := raw_f h st
  rw [if_neg (by omega), e, Option.bind_some, if_neg (by omega)]
  have ht1 := Int.lt_tmod_of_pos x (show 0 < n by omega)
  have ht2 := Int.tmod_lt_of_pos x (show 0 < n by omega)
  by_cases hn : Int.tmod x n < 0
  · simp only
    rw [if_pos hn, w64_id (by omega) (by omega)]
    exact ⟨_, _, rfl, by omega, h'⟩
  · simp only
    rw [if_neg hn]
    exact ⟨_, _, rfl, by omega, h'⟩
theorem n0_f {L : List Int} {a : Int} (h : Src L a) (st n : Int) (h1 : n < 1) : exactpplmake_Src_N.f L a st n = some (0, a, st) := by
  unfold exactpplmake_Src_N.f
  rw [if_pos h1]
theorem range_f {L : List Int} {a : Int} (h : Src L a) (st lo hi : Int) (h1 : lo ≤ hi) (h2 : -100000000000 ≤ lo) (h3 : hi ≤ 100000000000) : ∃ x a', exactpplmake_Src_Range.f L a st lo hi = some (x, a', st) ∧ (lo ≤ x ∧ x ≤ hi) ∧ Src L a' := by
  unfold exactpplmake_Src_Range.f
  rw [w64_id (x := hi - lo) (by omega) (by omega), w64_id (x := hi - lo + 1) (by omega) (by omega)]
  obtain ⟨x, a', e, hx, h'⟩ := n_f h st (hi - lo + 1) (by omega) (by omega)
  rw [e, Option.bind_some]
  simp only
  rw [w64_id (by omega) (by omega)]
  exact ⟨_, _, rfl, by omega, h'⟩
theorem pick_f {L : List Int} {a : Int} (h : Src L a) (st : Int) (l : List Int) (h1 : l ≠ []) (h2 : l.length ≤ 1000) : ∃ x a', exactpplmake_Src_Pick.f L a st l = some (x, a', st) ∧ x ∈ l ∧ Src L a' := by
  have hp := List.length_pos_iff.2 h1
  unfold exactpplmake_Src_Pick.f
  obtain ⟨x, a', e, hx, h'⟩ := n_f h st (l.length : Int) (by omega) (by omega)
  rw [e, Option.bind_some]
  simp only
  rw [if_pos (by omega), if_pos (by omega)]
  refine ⟨_, _, rfl, ?_, h'⟩
  have hj : x.toNat < l.length := by omega
  rw [show x = ((x.toNat : Nat) : Int) by omega, rd_get hj]
  exact List.getElem_mem hj
theorem width_f (s : Int) (h1 : 0 ≤ s) (h2 : s ≤ 1000000) : exactpplmake_Width.f s = some (2 + s % 2) := by
  unfold exactpplmake_Width.f
  rw [Int.tmod_eq_emod_of_nonneg h1, w64_id (by omega) (by omega)]
end Go.Proofs.YtopbjginpmdebaaDoor.K
-- Src.Nodes ends, and its nodes are a machine's
namespace Go.Proofs.YtopbjginpmdebaaDoor.K
open Go.RowKit Go.Maps Go.Proofs.YtopbjginpmdebaaDoorW.PrintWords Go.Proofs.YtopbjginpmdebaaDoorW.PrintLast Go.Proofs.YtopbjginpmdebaaDoorW.PrintMore
set_option linter.unusedVariables false
set_option linter.unusedSimpArgs false
/-- what Nodes writes -/
def NdG (n : Nd) : Prop := -2 ≤ n.f0 ∧ n.f0 ≤ 64 ∧ -1073741825 ≤ n.f1 ∧ n.f1 ≤ 1073741825 ∧ n.f2.length ≤ 4
/-- how a stretch of Nodes ends -/
def NdEnd (L : List Int) (st : Int) (f : Nat → Option (List S60 × Int × Int)) : Prop := ∃ k r a', f k = some (r, a', st) ∧ (∀ n ∈ r, NdG n) ∧ r.length ≤ 8 ∧ Src L a'
theorem NdG.snoc {l : List Nd} {n : Nd} (h : ∀ m ∈ l, NdG m) (hn : NdG n) : ∀ m ∈ l ++ [n], NdG m := fun m hm => (List.mem_append.1 hm).elim (h m) (fun e => by rw [List.mem_singleton.1 e]; exact hn)
theorem nd_j3 {L : List Int} {st : Int} {m : Nat} (ih : ∀ (l : List Nd) (a : Int), l.length + m ≤ 8 → (∀ n ∈ l, NdG n) → Src L a → NdEnd L st fun k => exactpplmake_Src_Nodes.l0 k l (m : Int) L a st)
    (l : List Nd) (a s v : Int) (ks : List Int) (hl : l.length + (m + 1) ≤ 8) (hg : ∀ n ∈ l, NdG n) (hS : Src L a) (hs : -2 ≤ s ∧ s ≤ 64) (hv : -1073741825 ≤ v ∧ v ≤ 1073741825) (hks : ks.length ≤ 3) :
    NdEnd L st fun k => exactpplmake_Src_Nodes.j3 k l ((m + 1 : Nat) : Int) L a st s v ks := by
  obtain ⟨x, a1, e1, hx, h1⟩ := n_f hS st 24 (by omega) (by omega)
  have hw : wrap64 (((m + 1 : Nat) : Int) - 1) = (m : Int) := by rw [w64_id (by omega) (by omega)]; omega
  by_cases hx0 : x = 0
  · obtain ⟨y, a2, e2, hy, h2⟩ := pick_f h1 st [-2, -1, 0, 63, 64] (by simp) (by simp)
    have hy' : -2 ≤ y ∧ y ≤ 64 := by simp at hy; omega
    obtain ⟨k, r, a', e, q1, q2, q3⟩ := ih (l ++ [⟨y, v, ks⟩]) a2 (by simp; omega) (NdG.snoc hg ⟨hy'.1, hy'.2, hv.1, hv.2, by show ks.length ≤ 4; omega⟩) h2
    refine ⟨k + 1, r, a', ?_, q1, q2, q3⟩
    simp only [exactpplmake_Src_Nodes.j3]
    rw [e1, Option.bind_some]
    simp only
    rw [if_pos hx0, e2, Option.bind_some, if_pos (by omega), hw]
    exact e
  · by_cases hx1 : x = 1
    · obtain ⟨y, a2, e2, hy, h2⟩ := pick_f h1 st [1073741824, 1073741825, -1073741824, -1073741825] (by simp) (by simp)
      have hy' : -1073741825 ≤ y ∧ y ≤ 1073741825 := by simp at hy; omega
      obtain ⟨k, r, a', e, q1, q2, q3⟩ := ih (l ++ [⟨s, y, ks⟩]) a2 (by simp; omega) (NdG.snoc hg ⟨hs.1, hs.2, hy'.1, hy'.2, by show ks.length ≤ 4; omega⟩) h2
      refine ⟨k + 1, r, a', ?_, q1, q2, q3⟩
      simp only [exactpplmake_Src_Nodes.j3]
      rw [e1, Option.bind_some]
      simp only
      rw [if_neg hx0, if_pos hx1, e2, Option.bind_some, if_pos (by omega), hw]
      exact e
    · by_cases hx2 : x = 2
      · obtain ⟨y, a2, e2, hy, h2⟩ := range_f h1 st (-1) (l.length : Int) (by omega) (by omega) (by omega)
        obtain ⟨k, r, a', e, q1, q2, q3⟩ := ih (l ++ [⟨s, v, ks ++ [y]⟩]) a2 (by simp; omega) (NdG.snoc hg ⟨hs.1, hs.2, hv.1, hv.2, by show (ks ++ [y]).length ≤ 4; simp; omega⟩) h2
        refine ⟨k + 1, r, a', ?_, q1, q2, q3⟩
        simp only [exactpplmake_Src_Nodes.j3]
        rw [e1, Option.bind_some]
        simp only
        rw [if_neg hx0, if_neg hx1, if_pos hx2, e2, Option.bind_some, if_pos (by omega), if_pos (by omega), hw]
        exact e
      · obtain ⟨k, r, a', e, q1, q2, q3⟩ := ih (l ++ [⟨s, v, ks⟩]) a1 (by simp; omega) (NdG.snoc hg ⟨hs.1, hs.2, hv.1, hv.2, by show ks.length ≤ 4; omega⟩) h1
        refine ⟨k + 1, r, a', ?_, q1, q2, q3⟩
        simp only [exactpplmake_Src_Nodes.j3]
        rw [e1, Option.bind_some]
        simp only
        rw [if_neg hx0, if_neg hx1, if_neg hx2, if_pos (by omega), hw]
        exact e
theorem nd_l1 {L : List Int} {st : Int} {m : Nat} (ih : ∀ (l : List Nd) (a : Int), l.length + m ≤ 8 → (∀ n ∈ l, NdG n) → Src L a → NdEnd L st fun k => exactpplmake_Src_Nodes.l0 k l (m : Int) L a st)
    (l : List Nd) (s v : Int) (hl : l.length + (m + 1) ≤ 8) (hg : ∀ n ∈ l, NdG n) (hs : 0 ≤ s ∧ s ≤ 2) (hv : -1073741825 ≤ v ∧ v ≤ 1073741825) : ∀ (c : Nat) (j : Nat) (a : Int) (ks : List Int), 3 - j ≤ c → j ≤ 3 → ks.length = j → Src L a →
    NdEnd L st fun k => exactpplmake_Src_Nodes.l1 k l ((m + 1 : Nat) : Int) (j : Int) L a st s v ks := by
  intro c
  induction c with
  | zero =>
    intro j a ks h1 h2 h3 hS
    obtain ⟨k, r, a', e, q1, q2, q3⟩ := nd_j3 ih l a s v ks hl hg hS ⟨by omega, by omega⟩ hv (by omega)
    refine ⟨k + 1, r, a', ?_, q1, q2, q3⟩
    simp only [exactpplmake_Src_Nodes.l1]
    rw [width_f s hs.1 (by omega), Option.bind_some, if_neg (by omega)]
    exact e
  | succ c ihc =>
    intro j a ks h1 h2 h3 hS
    by_cases hj : (j : Int) < 2 + s % 2
    · have hN : ∃ x a1, exactpplmake_Src_N.f L a st (l.length : Int) = some (x, a1, st) ∧ Src L a1 := by
        by_cases h0 : (l.length : Int) < 1
        · exact ⟨0, a, n0_f hS st _ h0, hS⟩
        · obtain ⟨x, a1, e1, _, h4⟩ := n_f hS st (l.length : Int) (by omega) (by omega)
          exact ⟨x, a1, e1, h4⟩
      obtain ⟨x, a1, e1, h4⟩ := hN
      obtain ⟨k, r, a', e, q1, q2, q3⟩ := ihc (j + 1) a1 (ks ++ [x]) (by omega) (by omega) (by simp; omega) h4
      refine ⟨k + 1, r, a', ?_, q1, q2, q3⟩
      simp only [exactpplmake_Src_Nodes.l1]
      rw [width_f s hs.1 (by omega), Option.bind_some, if_pos hj, e1, Option.bind_some, if_pos (by omega), w64_succ (by omega)]
      exact e
    · obtain ⟨k, r, a', e, q1, q2, q3⟩ := nd_j3 ih l a s v ks hl hg hS ⟨by omega, by omega⟩ hv (by omega)
      refine ⟨k + 1, r, a', ?_, q1, q2, q3⟩
      simp only [exactpplmake_Src_Nodes.l1]
      rw [width_f s hs.1 (by omega), Option.bind_some, if_neg hj]
      exact e
theorem nd_l0 {L : List Int} (st : Int) : ∀ (m : Nat) (l : List Nd) (a : Int), l.length + m ≤ 8 → (∀ n ∈ l, NdG n) → Src L a → NdEnd L st fun k => exactpplmake_Src_Nodes.l0 k l (m : Int) L a st := by
  intro m
  induction m with
  | zero =>
    intro l a hl hg hS
    refine ⟨1, l, a, ?_, hg, by omega, hS⟩
    simp only [exactpplmake_Src_Nodes.l0]
    rw [if_neg (by omega)]
  | succ m ih =>
    intro l a hl hg hS
    obtain ⟨x, a1, e1, hx, h1⟩ := range_f hS st (-2) 2 (by omega) (by omega) (by omega)
    by_cases h0 : (l.length : Int) > 0
    · obtain ⟨y, a2, e2, hy, h2⟩ := n_f h1 st 3 (by omega) (by omega)
      by_cases hy0 : y > 0
      · obtain ⟨z, a3, e3, hz, h3⟩ := n_f h2 st 3 (by omega) (by omega)
        obtain ⟨k, r, a', e, q1, q2, q3⟩ := nd_l1 ih l z 0 (by omega) hg ⟨hz.1, by omega⟩ (by omega) 3 0 a3 [] (by omega) (by omega) rfl h3
        refine ⟨k + 1 + 1, r, a', ?_, q1, q2, q3⟩
        simp only [exactpplmake_Src_Nodes.l0, exactpplmake_Src_Nodes.j1]
        rw [if_pos (by omega), e1, Option.bind_some, if_pos h0]
        simp only
        rw [e2, Option.bind_some]
        simp only
        rw [decide_eq_true hy0, if_pos rfl, e3, Option.bind_some]
        exact e
      · obtain ⟨k, r, a', e, q1, q2, q3⟩ := nd_j3 ih l a2 (-1) x [] (by omega) hg h2 (by omega) (by omega) (by simp)
        refine ⟨k + 1 + 1, r, a', ?_, q1, q2, q3⟩
        simp only [exactpplmake_Src_Nodes.l0, exactpplmake_Src_Nodes.j1]
        rw [if_pos (by omega), e1, Option.bind_some, if_pos h0]
        simp only
        rw [e2, Option.bind_some]
        simp only
        rw [decide_eq_false hy0, if_neg (by decide)]
        exact e
    · obtain ⟨k, r, a', e, q1, q2, q3⟩ := nd_j3 ih l a1 (-1) x [] (by omega) hg h1 (by omega) (by omega) (by simp)
      refine ⟨k + 1 + 1, r, a', ?_, q1, q2, q3⟩
      simp only [exactpplmake_Src_Nodes.l0, exactpplmake_Src_Nodes.j1]
      rw [if_pos (by omega), e1, Option.bind_some, if_neg h0]
      simp only
      rw [if_neg (by decide)]
      exact e
theorem NdG.ok {l : List Nd} (h : ∀ n ∈ l, NdG n) (hl : l.length ≤ 1000) : ndOk l = true := by
  unfold ndOk
  rw [Bool.and_eq_true, List.all_eq_true]
  refine ⟨fun n hn => decide_eq_true ?_, decide_eq_true (by omega)⟩
  have := h n hn
  unfold NdG at this
  omega
theorem nodes_f {L : List Int} {a : Int} (h : Src L a) (st : Int) : ∃ K r a', (∀ k, K ≤ k → exactpplmake_Src_Nodes.f k L a st = some (r, a', st)) ∧ (∀ n ∈ r, NdG n) ∧ r.length ≤ 8 ∧ Src L a' := by
  obtain ⟨x, a1, e1, hx, h1⟩ := n_f h st 9 (by omega) (by omega)
  obtain ⟨m, rfl⟩ : ∃ m : Nat, x = m := ⟨x.toNat, by omega⟩
  obtain ⟨k, r, a', e, q1, q2, q3⟩ := nd_l0 (L := L) st m [] a1 (by simp; omega) (by simp) h1
  refine ⟨k, r, a', fun k' hk => mono_le (f := fun k => exactpplmake_Src_Nodes.f k L a st) (fun k => exactpplmake_Src_Nodes.mono L a st k) hk ?_, q1, q2, q3⟩
  show exactpplmake_Src_Nodes.f k L a st = _
  unfold exactpplmake_Src_Nodes.f
  rw [e1, Option.bind_some]
  exact e
end Go.Proofs.YtopbjginpmdebaaDoor.K
namespace Go.Proofs.YtopbjginpmdebaaDoor.K
open Go.RowKit Go.Proofs.YtopbjginpmdebaaDoorW.PrintWords Go.Proofs.YtopbjginpmdebaaDoorW.PrintLast Go.Proofs.YtopbjginpmdebaaDoorW.PrintMore
attribute [local go_sem] max2_int min2_int max_two min_two max_three min_three max_four min_four   -- for this text's walks alone
set_option linter.unusedVariables false
set_option linter.unusedSimpArgs false

/-! ### exactppllaw19_reduces: function 14 -/
def exactppllaw19_reduces.f (k : Nat) (l0 : List (S60)) : Option (Bool) := (diagram_Reduce.f l0).bind fun bt213 => ((exactpplref19_Reduce.f k l0).bind fun bt218 => (if bt213.2 = bt218.2 then ((exactpplref19_Same.f k bt213.1 bt218.1).bind fun t223 => (if t223 = true then ((diagram_Validate.f l0).bind fun t224 => ((exactpplref19_Validate.f k l0).bind fun t225 => (some (t224 == t225)))) else (some false))) else (some false)))
theorem exactppllaw19_reduces.mono : ∀ a0 k, LeO (exactppllaw19_reduces.f k a0) (exactppllaw19_reduces.f (k + 1) a0) := by
 intro a0 k
 unfold exactppllaw19_reduces.f
 repeat' first
   | (with_reducible exact exactpplref19_Reduce.mono _ _)
   | (with_reducible exact exactpplref19_Same.mono _ _ _)
   | (with_reducible exact exactpplref19_Validate.mono _ _)
   | (with_reducible exact LeO.refl _)
   | (with_reducible exact LeO.none _)
   | (with_reducible refine LeO.ite ?_ ?_)
   | (with_reducible refine LeO.bind ?_ (fun _ => ?_))
   | exact exactpplref19_Reduce.mono _ _
   | exact exactpplref19_Same.mono _ _ _
   | exact exactpplref19_Validate.mono _ _
   | exact LeO.none _
   | refine LeO.ite ?_ ?_
   | refine LeO.bind ?_ (fun _ => ?_)
set_option maxHeartbeats 8000000 in
set_option maxRecDepth 100000 in
theorem exactppllaw19_reduces.calls (k : Nat) (A0 : Option Addr) (c0 : Nat) (l0 : List (S60)) (r : Bool) (w : World) (hr0 : Kd.C k60 w A0 l0.length l0) (hc0 : l0.length ≤ c0) (h : exactppllaw19_reduces.f k l0 = some r) (htab : PowTab w.heap.size w) :
  Calls Tryd.prog 14 #[.slice A0 l0.length c0] w fun e w' => e = .returned (.bool r) ∧ Below w.heap.size w w' := by
 have HTAB := Aside0.mk htab
 clear htab
 have hu31 := Tryd.underlying31
 have HR0 := Aside0.mk hr0
 have HC0 := Aside0.mk hc0
 clear hr0 hc0
 have HB := Aside0.mk (Below.refl w.heap.size w)
 have H : ((diagram_Reduce.f l0).bind fun bt213 => ((exactpplref19_Reduce.f k l0).bind fun bt218 => (if bt213.2 = bt218.2 then ((exactpplref19_Same.f k bt213.1 bt218.1).bind fun t223 => (if t223 = true then ((diagram_Validate.f l0).bind fun t224 => ((exactpplref19_Validate.f k l0).bind fun t225 => (some (t224 == t225)))) else (some false))) else (some false)))) = some r := h
 clear h
 replace H := Option.bind_eq_some_iff.mp H
 obtain ⟨⟨t213, t216⟩, A20, H⟩ := H
 replace H : ((exactpplref19_Reduce.f k l0).bind fun bt218 => (if t216 = bt218.2 then ((exactpplref19_Same.f k t213 bt218.1).bind fun t223 => (if t223 = true then ((diagram_Validate.f l0).bind fun t224 => ((exactpplref19_Validate.f k l0).bind fun t225 => (some (t224 == t225)))) else (some false))) else (some false))) = some r := H
 have A2 := Aside0.mk A20
 clear A20
 replace H := Option.bind_eq_some_iff.mp H
 obtain ⟨⟨t218, t221⟩, A30, H⟩ := H
 replace H : (if t216 = t221 then ((exactpplref19_Same.f k t213 t218).bind fun t223 => (if t223 = true then ((diagram_Validate.f l0).bind fun t224 => ((exactpplref19_Validate.f k l0).bind fun t225 => (some (t224 == t225)))) else (some false))) else (some false)) = some r := H
 have A3 := Aside0.mk A30
 clear A30
 by_cases c4 : t216 = t221
 ·rw [if_pos c4] at H
  have c4b0 : (t216 == t221) = true := beq_iff_eq.mpr c4
  have c4b1 : (t216 != t221) = false := bne_eq_false_iff_eq.mpr c4
  clear c4
  replace H := Option.bind_eq_some_iff.mp H
  obtain ⟨t223, A50, H⟩ := H
  replace H : (if t223 = true then ((diagram_Validate.f l0).bind fun t224 => ((exactpplref19_Validate.f k l0).bind fun t225 => (some (t224 == t225)))) else (some false)) = some r := H
  have A5 := Aside0.mk A50
  clear A50
  by_cases c6 : t223 = true
  ·subst c6
   have H1 : ((diagram_Validate.f l0).bind fun t224 => ((exactpplref19_Validate.f k l0).bind fun t225 => (some (t224 == t225)))) = some r := by rw [if_pos rfl] at H; exact H
   clear H
   have H := H1
   clear H1
   replace H := Option.bind_eq_some_iff.mp H
   obtain ⟨t224, A70, H⟩ := H
   replace H : ((exactpplref19_Validate.f k l0).bind fun t225 => (some (t224 == t225))) = some r := H
   have A7 := Aside0.mk A70
   clear A70
   replace H := Option.bind_eq_some_iff.mp H
   obtain ⟨t225, A80, H⟩ := H
   replace H : (some (t224 == t225)) = some r := H
   have A8 := Aside0.mk A80
   clear A80
   obtain rfl := Option.some.inj H
   go_enter Tryd.func14, Tryd.ntmps14
   go_wp2_with (first | ((with_reducible refine gate_callee (f := 19) rfl ?_); refine goesL_ (some 9) rfl rfl Tryd.func19 (by kernel_rfl) rfl #[.slice A0 l0.length c0] rfl (by (try simp only [List.map_toArray, List.map_cons, List.map_nil]); first | done | rfl | (simp only [List.length_drop, List.length_take]; rfl)) ?_; (with_reducible refine (diagram_Reduce.calls _ _ l0 t213 t216 _ ?side1 ?side2 A2.out ?tab).mono ?_); (case tab => exact ptab HTAB.out bl_); (case side1 => repeat (first | exact HR0.out | (with_reducible refine Kd.C_alloc ?_ _) | (with_reducible refine Kd.C_drewN ?_ _) | (with_reducible refine Kd.C_drew ?_))); (case side2 => exact HC0.out); rintro e w9 ⟨v214, rfl, ho0, hb⟩; refine ⟨_, rfl, ?_⟩; have HO215 := Aside0.mk (Kd.V_lower (Kd.V_mono (ok' := fun k_ => True) ho0 (fun k_ hk_ => trivial)) (below_size bl_)); replace HB := Aside0.mk (below_step bl_ hb); (try clear hb); (try clear hb2); (try clear hk); (try clear hi); (try clear ho0)) | ((with_reducible refine gate_dst (N := 3) rfl ?_); refine box_event ?hg (N := 3) ?hd (cs := #[.slice none 0 0]) (t := 31) ?hr ?_; (case hd => rfl); (case hg => rfl); (case hr => first | (go_simp; done) | (go_simp; rfl)); intro gb217 hg w10 hbox hb; have BK217 := Aside0.mk (hbox); have GW217 : Aside0 (w.heap.size ≤ gb217) := gw_ hg (below_size bl_); have GE217 := GW217; replace HO215 := Aside0.mk (Kd.V_below (Kd.V_elderB (pV_ HO215.out) gb217 (Nat.le_of_eq hg.symm)) hb); replace HB := Aside0.mk (below_step bl_ hb); clear hb hbox hg; obtain ⟨Ao11, co11, eo11⟩ := Kd.V_slice HO215.out; subst eo11; obtain ⟨hcz12_0, hfz12_0⟩ := cf1_ BK217.out) | ((with_reducible refine gate_callee (f := 43) rfl ?_); refine goesL_ (some 14) rfl rfl Tryd.func43 (by kernel_rfl) rfl #[.slice A0 l0.length c0] rfl (by (try simp only [List.map_toArray, List.map_cons, List.map_nil]); first | done | rfl | (simp only [List.length_drop, List.length_take]; rfl)) ?_; (with_reducible refine (exactpplref19_Reduce.calls k _ _ l0 t218 t221 _ ?side1 ?side2 A3.out).mono ?_); (case side1 => exact Kd.C_below HR0.out bl_); (case side2 => exact HC0.out); rintro e w13 ⟨v219, rfl, ho0, hb⟩; refine ⟨_, rfl, ?_⟩; have HO220 := Aside0.mk (Kd.V_lower (Kd.V_mono (ok' := fun k_ => k_ ≠ gb217) ho0 (fun k_ hk_ => (Kd.freshB (g := gb217) (o := .cells #[.slice Ao11 t213.length co11] 31 (0, 0)) (by (with_reducible repeat (first | refine blk_drewN ?_ _ | refine blk_drew ?_ | refine blk_alloc ?_ _)); refine blk_put (cs := #[.slice none 0 0]) ?_ 0 _ rfl; (with_reducible repeat (first | refine blk_drewN ?_ _ | refine blk_drew ?_ | refine blk_alloc ?_ _)); exact BK217.out) k_ hk_))) (below_size bl_)); replace HO215 := Aside0.mk (Kd.V_below (by (with_reducible repeat (first | apply Kd.V_alloc | apply Kd.V_drewN | apply Kd.V_drew)); exact (Kd.V_mono (Kd.V_far (p := ⟨gb217, 0, none⟩) (Kd.V_mono HO215.out (fun k_ hk => (⟨hk, by first | exact hk.2 | exact hk.1 | exact hk.2 | exact hk.1.1 | exact hk.1.2⟩ : _ ∧ k_ ≠ gb217))) (fun _ hk => hk.2) (.slice Ao11 t213.length co11)) (fun _ h_ => h_.1))) hb); replace BK217 := Aside0.mk (blk_below (g := gb217) (o := .cells #[.slice Ao11 t213.length co11] 31 (0, 0)) (by (with_reducible repeat (first | refine blk_drewN ?_ _ | refine blk_drew ?_ | refine blk_alloc ?_ _)); refine blk_put (cs := #[.slice none 0 0]) ?_ 0 _ rfl; (with_reducible repeat (first | refine blk_drewN ?_ _ | refine blk_drew ?_ | refine blk_alloc ?_ _)); exact BK217.out) hb); replace HB := Aside0.mk (below_step bl_ hb); (try clear hb); (try clear hb2); (try clear hk); (try clear hi); (try clear ho0)) | ((with_reducible refine gate_dst (N := 5) rfl ?_); refine box_event ?hg (N := 5) ?hd (cs := #[.slice none 0 0]) (t := 31) ?hr ?_; (case hd => rfl); (case hg => rfl); (case hr => first | (go_simp; done) | (go_simp; rfl)); intro gb222 hg w14 hbox hb; have BK222 := Aside0.mk (hbox); have GW222 : Aside0 (w.heap.size ≤ gb222) := gw_ hg (below_size bl_); have GE222 := GW222; have NB217_222 := Aside0.mk ((by rw [hg]; exact Nat.ne_of_lt (blk_lt (g := gb217) (o := .cells #[.slice Ao11 t213.length co11] 31 (0, 0)) bk_) : gb217 ≠ gb222)); have NB222_217 := Aside0.mk ((by rw [hg]; exact Nat.ne_of_gt (blk_lt (g := gb217) (o := .cells #[.slice Ao11 t213.length co11] 31 (0, 0)) bk_) : gb222 ≠ gb217)); replace HO215 := Aside0.mk (Kd.V_below (Kd.V_elderB (pV_ HO215.out) gb222 (Nat.le_of_eq hg.symm)) hb); replace HO220 := Aside0.mk (Kd.V_below (Kd.V_elderB (pV_ HO220.out) gb222 (Nat.le_of_eq hg.symm)) hb); replace BK217 := Aside0.mk (blk_below (g := gb217) (o := .cells #[.slice Ao11 t213.length co11] 31 (0, 0)) bk_ hb); replace HB := Aside0.mk (below_step bl_ hb); clear hb hbox hg; obtain ⟨Ao15, co15, eo15⟩ := Kd.V_slice HO220.out; subst eo15; have hnb16 := NB222_217.out; have hnc16 := NB217_222.out; obtain ⟨hcz17_0, hfz17_0⟩ := cf1_ BK222.out; obtain ⟨hcz18_0, hfz18_0⟩ := cf1_ BK217.out) | (go_at_call 20; (with_reducible refine (exactpplref19_Same.calls k _ _ t213 _ _ t218 true _ ?side1 ?side2 ?side3 ?side4 A5.out).mono ?_); (case side1 => refine (Kd.V_reads' (e := 60) (base := w.heap.size) (ok := fun k_ => ((True ∧ k_ ≠ gb217) ∧ k_ ≠ gb222)) (n := t213.length) (c := co11) ?_).2.2; exact (by (with_reducible repeat (first | apply Kd.V_alloc | apply Kd.V_drewN | apply Kd.V_drew)); exact (Kd.V_mono (Kd.V_far (p := ⟨gb222, 0, none⟩) (Kd.V_mono HO215.out (fun k_ hk => (⟨hk, by first | exact hk.2 | exact hk.1 | exact hk.2 | exact hk.1.1 | exact hk.1.2⟩ : _ ∧ k_ ≠ gb222))) (fun _ hk => hk.2) (.slice Ao15 t218.length co15)) (fun _ h_ => h_.1)))); (case side2 => exact (Kd.V_reads' HO215.out).2.1); (case side3 => refine (Kd.V_reads' (e := 60) (base := w.heap.size) (ok := fun k_ => (k_ ≠ gb217 ∧ k_ ≠ gb222)) (n := t218.length) (c := co15) ?_).2.2; exact (by (with_reducible repeat (first | apply Kd.V_alloc | apply Kd.V_drewN | apply Kd.V_drew)); exact (Kd.V_mono (Kd.V_far (p := ⟨gb222, 0, none⟩) (Kd.V_mono HO220.out (fun k_ hk => (⟨hk, by first | exact hk.2 | exact hk.1 | exact hk.2 | exact hk.1.1 | exact hk.1.2⟩ : _ ∧ k_ ≠ gb222))) (fun _ hk => hk.2) (.slice Ao15 t218.length co15)) (fun _ h_ => h_.1)))); (case side4 => exact (Kd.V_reads' HO220.out).2.1); rintro e w19 ⟨rfl, hb⟩; replace HO215 := Aside0.mk (Kd.V_below (by (with_reducible repeat (first | apply Kd.V_alloc | apply Kd.V_drewN | apply Kd.V_drew)); exact (Kd.V_mono (Kd.V_far (p := ⟨gb222, 0, none⟩) (Kd.V_mono HO215.out (fun k_ hk => (⟨hk, by first | exact hk.2 | exact hk.1 | exact hk.2 | exact hk.1.1 | exact hk.1.2⟩ : _ ∧ k_ ≠ gb222))) (fun _ hk => hk.2) (.slice Ao15 t218.length co15)) (fun _ h_ => h_.1))) hb); replace HO220 := Aside0.mk (Kd.V_below (by (with_reducible repeat (first | apply Kd.V_alloc | apply Kd.V_drewN | apply Kd.V_drew)); exact (Kd.V_mono (Kd.V_far (p := ⟨gb222, 0, none⟩) (Kd.V_mono HO220.out (fun k_ hk => (⟨hk, by first | exact hk.2 | exact hk.1 | exact hk.2 | exact hk.1.1 | exact hk.1.2⟩ : _ ∧ k_ ≠ gb222))) (fun _ hk => hk.2) (.slice Ao15 t218.length co15)) (fun _ h_ => h_.1))) hb); replace BK217 := Aside0.mk (blk_below (g := gb217) (o := .cells #[.slice Ao11 t213.length co11] 31 (0, 0)) (by (with_reducible repeat (first | refine blk_drewN ?_ _ | refine blk_drew ?_ | refine blk_alloc ?_ _)); refine blk_far ?_ NB217_222.out _; (with_reducible repeat (first | refine blk_drewN ?_ _ | refine blk_drew ?_ | refine blk_alloc ?_ _)); exact BK217.out) hb); replace BK222 := Aside0.mk (blk_below (g := gb222) (o := .cells #[.slice Ao15 t218.length co15] 31 (0, 0)) (by (with_reducible repeat (first | refine blk_drewN ?_ _ | refine blk_drew ?_ | refine blk_alloc ?_ _)); refine blk_put (cs := #[.slice none 0 0]) ?_ 0 _ rfl; (with_reducible repeat (first | refine blk_drewN ?_ _ | refine blk_drew ?_ | refine blk_alloc ?_ _)); exact BK222.out) hb); replace HB := Aside0.mk (below_step bl_ hb); (try clear hb); (try clear hb2); (try clear hk); (try clear hi)) | (go_at_call 21; (with_reducible refine (diagram_Validate.calls _ _ l0 t224 _ ?side1 ?side2 A7.out ?tab).mono ?_); (case tab => exact ptab HTAB.out bl_); (case side1 => repeat (first | exact (Kd.C_below HR0.out HB.out) | (with_reducible refine Kd.C_alloc ?_ _) | (with_reducible refine Kd.C_drewN ?_ _) | (with_reducible refine Kd.C_drew ?_))); (case side2 => exact HC0.out); rintro e w20 ⟨rfl, hb⟩; replace HO215 := Aside0.mk (Kd.V_below (pV_ HO215.out) hb); replace HO220 := Aside0.mk (Kd.V_below (pV_ HO220.out) hb); replace BK217 := Aside0.mk (blk_below (g := gb217) (o := .cells #[.slice Ao11 t213.length co11] 31 (0, 0)) bk_ hb); replace BK222 := Aside0.mk (blk_below (g := gb222) (o := .cells #[.slice Ao15 t218.length co15] 31 (0, 0)) bk_ hb); replace HB := Aside0.mk (below_step bl_ hb); (try clear hb); (try clear hb2); (try clear hk); (try clear hi)) | (go_at_call 44; (with_reducible refine (exactpplref19_Validate.calls k _ _ l0 t225 _ ?side1 ?side2 A8.out).mono ?_); (case side1 => repeat (first | exact (Kd.C_below HR0.out HB.out) | (with_reducible refine Kd.C_alloc ?_ _) | (with_reducible refine Kd.C_drewN ?_ _) | (with_reducible refine Kd.C_drew ?_))); (case side2 => exact HC0.out); rintro e w21 ⟨rfl, hb⟩; replace HO215 := Aside0.mk (Kd.V_below (pV_ HO215.out) hb); replace HO220 := Aside0.mk (Kd.V_below (pV_ HO220.out) hb); replace BK217 := Aside0.mk (blk_below (g := gb217) (o := .cells #[.slice Ao11 t213.length co11] 31 (0, 0)) bk_ hb); replace BK222 := Aside0.mk (blk_below (g := gb222) (o := .cells #[.slice Ao15 t218.length co15] 31 (0, 0)) bk_ hb); replace HB := Aside0.mk (below_step bl_ hb); (try clear hb); (try clear hb2); (try clear hk); (try clear hi)))
   go_ret
   exact ⟨re_, bl_⟩
  ·replace c6 := Bool.eq_false_iff.mpr c6
   subst c6
   have H1 : (some false) = some r := by rw [if_neg (show ¬ (false = true) by decide)] at H; exact H
   clear H
   have H := H1
   clear H1
   obtain rfl := Option.some.inj H
   go_enter Tryd.func14, Tryd.ntmps14
   go_wp2_with (first | ((with_reducible refine gate_callee (f := 19) rfl ?_); refine goesL_ (some 9) rfl rfl Tryd.func19 (by kernel_rfl) rfl #[.slice A0 l0.length c0] rfl (by (try simp only [List.map_toArray, List.map_cons, List.map_nil]); first | done | rfl | (simp only [List.length_drop, List.length_take]; rfl)) ?_; (with_reducible refine (diagram_Reduce.calls _ _ l0 t213 t216 _ ?side1 ?side2 A2.out ?tab).mono ?_); (case tab => exact ptab HTAB.out bl_); (case side1 => repeat (first | exact HR0.out | (with_reducible refine Kd.C_alloc ?_ _) | (with_reducible refine Kd.C_drewN ?_ _) | (with_reducible refine Kd.C_drew ?_))); (case side2 => exact HC0.out); rintro e w22 ⟨v214, rfl, ho0, hb⟩; refine ⟨_, rfl, ?_⟩; have HO215 := Aside0.mk (Kd.V_lower (Kd.V_mono (ok' := fun k_ => True) ho0 (fun k_ hk_ => trivial)) (below_size bl_)); replace HB := Aside0.mk (below_step bl_ hb); (try clear hb); (try clear hb2); (try clear hk); (try clear hi); (try clear ho0)) | ((with_reducible refine gate_dst (N := 3) rfl ?_); refine box_event ?hg (N := 3) ?hd (cs := #[.slice none 0 0]) (t := 31) ?hr ?_; (case hd => rfl); (case hg => rfl); (case hr => first | (go_simp; done) | (go_simp; rfl)); intro gb217 hg w23 hbox hb; have BK217 := Aside0.mk (hbox); have GW217 : Aside0 (w.heap.size ≤ gb217) := gw_ hg (below_size bl_); have GE217 := GW217; replace HO215 := Aside0.mk (Kd.V_below (Kd.V_elderB (pV_ HO215.out) gb217 (Nat.le_of_eq hg.symm)) hb); replace HB := Aside0.mk (below_step bl_ hb); clear hb hbox hg; obtain ⟨Ao24, co24, eo24⟩ := Kd.V_slice HO215.out; subst eo24; obtain ⟨hcz25_0, hfz25_0⟩ := cf1_ BK217.out) | ((with_reducible refine gate_callee (f := 43) rfl ?_); refine goesL_ (some 14) rfl rfl Tryd.func43 (by kernel_rfl) rfl #[.slice A0 l0.length c0] rfl (by (try simp only [List.map_toArray, List.map_cons, List.map_nil]); first | done | rfl | (simp only [List.length_drop, List.length_take]; rfl)) ?_; (with_reducible refine (exactpplref19_Reduce.calls k _ _ l0 t218 t221 _ ?side1 ?side2 A3.out).mono ?_); (case side1 => exact Kd.C_below HR0.out bl_); (case side2 => exact HC0.out); rintro e w26 ⟨v219, rfl, ho0, hb⟩; refine ⟨_, rfl, ?_⟩; have HO220 := Aside0.mk (Kd.V_lower (Kd.V_mono (ok' := fun k_ => k_ ≠ gb217) ho0 (fun k_ hk_ => (Kd.freshB (g := gb217) (o := .cells #[.slice Ao24 t213.length co24] 31 (0, 0)) (by (with_reducible repeat (first | refine blk_drewN ?_ _ | refine blk_drew ?_ | refine blk_alloc ?_ _)); refine blk_put (cs := #[.slice none 0 0]) ?_ 0 _ rfl; (with_reducible repeat (first | refine blk_drewN ?_ _ | refine blk_drew ?_ | refine blk_alloc ?_ _)); exact BK217.out) k_ hk_))) (below_size bl_)); replace HO215 := Aside0.mk (Kd.V_below (by (with_reducible repeat (first | apply Kd.V_alloc | apply Kd.V_drewN | apply Kd.V_drew)); exact (Kd.V_mono (Kd.V_far (p := ⟨gb217, 0, none⟩) (Kd.V_mono HO215.out (fun k_ hk => (⟨hk, by first | exact hk.2 | exact hk.1 | exact hk.2 | exact hk.1.1 | exact hk.1.2⟩ : _ ∧ k_ ≠ gb217))) (fun _ hk => hk.2) (.slice Ao24 t213.length co24)) (fun _ h_ => h_.1))) hb); replace BK217 := Aside0.mk (blk_below (g := gb217) (o := .cells #[.slice Ao24 t213.length co24] 31 (0, 0)) (by (with_reducible repeat (first | refine blk_drewN ?_ _ | refine blk_drew ?_ | refine blk_alloc ?_ _)); refine blk_put (cs := #[.slice none 0 0]) ?_ 0 _ rfl; (with_reducible repeat (first | refine blk_drewN ?_ _ | refine blk_drew ?_ | refine blk_alloc ?_ _)); exact BK217.out) hb); replace HB := Aside0.mk (below_step bl_ hb); (try clear hb); (try clear hb2); (try clear hk); (try clear hi); (try clear ho0)) | ((with_reducible refine gate_dst (N := 5) rfl ?_); refine box_event ?hg (N := 5) ?hd (cs := #[.slice none 0 0]) (t := 31) ?hr ?_; (case hd => rfl); (case hg => rfl); (case hr => first | (go_simp; done) | (go_simp; rfl)); intro gb222 hg w27 hbox hb; have BK222 := Aside0.mk (hbox); have GW222 : Aside0 (w.heap.size ≤ gb222) := gw_ hg (below_size bl_); have GE222 := GW222; have NB217_222 := Aside0.mk ((by rw [hg]; exact Nat.ne_of_lt (blk_lt (g := gb217) (o := .cells #[.slice Ao24 t213.length co24] 31 (0, 0)) bk_) : gb217 ≠ gb222)); have NB222_217 := Aside0.mk ((by rw [hg]; exact Nat.ne_of_gt (blk_lt (g := gb217) (o := .cells #[.slice Ao24 t213.length co24] 31 (0, 0)) bk_) : gb222 ≠ gb217)); replace HO215 := Aside0.mk (Kd.V_below (Kd.V_elderB (pV_ HO215.out) gb222 (Nat.le_of_eq hg.symm)) hb); replace HO220 := Aside0.mk (Kd.V_below (Kd.V_elderB (pV_ HO220.out) gb222 (Nat.le_of_eq hg.symm)) hb); replace BK217 := Aside0.mk (blk_below (g := gb217) (o := .cells #[.slice Ao24 t213.length co24] 31 (0, 0)) bk_ hb); replace HB := Aside0.mk (below_step bl_ hb); clear hb hbox hg; obtain ⟨Ao28, co28, eo28⟩ := Kd.V_slice HO220.out; subst eo28; have hnb29 := NB222_217.out; have hnc29 := NB217_222.out; obtain ⟨hcz30_0, hfz30_0⟩ := cf1_ BK222.out; obtain ⟨hcz31_0, hfz31_0⟩ := cf1_ BK217.out) | (go_at_call 20; (with_reducible refine (exactpplref19_Same.calls k _ _ t213 _ _ t218 false _ ?side1 ?side2 ?side3 ?side4 A5.out).mono ?_); (case side1 => refine (Kd.V_reads' (e := 60) (base := w.heap.size) (ok := fun k_ => ((True ∧ k_ ≠ gb217) ∧ k_ ≠ gb222)) (n := t213.length) (c := co24) ?_).2.2; exact (by (with_reducible repeat (first | apply Kd.V_alloc | apply Kd.V_drewN | apply Kd.V_drew)); exact (Kd.V_mono (Kd.V_far (p := ⟨gb222, 0, none⟩) (Kd.V_mono HO215.out (fun k_ hk => (⟨hk, by first | exact hk.2 | exact hk.1 | exact hk.2 | exact hk.1.1 | exact hk.1.2⟩ : _ ∧ k_ ≠ gb222))) (fun _ hk => hk.2) (.slice Ao28 t218.length co28)) (fun _ h_ => h_.1)))); (case side2 => exact (Kd.V_reads' HO215.out).2.1); (case side3 => refine (Kd.V_reads' (e := 60) (base := w.heap.size) (ok := fun k_ => (k_ ≠ gb217 ∧ k_ ≠ gb222)) (n := t218.length) (c := co28) ?_).2.2; exact (by (with_reducible repeat (first | apply Kd.V_alloc | apply Kd.V_drewN | apply Kd.V_drew)); exact (Kd.V_mono (Kd.V_far (p := ⟨gb222, 0, none⟩) (Kd.V_mono HO220.out (fun k_ hk => (⟨hk, by first | exact hk.2 | exact hk.1 | exact hk.2 | exact hk.1.1 | exact hk.1.2⟩ : _ ∧ k_ ≠ gb222))) (fun _ hk => hk.2) (.slice Ao28 t218.length co28)) (fun _ h_ => h_.1)))); (case side4 => exact (Kd.V_reads' HO220.out).2.1); rintro e w32 ⟨rfl, hb⟩; replace HO215 := Aside0.mk (Kd.V_below (by (with_reducible repeat (first | apply Kd.V_alloc | apply Kd.V_drewN | apply Kd.V_drew)); exact (Kd.V_mono (Kd.V_far (p := ⟨gb222, 0, none⟩) (Kd.V_mono HO215.out (fun k_ hk => (⟨hk, by first | exact hk.2 | exact hk.1 | exact hk.2 | exact hk.1.1 | exact hk.1.2⟩ : _ ∧ k_ ≠ gb222))) (fun _ hk => hk.2) (.slice Ao28 t218.length co28)) (fun _ h_ => h_.1))) hb); replace HO220 := Aside0.mk (Kd.V_below (by (with_reducible repeat (first | apply Kd.V_alloc | apply Kd.V_drewN | apply Kd.V_drew)); exact (Kd.V_mono (Kd.V_far (p := ⟨gb222, 0, none⟩) (Kd.V_mono HO220.out (fun k_ hk => (⟨hk, by first | exact hk.2 | exact hk.1 | exact hk.2 | exact hk.1.1 | exact hk.1.2⟩ : _ ∧ k_ ≠ gb222))) (fun _ hk => hk.2) (.slice Ao28 t218.length co28)) (fun _ h_ => h_.1))) hb); replace BK217 := Aside0.mk (blk_below (g := gb217) (o := .cells #[.slice Ao24 t213.length co24] 31 (0, 0)) (by (with_reducible repeat (first | refine blk_drewN ?_ _ | refine blk_drew ?_ | refine blk_alloc ?_ _)); refine blk_far ?_ NB217_222.out _; (with_reducible repeat (first | refine blk_drewN ?_ _ | refine blk_drew ?_ | refine blk_alloc ?_ _)); exact BK217.out) hb); replace BK222 := Aside0.mk (blk_below (g := gb222) (o := .cells #[.slice Ao28 t218.length co28] 31 (0, 0)) (by (with_reducible repeat (first | refine blk_drewN ?_ _ | refine blk_drew ?_ | refine blk_alloc ?_ _)); refine blk_put (cs := #[.slice none 0 0]) ?_ 0 _ rfl; (with_reducible repeat (first | refine blk_drewN ?_ _ | refine blk_drew ?_ | refine blk_alloc ?_ _)); exact BK222.out) hb); replace HB := Aside0.mk (below_step bl_ hb); (try clear hb); (try clear hb2); (try clear hk); (try clear hi)))
   go_ret
   exact ⟨re_, bl_⟩
 ·rw [if_neg c4] at H
  have c4b0 : (t216 == t221) = false := beq_eq_false_iff_ne.mpr c4
  have c4b1 : (t216 != t221) = true := bne_iff_ne.mpr c4
  obtain rfl := Option.some.inj H
  go_enter Tryd.func14, Tryd.ntmps14
  go_wp2_with (first | ((with_reducible refine gate_callee (f := 19) rfl ?_); refine goesL_ (some 9) rfl rfl Tryd.func19 (by kernel_rfl) rfl #[.slice A0 l0.length c0] rfl (by (try simp only [List.map_toArray, List.map_cons, List.map_nil]); first | done | rfl | (simp only [List.length_drop, List.length_take]; rfl)) ?_; (with_reducible refine (diagram_Reduce.calls _ _ l0 t213 t216 _ ?side1 ?side2 A2.out ?tab).mono ?_); (case tab => exact ptab HTAB.out bl_); (case side1 => repeat (first | exact HR0.out | (with_reducible refine Kd.C_alloc ?_ _) | (with_reducible refine Kd.C_drewN ?_ _) | (with_reducible refine Kd.C_drew ?_))); (case side2 => exact HC0.out); rintro e w33 ⟨v214, rfl, ho0, hb⟩; refine ⟨_, rfl, ?_⟩; have HO215 := Aside0.mk (Kd.V_lower (Kd.V_mono (ok' := fun k_ => True) ho0 (fun k_ hk_ => trivial)) (below_size bl_)); replace HB := Aside0.mk (below_step bl_ hb); (try clear hb); (try clear hb2); (try clear hk); (try clear hi); (try clear ho0)) | ((with_reducible refine gate_dst (N := 3) rfl ?_); refine box_event ?hg (N := 3) ?hd (cs := #[.slice none 0 0]) (t := 31) ?hr ?_; (case hd => rfl); (case hg => rfl); (case hr => first | (go_simp; done) | (go_simp; rfl)); intro gb217 hg w34 hbox hb; have BK217 := Aside0.mk (hbox); have GW217 : Aside0 (w.heap.size ≤ gb217) := gw_ hg (below_size bl_); have GE217 := GW217; replace HO215 := Aside0.mk (Kd.V_below (Kd.V_elderB (pV_ HO215.out) gb217 (Nat.le_of_eq hg.symm)) hb); replace HB := Aside0.mk (below_step bl_ hb); clear hb hbox hg; obtain ⟨Ao35, co35, eo35⟩ := Kd.V_slice HO215.out; subst eo35; obtain ⟨hcz36_0, hfz36_0⟩ := cf1_ BK217.out) | ((with_reducible refine gate_callee (f := 43) rfl ?_); refine goesL_ (some 14) rfl rfl Tryd.func43 (by kernel_rfl) rfl #[.slice A0 l0.length c0] rfl (by (try simp only [List.map_toArray, List.map_cons, List.map_nil]); first | done | rfl | (simp only [List.length_drop, List.length_take]; rfl)) ?_; (with_reducible refine (exactpplref19_Reduce.calls k _ _ l0 t218 t221 _ ?side1 ?side2 A3.out).mono ?_); (case side1 => exact Kd.C_below HR0.out bl_); (case side2 => exact HC0.out); rintro e w37 ⟨v219, rfl, ho0, hb⟩; refine ⟨_, rfl, ?_⟩; have HO220 := Aside0.mk (Kd.V_lower (Kd.V_mono (ok' := fun k_ => k_ ≠ gb217) ho0 (fun k_ hk_ => (Kd.freshB (g := gb217) (o := .cells #[.slice Ao35 t213.length co35] 31 (0, 0)) (by (with_reducible repeat (first | refine blk_drewN ?_ _ | refine blk_drew ?_ | refine blk_alloc ?_ _)); refine blk_put (cs := #[.slice none 0 0]) ?_ 0 _ rfl; (with_reducible repeat (first | refine blk_drewN ?_ _ | refine blk_drew ?_ | refine blk_alloc ?_ _)); exact BK217.out) k_ hk_))) (below_size bl_)); replace HO215 := Aside0.mk (Kd.V_below (by (with_reducible repeat (first | apply Kd.V_alloc | apply Kd.V_drewN | apply Kd.V_drew)); exact (Kd.V_mono (Kd.V_far (p := ⟨gb217, 0, none⟩) (Kd.V_mono HO215.out (fun k_ hk => (⟨hk, by first | exact hk.2 | exact hk.1 | exact hk.2 | exact hk.1.1 | exact hk.1.2⟩ : _ ∧ k_ ≠ gb217))) (fun _ hk => hk.2) (.slice Ao35 t213.length co35)) (fun _ h_ => h_.1))) hb); replace BK217 := Aside0.mk (blk_below (g := gb217) (o := .cells #[.slice Ao35 t213.length co35] 31 (0, 0)) (by (with_reducible repeat (first | refine blk_drewN ?_ _ | refine blk_drew ?_ | refine blk_alloc ?_ _)); refine blk_put (cs := #[.slice none 0 0]) ?_ 0 _ rfl; (with_reducible repeat (first | refine blk_drewN ?_ _ | refine blk_drew ?_ | refine blk_alloc ?_ _)); exact BK217.out) hb); replace HB := Aside0.mk (below_step bl_ hb); (try clear hb); (try clear hb2); (try clear hk); (try clear hi); (try clear ho0)) | ((with_reducible refine gate_dst (N := 5) rfl ?_); refine box_event ?hg (N := 5) ?hd (cs := #[.slice none 0 0]) (t := 31) ?hr ?_; (case hd => rfl); (case hg => rfl); (case hr => first | (go_simp; done) | (go_simp; rfl)); intro gb222 hg w38 hbox hb; have BK222 := Aside0.mk (hbox); have GW222 : Aside0 (w.heap.size ≤ gb222) := gw_ hg (below_size bl_); have GE222 := GW222; have NB217_222 := Aside0.mk ((by rw [hg]; exact Nat.ne_of_lt (blk_lt (g := gb217) (o := .cells #[.slice Ao35 t213.length co35] 31 (0, 0)) bk_) : gb217 ≠ gb222)); have NB222_217 := Aside0.mk ((by rw [hg]; exact Nat.ne_of_gt (blk_lt (g := gb217) (o := .cells #[.slice Ao35 t213.length co35] 31 (0, 0)) bk_) : gb222 ≠ gb217)); replace HO215 := Aside0.mk (Kd.V_below (Kd.V_elderB (pV_ HO215.out) gb222 (Nat.le_of_eq hg.symm)) hb); replace HO220 := Aside0.mk (Kd.V_below (Kd.V_elderB (pV_ HO220.out) gb222 (Nat.le_of_eq hg.symm)) hb); replace BK217 := Aside0.mk (blk_below (g := gb217) (o := .cells #[.slice Ao35 t213.length co35] 31 (0, 0)) bk_ hb); replace HB := Aside0.mk (below_step bl_ hb); clear hb hbox hg; obtain ⟨Ao39, co39, eo39⟩ := Kd.V_slice HO220.out; subst eo39; have hnb40 := NB222_217.out; have hnc40 := NB217_222.out; obtain ⟨hcz41_0, hfz41_0⟩ := cf1_ BK222.out))
  go_ret
  exact ⟨re_, bl_⟩

end Go.Proofs.YtopbjginpmdebaaDoor.K
-- reduces
namespace Go.Proofs.YtopbjginpmdebaaDoor.K
open Go.RowKit Go.Maps Go.Proofs.YtopbjginpmdebaaDoorW.PrintWords Go.Proofs.YtopbjginpmdebaaDoorW.PrintLast Go.Proofs.YtopbjginpmdebaaDoorW.PrintMore
set_option linter.unusedVariables false
set_option linter.unusedSimpArgs false
theorem reduces_f (l : List Nd) (h : ndOk l = true) (k : Nat) (hk : rnd l ≤ k) : exactppllaw19_reduces.f k l = some true := by
  have hl := redL_len l
  have hk' := hk
  unfold rnd at hk'
  unfold exactppllaw19_reduces.f diagram_Reduce.f
  rw [if_pos h, Option.bind_some, refReduce_f l h k hk, Option.bind_some, if_pos rfl, same_f _ _ (by show (redL l).length < _; omega) 1073741824 (by decide) (fun n hn => Nat.le_trans (redL_kids16 l n hn) (by decide)) k (by show (redL l).length + _ < _; omega), Option.bind_some, if_pos (by simp)]
  unfold diagram_Validate.f
  rw [if_pos h, Option.bind_some, refValidate_f l h k hk, Option.bind_some]
  simp
theorem wf_of {l : List Int} (h : ∀ x ∈ l, (Lit.int .i64 x).wf = true) : ∀ x ∈ l, -9223372036854775808 ≤ x ∧ x ≤ 9223372036854775807 := by
  intro x hx
  have h1 := h x hx
  have h2 : IntKind.i64.min ≤ x ∧ x ≤ 9223372036854775807 := by simpa [Lit.wf] using h1
  have h3 : IntKind.i64.min = -9223372036854775808 := by decide
  omega
end Go.Proofs.YtopbjginpmdebaaDoor.K
-- the shape of the diagrams that are made; Src.Diagram
namespace Go.Proofs.YtopbjginpmdebaaDoor.K
open Go.RowKit Go.Maps Go.Proofs.YtopbjginpmdebaaDoorW.PrintWords Go.Proofs.YtopbjginpmdebaaDoorW.PrintLast Go.Proofs.YtopbjginpmdebaaDoorW.PrintMore
set_option linter.unusedVariables false
set_option linter.unusedSimpArgs false
/-- the shape of what is made -/
def wd (s : Int) : Nat := (2 + s % 2).toNat
/-- how many nodes at most -/
def bnd : Nat → Nat
  | 0 => 1
  | n + 1 => 3 * bnd n + 1
theorem bnd_le : ∀ n, n ≤ 6 → bnd n ≤ 1093 := by
  intro n hn
  match n, hn with
  | 0, _ => decide
  | 1, _ => decide
  | 2, _ => decide
  | 3, _ => decide
  | 4, _ => decide
  | 5, _ => decide
  | 6, _ => decide
theorem bnd_mono (n : Nat) : bnd n ≤ bnd (n + 1) := by simp only [bnd]; omega
theorem bnd_pos (n : Nat) : 1 ≤ bnd n := by
  cases n with
  | zero => exact Nat.le_refl _
  | succ n => simp only [bnd]; omega
/-- a diagram that was made over the sites from lo to hi -/
structure Dg (lo hi : Int) (n : Nat) (r : List Nd) : Prop where
  gr : grB r = true
  shp : GrS wd r
  can : Can r
  len : r.length ≤ bnd n
  all : AllF (fun x => lo ≤ x ∧ x ≤ hi) r
theorem Dg.const {lo hi : Int} {n : Nat} (v : Int) (h : -1073741824 ≤ v ∧ v ≤ 1073741824) : Dg lo hi n [⟨-1, v, []⟩] := by
  have hs : GrS wd [⟨-1, v, []⟩] := ⟨fun i hi => by
    obtain rfl : i = 0 := by simp at hi; omega
    exact .inl (lf_iff.2 ⟨rfl, rfl, h.1, h.2⟩)⟩
  have hr : Red [⟨-1, v, []⟩] := ⟨fun i hi k hk => by
    obtain rfl : i = 0 := by simp at hi; omega
    simp [nth] at hk, by simp, by simp, by simp, by simp⟩
  refine ⟨hs.gr (by simp), hs, ⟨hr, by simp, ?_⟩, by simpa using bnd_pos n, ?_⟩
  · simp [expo, dfs, fin, upd, nth, mp]
  · intro n hn h0
    simp at hn
    subst hn
    simp at h0
theorem Dg.weaken {lo lo' hi : Int} {n m : Nat} {r : List Nd} (h : Dg lo hi n r) (h1 : lo' ≤ lo) (h2 : bnd n ≤ bnd m) : Dg lo' hi m r := ⟨h.gr, h.shp, h.can, Nat.le_trans h.len h2, fun x hx h0 => ⟨by have := (h.all x hx h0).1; omega, (h.all x hx h0).2⟩⟩
theorem sumL_le {m : Nat} : ∀ (ds : List S31), (∀ d ∈ ds, d.f0.length ≤ m) → sumL ds ≤ ds.length * m
  | [], _ => by simp [sumL]
  | d :: ds, h => by
    have h1 := h d List.mem_cons_self
    have h2 := sumL_le ds (fun e he => h e (List.mem_cons_of_mem _ he))
    simp only [sumL, List.map_cons, List.sum_cons, List.length_cons] at h2 ⊢
    rw [Nat.add_mul]; omega
theorem Dg.join {lo hi : Int} {n : Nat} {ds : List S31} (hd : ∀ d ∈ ds, Dg (lo + 1) hi n d.f0) (hl : ds.length = wd lo) (hlo : 0 ≤ lo ∧ lo ≤ hi) (hhi : hi ≤ 60) (hn : n ≤ 5) : exactpplref19_Join.f lo ds = some (jn lo ds) ∧ Dg lo hi (n + 1) (jn lo ds) := by
  have hw : wd lo = 2 ∨ wd lo = 3 := by unfold wd; omega
  have hne : ds ≠ [] := by intro e; rw [e] at hl; simp at hl; omega
  have hs := sumL_le ds (fun d hd' => (hd d hd').len)
  have hb := bnd_le n (by omega)
  have hs2 : sumL ds ≤ 3 * bnd n := Nat.le_trans hs (Nat.mul_le_mul_right _ (by omega))
  have hd1 : ∀ d ∈ ds, GrS wd d.f0 ∧ d.f0 ≠ [] ∧ AllF (fun x => lo < x) d.f0 := fun d hd' => ⟨(hd d hd').shp, gr_ne (hd d hd').gr, fun m hm h0 => by have := ((hd d hd').all m hm h0).1; omega⟩
  have hj := jn_ok hd1 ⟨hlo.1, by omega⟩ hne hl (by omega)
  have ht := jn_tb hd1 ⟨hlo.1, by omega⟩ hne hl (by omega)
  refine ⟨?_, ⟨hj.2.1, hj.1, hj.2.2.1, by simp only [bnd]; have := hj.2.2.2; omega, jn_all (fun d hd' m hm h0 => ⟨by have := ((hd d hd').all m hm h0).1; omega, ((hd d hd').all m hm h0).2⟩) ⟨Int.le_refl _, hlo.2⟩ ht.1.red.down ht.2.1⟩⟩
  unfold exactpplref19_Join.f
  rw [if_pos ⟨hlo.1, hne, by omega, by omega⟩, if_pos (List.all_eq_true.2 fun d hd' => (hd d hd').gr)]
/-- how a stretch of Diagram ends -/
def DgEnd (L : List Int) (st lo hi : Int) (n : Nat) (f : Nat → Option (List S60 × Int × Int)) : Prop := ∃ k r a', f k = some (r, a', st) ∧ Dg lo hi n r ∧ Src L a'
theorem diag_k {L : List Int} (st hi : Int) (hhi : hi ≤ 60) : ∀ (n : Nat), n ≤ 6 → ∀ (lo a : Int), 0 ≤ lo → hi - lo + 1 ≤ n → Src L a → DgEnd L st lo hi n fun k => exactpplmake_Src_Diagram.f k L a st lo hi := by
  intro n
  induction n with
  | zero =>
    intro hn lo a h0 h1 hS
    obtain ⟨x, a1, e1, hx, h2⟩ := range_f hS st (-2) 3 (by omega) (by omega) (by omega)
    refine ⟨1 + 1, [⟨-1, x, []⟩], a1, ?_, Dg.const x (by omega), h2⟩
    simp only [exactpplmake_Src_Diagram.f, exactpplmake_Src_Diagram.j0]
    rw [if_pos (by omega), if_pos trivial, e1, Option.bind_some, exactpplref19_Const.f, Option.bind_some]
  | succ n ih =>
    intro hn lo a h0 h1 hS
    by_cases hgt : lo > hi
    · obtain ⟨x, a1, e1, hx, h2⟩ := range_f hS st (-2) 3 (by omega) (by omega) (by omega)
      refine ⟨1 + 1, [⟨-1, x, []⟩], a1, ?_, Dg.const x (by omega), h2⟩
      simp only [exactpplmake_Src_Diagram.f, exactpplmake_Src_Diagram.j0]
      rw [if_pos (by omega), if_pos trivial, e1, Option.bind_some, exactpplref19_Const.f, Option.bind_some]
    · obtain ⟨y, a1, e1, hy, h2⟩ := n_f hS st 5 (by omega) (by omega)
      by_cases hy0 : y = 0
      · obtain ⟨x, a2, e2, hx, h3⟩ := range_f h2 st (-2) 3 (by omega) (by omega) (by omega)
        refine ⟨1 + 1, [⟨-1, x, []⟩], a2, ?_, Dg.const x (by omega), h3⟩
        simp only [exactpplmake_Src_Diagram.f, exactpplmake_Src_Diagram.j0]
        rw [if_neg hgt, e1, Option.bind_some]
        simp only
        rw [if_pos (by simpa using hy0), e2, Option.bind_some, exactpplref19_Const.f, Option.bind_some]
      · obtain ⟨z, a2, e2, hz, h3⟩ := n_f h2 st 4 (by omega) (by omega)
        by_cases hz0 : z = 0
        · obtain ⟨k, r, a', e, q1, q2⟩ := ih (by omega) (lo + 1) a2 (by omega) (by omega) h3
          refine ⟨k + 1 + 1, r, a', ?_, q1.weaken (by omega) (bnd_mono n), q2⟩
          simp only [exactpplmake_Src_Diagram.f, exactpplmake_Src_Diagram.j0]
          rw [if_neg hgt, e1, Option.bind_some]
          simp only
          rw [if_neg (by simpa using hy0), e2, Option.bind_some]
          simp only
          have e' : exactpplmake_Src_Diagram.f k L a2 st (lo + 1) hi = some (r, a', st) := e
          rw [if_pos hz0, w64_id (by omega) (by omega), e', Option.bind_some]
        · -- the kids, one by one
          have hw : wd lo = 2 ∨ wd lo = 3 := by unfold wd; omega
          have key : ∀ (c j : Nat) (a : Int) (ds : List S31), wd lo - j ≤ c → j ≤ wd lo → ds.length = j → (∀ d ∈ ds, Dg (lo + 1) hi n d.f0) → Src L a → DgEnd L st lo hi (n + 1) fun k => exactpplmake_Src_Diagram.l0 k lo hi ds (j : Int) L a st := by
            intro c
            induction c with
            | zero =>
              intro j a ds g1 g2 g3 g4 g5
              obtain ⟨j1, j2⟩ := Dg.join g4 (by omega) ⟨h0, by omega⟩ hhi (by omega)
              refine ⟨1, jn lo ds, a, ?_, j2, g5⟩
              simp only [exactpplmake_Src_Diagram.l0]
              rw [width_f lo h0 (by omega), Option.bind_some, if_neg (by unfold wd at g1; omega), j1, Option.bind_some]
            | succ c ihc =>
              intro j a ds g1 g2 g3 g4 g5
              by_cases hj : j < wd lo
              · obtain ⟨k1, r, a', e, q1, q2⟩ := ih (by omega) (lo + 1) a (by omega) (by omega) g5
                obtain ⟨k2, r2, a2', e2', q3, q4⟩ := ihc (j + 1) a' (ds ++ [⟨r⟩]) (by omega) (by omega) (by simp; omega) (fun d hd => (List.mem_append.1 hd).elim (g4 d) (fun e => by rw [List.mem_singleton.1 e]; exact q1)) q2
                refine ⟨k1 + k2 + 1, r2, a2', ?_, q3, q4⟩
                simp only [exactpplmake_Src_Diagram.l0]
                have e' : exactpplmake_Src_Diagram.f (k1 + k2) L a st (lo + 1) hi = some (r, a', st) := mono_le (f := fun k => exactpplmake_Src_Diagram.f k L a st (lo + 1) hi) (fun k => exactpplmake_Src_Diagram.mono L a st (lo + 1) hi k) (show k1 ≤ k1 + k2 by omega) e
                have e2'' := mono_le (f := fun k => exactpplmake_Src_Diagram.l0 k lo hi (ds ++ [⟨r⟩]) ((j + 1 : Nat) : Int) L a' st) (fun k => (exactpplmake_Src_Diagram.mono_l k).2.2 _ _ _ _ _ _ _) (show k2 ≤ k1 + k2 by omega) e2'
                rw [width_f lo h0 (by omega), Option.bind_some, if_pos (by unfold wd at hj; omega), w64_id (x := lo + 1) (by omega) (by omega)]
                rw [e', Option.bind_some]
                simp only
                rw [if_pos (by omega), w64_succ (by omega)]
                exact e2''
              · obtain ⟨j1, j2⟩ := Dg.join g4 (by omega) ⟨h0, by omega⟩ hhi (by omega)
                refine ⟨1, jn lo ds, a, ?_, j2, g5⟩
                simp only [exactpplmake_Src_Diagram.l0]
                rw [width_f lo h0 (by omega), Option.bind_some, if_neg (by unfold wd at hj; omega), j1, Option.bind_some]
          obtain ⟨k, r, a', e, q1, q2⟩ := key 3 0 a2 [] (by omega) (by omega) rfl (by simp) h3
          refine ⟨k + 1 + 1, r, a', ?_, q1, q2⟩
          simp only [exactpplmake_Src_Diagram.f, exactpplmake_Src_Diagram.j0]
          rw [if_neg hgt, e1, Option.bind_some]
          simp only
          rw [if_neg (by simpa using hy0), e2, Option.bind_some]
          simp only
          rw [if_neg hz0]
          exact e
theorem diag_f {L : List Int} {a : Int} (h : Src L a) (st lo hi : Int) (h0 : 0 ≤ lo) (h1 : hi ≤ 5) : ∃ K r a', (∀ k, K ≤ k → exactpplmake_Src_Diagram.f k L a st lo hi = some (r, a', st)) ∧ Dg lo hi 6 r ∧ Src L a' := by
  obtain ⟨k, r, a', e, q1, q2⟩ := diag_k (L := L) st hi (by omega) 6 (by omega) lo a h0 (by omega) h
  exact ⟨k, r, a', fun k' hk => mono_le (f := fun k => exactpplmake_Src_Diagram.f k L a st lo hi) (fun k => exactpplmake_Src_Diagram.mono L a st lo hi k) hk e, q1, q2⟩
theorem Dg.ok {lo hi : Int} {r : List Nd} (h : Dg lo hi 6 r) : ndOk r = true := gr_ok h.gr (by have := h.len; have := bnd_le 6 (by omega); omega)
theorem Dg.len' {lo hi : Int} {r : List Nd} (h : Dg lo hi 6 r) : r.length ≤ 1093 := Nat.le_trans h.len (bnd_le 6 (by omega))
end Go.Proofs.YtopbjginpmdebaaDoor.K
-- Branch's errors, as the reference states them
namespace Go.Proofs.YtopbjginpmdebaaDoor.K
open Go.RowKit Go.Maps Go.Proofs.YtopbjginpmdebaaDoorW.PrintWords Go.Proofs.YtopbjginpmdebaaDoorW.PrintLast Go.Proofs.YtopbjginpmdebaaDoorW.PrintMore
set_option linter.unusedVariables false
set_option linter.unusedSimpArgs false
/-- two nodes agree -/
def ag1 (n m : Nd) : Bool := decide (n.f0 ≠ -1 → n.f0 = m.f0 → n.f2.length = m.f2.length)
def agB (a b : List Nd) : Bool := a.all fun n => b.all fun m => ag1 n m
theorem agB_iff {a b : List Nd} : agB a b = true ↔ ∀ n ∈ a, ∀ m ∈ b, n.f0 ≠ -1 → n.f0 = m.f0 → n.f2.length = m.f2.length := by
  unfold agB ag1
  simp only [List.all_eq_true, decide_eq_true_eq]
theorem gr_f0 {l : List Nd} (h : grB l = true) {n : Nd} (hn : n ∈ l) : n.f0 = -1 ∨ 0 ≤ n.f0 := by
  obtain ⟨i, hi, rfl⟩ := mem_nth hn
  rcases gr_nd h hi with h1 | h1
  · exact .inl (lf_iff.1 h1).1
  · exact .inr (br_iff.1 h1).1.1
theorem gr_pw {l : List Nd} (h : grB l = true) : l.Pairwise (fun a b => 0 ≤ a.f0 → a.f0 = b.f0 → a.f2.length = b.f2.length) := by
  unfold grB at h
  rw [Bool.and_eq_true, Bool.and_eq_true, shp_iff] at h
  exact h.2.2.2
/-- the shapes agree exactly if each two diagrams do -/
theorem shK_iff {ds : List S31} (hg : ∀ d ∈ ds, grB d.f0 = true) : (shK ds).isSome = true ↔ ∀ i k : Nat, (hi : i < ds.length) → (hk : k < i) → agB ds[i].f0 (ds[k]'(by omega)).f0 = true := by
  unfold shK flatD
  rw [shp_iff, List.pairwise_flatten]
  constructor
  · rintro ⟨_, _, h⟩ i k hi hk
    rw [List.pairwise_map, List.pairwise_iff_getElem] at h
    rw [agB_iff]
    intro n hn m hm h0 he
    have := h k i (by omega) hi hk m hm n hn
    rcases gr_f0 (hg _ (List.getElem_mem hi)) hn with h1 | h1
    · exact absurd h1 h0
    · exact (this (by omega) he.symm).symm
  · intro h
    refine ⟨(fun n _ _ v hv => by cases hv), fun l hl => ?_, ?_⟩
    · obtain ⟨d, hd, rfl⟩ := List.mem_map.1 hl
      exact gr_pw (hg d hd)
    · rw [List.pairwise_map, List.pairwise_iff_getElem]
      intro k i hk hi hki m hm n hn h0 he
      have := agB_iff.1 (h i k hi hki) n hn m hm (by omega) he.symm
      exact this.symm

theorem agree_l1 (a b : List Nd) (hb : b.length < 4611686018427387904) (i : Nat) (hi : i < a.length) {r0 : Bool} (h0 : ∃ k, exactpplref19_Agree.l0 k (wrap64 ((i : Int) + 1)) a b = some r0) : ∀ (m j : Nat), b.length - j ≤ m → j ≤ b.length → ∃ k, exactpplref19_Agree.l1 k (i : Int) (j : Int) a b = some ((b.drop j).all (ag1 (nth a (i : Int))) && r0) := by
  intro m
  have hend : ∀ j : Nat, j = b.length → ∃ k, exactpplref19_Agree.l1 k (i : Int) (j : Int) a b = some ((b.drop j).all (ag1 (nth a (i : Int))) && r0) := by
    intro j e
    subst e
    obtain ⟨k, hk⟩ := h0
    refine ⟨k + 1, ?_⟩
    simp only [exactpplref19_Agree.l1]
    rw [if_neg (by omega), hk]
    simp
  induction m with
  | zero => intro j h1 h2; exact hend j (by omega)
  | succ m ih =>
    intro j h1 h2
    by_cases hj : j < b.length
    · obtain ⟨k, hk⟩ := ih (j + 1) (by omega) (by omega)
      refine ⟨k + 1, ?_⟩
      have hw : wrap64 ((j : Int) + 1) = ((j + 1 : Nat) : Int) := by unfold wrap64; omega
      simp only [exactpplref19_Agree.l1]
      rw [if_pos (by omega), if_pos (by omega), if_pos (by omega), rd_nth, rd_nth, exactpplref19_IsBranch.f, Option.bind_some, if_pos (show (0 : Int) ≤ (j : Int) by omega), hw, hk, List.drop_eq_getElem_cons hj, List.all_cons, ← nth_lt hj]
      unfold ag1
      by_cases c1 : (nth a (i : Int)).f0 = -1
      · rw [show ((nth a (i : Int)).f0 != -1) = false by simp [c1], if_neg (by decide)]
        simp [c1]
      · rw [show ((nth a (i : Int)).f0 != -1) = true by simp [c1], if_pos rfl]
        by_cases c2 : (nth a (i : Int)).f0 = (nth b (j : Int)).f0
        · rw [if_pos c2]
          by_cases c3 : (nth a (i : Int)).f2.length = (nth b (j : Int)).f2.length
          · rw [if_pos (by omega)]
            simp [c3]
          · rw [if_neg (by omega)]
            have : decide ((nth a (i : Int)).f0 ≠ -1 → (nth a (i : Int)).f0 = (nth b (j : Int)).f0 → (nth a (i : Int)).f2.length = (nth b (j : Int)).f2.length) = false := by
              rw [decide_eq_false_iff_not]; exact fun h => c3 (h c1 c2)
            rw [this]; rfl
        · rw [if_neg c2]
          simp [c2]
    · exact hend j (by omega)
theorem agree_f (a b : List Nd) (ha : a.length < 4611686018427387904) (hb : b.length < 4611686018427387904) : ∃ k, exactpplref19_Agree.f k a b = some (agB a b) := by
  have key : ∀ (m i : Nat), a.length - i ≤ m → i ≤ a.length → ∃ k, exactpplref19_Agree.l0 k (i : Int) a b = some (agB (a.drop i) b) := by
    intro m
    have hend : ∀ i : Nat, i = a.length → ∃ k, exactpplref19_Agree.l0 k (i : Int) a b = some (agB (a.drop i) b) := by
      intro i e
      subst e
      refine ⟨1, ?_⟩
      simp only [exactpplref19_Agree.l0]
      rw [if_neg (by omega)]
      simp [agB]
    induction m with
    | zero => intro i h1 h2; exact hend i (by omega)
    | succ m ih =>
      intro i h1 h2
      by_cases hi : i < a.length
      · have hw : wrap64 ((i : Int) + 1) = ((i + 1 : Nat) : Int) := by unfold wrap64; omega
        obtain ⟨k, hk⟩ := agree_l1 a b hb i hi (r0 := agB (a.drop (i + 1)) b) (by rw [hw]; exact ih (i + 1) (by omega) (by omega)) b.length 0 (by omega) (by omega)
        refine ⟨k + 1, ?_⟩
        simp only [exactpplref19_Agree.l0]
        rw [if_pos (by omega)]
        refine hk.trans ?_
        rw [List.drop_zero, List.drop_eq_getElem_cons hi, ← nth_lt hi]
        rfl
      · exact hend i (by omega)
  obtain ⟨k, hk⟩ := key a.length 0 (by omega) (by omega)
  exact ⟨k, hk⟩
/-- a child is as it is to be -/
def okF (site : Int) (ds : List S31) (i : Nat) : Prop := (∀ n ∈ (ds.getD i ⟨[]⟩).f0, n.f0 = -1 ∨ site < n.f0) ∧ ∀ k, k < i → agB (ds.getD i ⟨[]⟩).f0 (ds.getD k ⟨[]⟩).f0 = true
theorem rd31 (ds : List S31) (i : Nat) : rd_T31 ds (i : Int) = ds.getD i ⟨[]⟩ := by unfold rd_T31; rw [Int.toNat_natCast]; rfl
theorem getD_len (ds : List S31) (hl : ∀ d ∈ ds, d.f0.length < 4611686018427387904) (i : Nat) : (ds.getD i ⟨[]⟩).f0.length < 4611686018427387904 := by
  rw [List.getD_eq_getElem?_getD]
  by_cases hi : i < ds.length
  · rw [List.getElem?_eq_getElem hi]; exact hl _ (List.getElem_mem hi)
  · rw [List.getElem?_eq_none (by omega)]; simp
theorem br_l3 (site : Int) (ds : List S31) (hN : ds.length < 4611686018427387904) (hl : ∀ d ∈ ds, d.f0.length < 4611686018427387904) (i : Nat) (hi : i < ds.length) (P : Prop) {fin : List S60 × Int} (h1 : P → ∃ k, exactpplref19_Branch.l1 k site ds ((i + 1 : Nat) : Int) = some fin) (h2 : ¬ P → ∃ k, exactpplref19_Branch.l1 k site ds ((i + 1 : Nat) : Int) = some ([], 2)) : ∀ (m j : Nat), i - j ≤ m → j ≤ i →
    (P ∧ (∀ k, j ≤ k → k < i → agB (ds.getD i ⟨[]⟩).f0 (ds.getD k ⟨[]⟩).f0 = true) → ∃ k, exactpplref19_Branch.l3 k site ds (i : Int) (j : Int) = some fin) ∧
    (¬ (P ∧ (∀ k, j ≤ k → k < i → agB (ds.getD i ⟨[]⟩).f0 (ds.getD k ⟨[]⟩).f0 = true)) → ∃ k, exactpplref19_Branch.l3 k site ds (i : Int) (j : Int) = some ([], 2)) := by
  have hw : wrap64 ((i : Int) + 1) = ((i + 1 : Nat) : Int) := by unfold wrap64; omega
  have hend : ∀ r, (∃ k, exactpplref19_Branch.l1 k site ds ((i + 1 : Nat) : Int) = some r) → ∃ k, exactpplref19_Branch.l3 k site ds (i : Int) (i : Int) = some r := by
    rintro r ⟨k, hk⟩
    refine ⟨k + 1, ?_⟩
    simp only [exactpplref19_Branch.l3]
    rw [if_neg (by omega), hw]; exact hk
  intro m
  induction m with
  | zero =>
    intro j g1 g2
    obtain rfl : j = i := by omega
    exact ⟨fun h => hend _ (h1 h.1), fun h => hend _ (h2 fun hp => h ⟨hp, fun k q1 q2 => by omega⟩)⟩
  | succ m ih =>
    intro j g1 g2
    by_cases hj : j < i
    · have hwj : wrap64 ((j : Int) + 1) = ((j + 1 : Nat) : Int) := by unfold wrap64; omega
      obtain ⟨ka, hka⟩ := agree_f (ds.getD i ⟨[]⟩).f0 (ds.getD j ⟨[]⟩).f0 (getD_len ds hl i) (getD_len ds hl j)
      obtain ⟨ih1, ih2⟩ := ih (j + 1) (by omega) (by omega)
      have step : ∀ r, (∃ k, exactpplref19_Branch.l3 k site ds (i : Int) ((j + 1 : Nat) : Int) = some r) → agB (ds.getD i ⟨[]⟩).f0 (ds.getD j ⟨[]⟩).f0 = true → ∃ k, exactpplref19_Branch.l3 k site ds (i : Int) (j : Int) = some r := by
        rintro r ⟨k, hk⟩ ht
        refine ⟨ka + k + 1, ?_⟩
        simp only [exactpplref19_Branch.l3]
        rw [if_pos (by omega), if_pos (by omega), if_pos (by omega), if_pos (by omega), if_pos (by omega), rd31, rd31, mono_le (f := fun k => exactpplref19_Agree.f k (ds.getD i ⟨[]⟩).f0 (ds.getD j ⟨[]⟩).f0) (fun k => exactpplref19_Agree.mono _ _ k) (show ka ≤ ka + k by omega) hka, Option.bind_some, ht, if_pos rfl, hwj]
        exact mono_le (f := fun k => exactpplref19_Branch.l3 k site ds (i : Int) ((j + 1 : Nat) : Int)) (fun k => (exactpplref19_Branch.mono_l k).2.2.2.2 _ _ _ _) (show k ≤ ka + k by omega) hk
      by_cases ha : agB (ds.getD i ⟨[]⟩).f0 (ds.getD j ⟨[]⟩).f0 = true
      · refine ⟨fun h => step _ (ih1 ⟨h.1, fun k q1 q2 => h.2 k (by omega) q2⟩) ha, fun h => step _ (ih2 fun h' => h ⟨h'.1, fun k q1 q2 => ?_⟩) ha⟩
        rcases Nat.lt_or_ge j k with q3 | q3
        · exact h'.2 k (by omega) q2
        · obtain rfl : k = j := by omega
          exact ha
      · refine ⟨fun h => absurd (h.2 j (Nat.le_refl _) hj) ha, fun _ => ⟨ka + 1, ?_⟩⟩
        simp only [exactpplref19_Branch.l3]
        rw [if_pos (by omega), if_pos (by omega), if_pos (by omega), if_pos (by omega), if_pos (by omega), rd31, rd31, hka, Option.bind_some, if_neg ha]
    · obtain rfl : j = i := by omega
      exact ⟨fun h => hend _ (h1 h.1), fun h => hend _ (h2 fun hp => h ⟨hp, fun k q1 q2 => by omega⟩)⟩
theorem br_l2 (site : Int) (ds : List S31) (hl : ∀ d ∈ ds, d.f0.length < 4611686018427387904) (i : Nat) (hi : i < ds.length) (P : Prop) {fin : List S60 × Int} (h1 : P → ∃ k, exactpplref19_Branch.l3 k site ds (i : Int) 0 = some fin) (h2 : ¬ P → ∃ k, exactpplref19_Branch.l3 k site ds (i : Int) 0 = some ([], 2)) : ∀ (m j : Nat), (ds.getD i ⟨[]⟩).f0.length - j ≤ m → j ≤ (ds.getD i ⟨[]⟩).f0.length →
    (P ∧ (∀ n ∈ (ds.getD i ⟨[]⟩).f0.drop j, n.f0 = -1 ∨ site < n.f0) → ∃ k, exactpplref19_Branch.l2 k site ds (i : Int) (j : Int) = some fin) ∧
    (¬ (P ∧ (∀ n ∈ (ds.getD i ⟨[]⟩).f0.drop j, n.f0 = -1 ∨ site < n.f0)) → ∃ k, exactpplref19_Branch.l2 k site ds (i : Int) (j : Int) = some ([], 2)) := by
  have hgl := getD_len ds hl i
  have hend : ∀ r (j : Nat), j = (ds.getD i ⟨[]⟩).f0.length → (∃ k, exactpplref19_Branch.l3 k site ds (i : Int) 0 = some r) → ∃ k, exactpplref19_Branch.l2 k site ds (i : Int) (j : Int) = some r := by
    rintro r j e ⟨k, hk⟩
    refine ⟨k + 1, ?_⟩
    simp only [exactpplref19_Branch.l2]
    rw [if_pos (by omega), if_pos (by omega), rd31, if_neg (by omega)]; exact hk
  have hnil : ∀ j : Nat, j = (ds.getD i ⟨[]⟩).f0.length → ∀ n ∈ (ds.getD i ⟨[]⟩).f0.drop j, n.f0 = -1 ∨ site < n.f0 := by
    intro j e n hn
    rw [e, List.drop_length] at hn; cases hn
  intro m
  induction m with
  | zero =>
    intro j g1 g2
    exact ⟨fun h => hend _ j (by omega) (h1 h.1), fun h => hend _ j (by omega) (h2 fun hp => h ⟨hp, hnil j (by omega)⟩)⟩
  | succ m ih =>
    intro j g1 g2
    by_cases hj : j < (ds.getD i ⟨[]⟩).f0.length
    · have hwj : wrap64 ((j : Int) + 1) = ((j + 1 : Nat) : Int) := by unfold wrap64; omega
      obtain ⟨ih1, ih2⟩ := ih (j + 1) (by omega) (by omega)
      have hdrop := List.drop_eq_getElem_cons hj
      rw [← nth_lt hj] at hdrop
      rw [hdrop]
      simp only [List.forall_mem_cons]
      generalize hn : nth (ds.getD i ⟨[]⟩).f0 (j : Int) = n at hdrop ⊢
      have go : ∀ r, (n.f0 = -1 ∨ site < n.f0) → (∃ k, exactpplref19_Branch.l2 k site ds (i : Int) ((j + 1 : Nat) : Int) = some r) → ∃ k, exactpplref19_Branch.l2 k site ds (i : Int) (j : Int) = some r := by
        rintro r hc ⟨k, hk⟩
        refine ⟨k + 1, ?_⟩
        simp only [exactpplref19_Branch.l2]
        rw [if_pos (by omega), if_pos (by omega), rd31, if_pos (by omega), if_pos (by omega), rd_nth, hn, exactpplref19_IsBranch.f, Option.bind_some, hwj]
        by_cases c1 : n.f0 = -1
        · rw [show (n.f0 != -1) = false by simp [c1], if_neg (by decide)]; exact hk
        · rw [show (n.f0 != -1) = true by simp [c1], if_pos rfl, if_neg (by omega)]; exact hk
      by_cases hc : n.f0 = -1 ∨ site < n.f0
      · exact ⟨fun h => go _ hc (ih1 ⟨h.1, h.2.2⟩), fun h => go _ hc (ih2 fun h' => h ⟨h'.1, hc, h'.2⟩)⟩
      · refine ⟨fun h => absurd h.2.1 hc, fun _ => ⟨1, ?_⟩⟩
        simp only [exactpplref19_Branch.l2]
        rw [if_pos (by omega), if_pos (by omega), rd31, if_pos (by omega), if_pos (by omega), rd_nth, hn, exactpplref19_IsBranch.f, Option.bind_some, show (n.f0 != -1) = true by simp; omega, if_pos rfl, if_pos (by omega)]
    · exact ⟨fun h => hend _ j (by omega) (h1 h.1), fun h => hend _ j (by omega) (h2 fun hp => h ⟨hp, hnil j (by omega)⟩)⟩
/-- what Join and Fit make of them -/
def brFin (site : Int) (ds : List S31) : List S60 × Int := if (jn site ds).length ≤ 20000 then (jn site ds, 0) else ([], 9)
theorem br_l1 (site : Int) (ds : List S31) (hN : ds.length < 4611686018427387904) (hl : ∀ d ∈ ds, d.f0.length < 4611686018427387904) (hj : exactpplref19_Join.f site ds = some (jn site ds)) : ∀ (m i : Nat), ds.length - i ≤ m → i ≤ ds.length →
    ((∀ q, i ≤ q → q < ds.length → okF site ds q) → ∃ k, exactpplref19_Branch.l1 k site ds (i : Int) = some (brFin site ds)) ∧
    (¬ (∀ q, i ≤ q → q < ds.length → okF site ds q) → ∃ k, exactpplref19_Branch.l1 k site ds (i : Int) = some ([], 2)) := by
  have hend : ∃ k, exactpplref19_Branch.l1 k site ds (ds.length : Int) = some (brFin site ds) := by
    refine ⟨1, ?_⟩
    simp only [exactpplref19_Branch.l1]
    rw [if_neg (by omega), hj, Option.bind_some]
    unfold exactpplref19_Fit.f brFin
    by_cases h : (jn site ds).length ≤ 20000
    · rw [if_neg (by omega), if_pos h]; rfl
    · rw [if_pos (by omega), if_neg h]; rfl
  intro m
  induction m with
  | zero =>
    intro i g1 g2
    obtain rfl : i = ds.length := by omega
    exact ⟨fun _ => hend, fun h => absurd (fun q q1 q2 => by omega) h⟩
  | succ m ih =>
    intro i g1 g2
    by_cases hi : i < ds.length
    · obtain ⟨ih1, ih2⟩ := ih (i + 1) (by omega) (by omega)
      have k3 := br_l3 site ds hN hl i hi _ ih1 ih2 i 0 (by omega) (by omega)
      have k2 := br_l2 site ds hl i hi _ k3.1 k3.2 _ 0 (Nat.le_refl _) (by omega)
      have go : ∀ r, (∃ k, exactpplref19_Branch.l2 k site ds (i : Int) 0 = some r) → ∃ k, exactpplref19_Branch.l1 k site ds (i : Int) = some r := by
        rintro r ⟨k, hk⟩
        refine ⟨k + 1, ?_⟩
        simp only [exactpplref19_Branch.l1]
        rw [if_pos (by omega)]; exact hk
      rw [List.drop_zero] at k2
      refine ⟨fun h => go _ (k2.1 ⟨⟨fun q q1 q2 => h q (by omega) q2, fun k _ q2 => (h i (Nat.le_refl _) hi).2 k q2⟩, (h i (Nat.le_refl _) hi).1⟩), fun h => go _ (k2.2 fun h' => h fun q q1 q2 => ?_)⟩
      rcases Nat.lt_or_ge i q with q3 | q3
      · exact h'.1.1 q (by omega) q2
      · obtain rfl : q = i := by omega
        exact ⟨h'.2, fun k hk => h'.1.2 k (by omega) hk⟩
    · obtain rfl : i = ds.length := by omega
      exact ⟨fun _ => hend, fun h => absurd (fun q q1 q2 => by omega) h⟩
theorem okF_iff {site : Int} {ds : List S31} (hg : ∀ d ∈ ds, grB d.f0 = true) (hs : 0 ≤ site) : (∀ q, 0 ≤ q → q < ds.length → okF site ds q) ↔ ((shK ds).isSome = true ∧ lowB site (flatD ds) = true) := by
  rw [shK_iff hg]
  have hgd : ∀ i, (hi : i < ds.length) → ds.getD i ⟨[]⟩ = ds[i] := fun i hi => by rw [List.getD_eq_getElem?_getD, List.getElem?_eq_getElem hi]; rfl
  constructor
  · intro h
    refine ⟨fun i k hi hk => ?_, List.all_eq_true.2 fun n hn => decide_eq_true ?_⟩
    · have := (h i (by omega) hi).2 k hk
      rwa [hgd i hi, hgd k (by omega)] at this
    · obtain ⟨l, hl, hn⟩ := List.mem_flatten.1 hn
      obtain ⟨d, hd, rfl⟩ := List.mem_map.1 hl
      obtain ⟨i, hi, rfl⟩ := List.getElem_of_mem hd
      have := (h i (by omega) hi).1
      rw [hgd i hi] at this
      have := this n hn
      omega
  · rintro ⟨h1, h2⟩ q _ hq
    refine ⟨fun n hn => ?_, fun k hk => ?_⟩
    · rw [hgd q hq] at hn
      have := of_decide_eq_true (List.all_eq_true.1 h2 n (mem_flatD (List.getElem_mem hq) hn))
      rcases gr_f0 (hg _ (List.getElem_mem hq)) hn with h3 | h3
      · exact .inl h3
      · exact .inr (by omega)
    · rw [hgd q hq, hgd k (by omega)]
      exact h1 q k hq hk
theorem refBr_l0 (site : Int) (ds : List S31) (hN : ds.length < 4611686018427387904) (hok : ∀ d ∈ ds, ndOk d.f0 = true) {fin : List S60 × Int} (h1 : vdE ds = 0 → ∃ k, exactpplref19_Branch.l1 k site ds 0 = some fin) : ∀ (m i : Nat), ds.length - i ≤ m → i ≤ ds.length → vdE (ds.take i) = 0 → ∃ k, exactpplref19_Branch.l0 k site ds (i : Int) = some (if vdE ds = 0 then fin else ([], vdE ds)) := by
  intro m
  have hend : vdE ds = 0 → ∃ k, exactpplref19_Branch.l0 k site ds (ds.length : Int) = some (if vdE ds = 0 then fin else ([], vdE ds)) := by
    intro h0
    obtain ⟨k, hk⟩ := h1 h0
    refine ⟨k + 1, ?_⟩
    simp only [exactpplref19_Branch.l0]
    rw [if_neg (by omega), if_pos h0]; exact hk
  induction m with
  | zero =>
    intro i g1 g2 h0
    obtain rfl : i = ds.length := by omega
    rw [List.take_length] at h0
    exact hend h0
  | succ m ih =>
    intro i g1 g2 h0
    by_cases hi : i < ds.length
    · have hv := refValidate_f ds[i].f0 (hok _ (List.getElem_mem hi)) _ (Nat.le_refl _)
      have hgd : rd_T31 ds (i : Int) = ds[i] := by rw [rd31, List.getD_eq_getElem?_getD, List.getElem?_eq_getElem hi]; rfl
      have hwj : wrap64 ((i : Int) + 1) = ((i + 1 : Nat) : Int) := by unfold wrap64; omega
      by_cases hz : valE ds[i].f0 = 0
      · obtain ⟨k, hk⟩ := ih (i + 1) (by omega) (by omega) (by rw [List.take_succ_eq_append_getElem hi]; exact vdE_snoc _ _ h0 hz)
        refine ⟨rnd ds[i].f0 + k + 1, ?_⟩
        simp only [exactpplref19_Branch.l0]
        rw [if_pos (by omega), if_pos (by omega), hgd, refValidate_f ds[i].f0 (hok _ (List.getElem_mem hi)) _ (by omega), Option.bind_some, if_pos hz, hwj]
        exact mono_le (f := fun k => exactpplref19_Branch.l0 k site ds ((i + 1 : Nat) : Int)) (fun k => (exactpplref19_Branch.mono_l k).2.1 _ _ _) (by omega) hk
      · have he := vdE_take ds i hi h0 hz
        refine ⟨rnd ds[i].f0 + 1, ?_⟩
        simp only [exactpplref19_Branch.l0]
        rw [if_pos (by omega), if_pos (by omega), hgd, hv, Option.bind_some, if_neg hz, he, if_neg hz]
    · obtain rfl : i = ds.length := by omega
      rw [List.take_length] at h0
      exact hend h0
/-- the reference's Branch -/
theorem refBr_f (site : Int) (ds : List S31) (hok : ∀ d ∈ ds, ndOk d.f0 = true) (hsum : (sumL ds + 2) * 40 ≤ 140737488355328) (hN : ds.length < 1000000) : ∃ K, ∀ k, K ≤ k → exactpplref19_Branch.f k site ds = some (brL site ds, brE site ds) := by
  suffices h : ∃ k, exactpplref19_Branch.f k site ds = some (brL site ds, brE site ds) by
    obtain ⟨K, hK⟩ := h
    exact ⟨K, fun k hk => mono_le (f := fun k => exactpplref19_Branch.f k site ds) (fun k => exactpplref19_Branch.mono _ _ k) hk hK⟩
  have hl : ∀ d ∈ ds, d.f0.length < 4611686018427387904 := fun d hd => by have := ndOk_room (hok d hd); omega
  by_cases hr : rngB site ds.length = true
  · obtain ⟨q0, q1, q2, q3⟩ : 0 ≤ site ∧ site < 64 ∧ 1 ≤ ds.length ∧ ds.length ≤ 16 := of_decide_eq_true hr
    have hmain : ∃ k, exactpplref19_Branch.l0 k site ds 0 = some (brL site ds, brE site ds) := by
      by_cases h0 : vdE ds = 0
      · have hg : ∀ d ∈ ds, grB d.f0 = true := fun d hd => (val_ok (vdE_all h0 d hd)).1
        have hj : exactpplref19_Join.f site ds = some (jn site ds) := by
          unfold exactpplref19_Join.f
          rw [if_pos ⟨q0, by intro e; rw [e] at q2; simp at q2, by omega, hsum⟩, if_pos (List.all_eq_true.2 fun d hd => hg d hd)]
        have k1 := br_l1 site ds (by omega) hl hj ds.length 0 (by omega) (by omega)
        rw [okF_iff hg q0] at k1
        by_cases hf : (shK ds).isSome = true ∧ lowB site (flatD ds) = true
        · obtain ⟨k, hk⟩ := refBr_l0 site ds (by omega) hok (fun _ => k1.1 hf) ds.length 0 (by omega) (by omega) (by simp [vdE])
          refine ⟨k, hk.trans ?_⟩
          rw [if_pos h0]
          unfold brL brE brFin
          rw [if_pos hr, if_pos h0, if_pos hf.1, if_pos hf.2]
          by_cases hq : (jn site ds).length ≤ 20000
          · rw [if_pos hq, if_pos hq, if_pos rfl]
          · rw [if_neg hq, if_neg hq, if_neg (by decide)]
        · obtain ⟨k, hk⟩ := refBr_l0 site ds (by omega) hok (fun _ => k1.2 hf) ds.length 0 (by omega) (by omega) (by simp [vdE])
          refine ⟨k, hk.trans ?_⟩
          have he : brE site ds = 2 := by
            unfold brE
            rw [if_pos hr, if_pos h0]
            by_cases ha : (shK ds).isSome = true
            · rw [if_pos ha, if_neg (fun e => hf ⟨ha, e⟩)]
            · rw [if_neg ha]
          rw [if_pos h0]
          unfold brL
          rw [he, if_neg (by decide)]
      · obtain ⟨k, hk⟩ := refBr_l0 site ds (by omega) hok (fin := ([], 0)) (fun h => absurd h h0) ds.length 0 (by omega) (by omega) (by simp [vdE])
        refine ⟨k, hk.trans ?_⟩
        have he : brE site ds = vdE ds := by unfold brE; rw [if_pos hr, if_neg h0]
        rw [if_neg h0]
        unfold brL
        rw [he, if_neg h0]
    obtain ⟨k, hk⟩ := hmain
    refine ⟨k + 1, ?_⟩
    unfold exactpplref19_Branch.f
    rw [if_neg (by omega), if_neg (by omega), if_neg (by omega), decide_eq_false (by omega)]
    simp only [exactpplref19_Branch.j0]
    rw [if_neg (by decide)]; exact hk
  · have he : brE site ds = 1 := by unfold brE; rw [if_neg hr]
    have hL : brL site ds = [] := by unfold brL; rw [he, if_neg (by decide)]
    rw [he, hL]
    refine ⟨1, ?_⟩
    unfold exactpplref19_Branch.f
    have hr' : ¬ (0 ≤ site ∧ site < 64 ∧ 1 ≤ ds.length ∧ ds.length ≤ 16) := fun h => hr (decide_eq_true h)
    have hj : exactpplref19_Branch.j0 1 site ds true = some ([], 1) := by simp only [exactpplref19_Branch.j0]; rw [if_pos trivial]
    by_cases c1 : site < 0
    · rw [if_pos c1]; exact hj
    · rw [if_neg c1]
      by_cases c2 : site ≥ 64
      · rw [if_pos c2]; exact hj
      · rw [if_neg c2]
        by_cases c3 : (ds.length : Int) < 1
        · rw [if_pos c3]; exact hj
        · rw [if_neg c3, decide_eq_true (by omega)]; exact hj
end Go.Proofs.YtopbjginpmdebaaDoor.K
-- the plain law of DiagramBranches
namespace Go.Proofs.YtopbjginpmdebaaDoor.Pure
open Go.RowKit Go.Proofs.YtopbjginpmdebaaDoor.K Go.Proofs.YtopbjginpmdebaaDoorW.PrintWords Go.Proofs.YtopbjginpmdebaaDoorW.PrintLast
/-- children that are made -/
def Kd31 (ds : List S31) (m : Nat) : Prop := (∀ d ∈ ds, ndOk d.f0 = true ∧ d.f0.length ≤ 1100) ∧ ds.length ≤ m
theorem Kd31.snoc {ds : List S31} {m : Nat} (h : Kd31 ds m) {d : S31} (h1 : ndOk d.f0 = true) (h2 : d.f0.length ≤ 1100) : Kd31 (ds ++ [d]) (m + 1) :=
  ⟨fun e he => (List.mem_append.1 he).elim (h.1 e) (fun e' => by rw [List.mem_singleton.1 e']; exact ⟨h1, h2⟩), by simp; exact h.2⟩
theorem Kd31.sum {ds : List S31} {m : Nat} (h : Kd31 ds m) (hm : m ≤ 17) : sumL ds ≤ 18700 := by
  have h1 := sumL_le ds (fun d hd => (h.1 d hd).2)
  have h2 := h.2
  have h3 : ds.length * 1100 ≤ 17 * 1100 := Nat.mul_le_mul_right _ (by omega)
  omega
theorem br_j3 (site : Int) (ds : List S31) (hs : -9223372036854775808 ≤ site ∧ site ≤ 9223372036854775807) (h : Kd31 ds 17) : ∃ K, ∀ k, K ≤ k → exactppllaw19_DiagramBranches.j3 k site ds = some true := by
  have hsum := h.sum (Nat.le_refl _)
  have hl := h.2
  obtain ⟨K, hK⟩ := refBr_f site ds (fun d hd => (h.1 d hd).1) (by omega) (by omega)
  have hsm := brL_small site ds
  refine ⟨K + 2000000000 + 1, fun k hk => ?_⟩
  obtain ⟨k, rfl⟩ : ∃ k', k = k' + 1 := ⟨k - 1, by omega⟩
  simp only [exactppllaw19_DiagramBranches.j3]
  rw [diagram_Branch.f, if_pos (dsOk_iff.2 ⟨fun d hd => (h.1 d hd).1, hs.1, hs.2, by omega, by omega⟩), Option.bind_some, hK k (by omega), Option.bind_some, if_pos rfl]
  rw [same_f _ _ (by show (brL site ds).length < _; omega) 1073741824 (by decide) (fun n hn => Nat.le_trans (hsm.2 n hn) (by decide)) k (by show (brL site ds).length + _ < _; omega), Option.bind_some, if_pos (by simp)]
  rfl
theorem set_snoc {α : Type} (l : List α) (x z : α) (r : List α) : (l ++ z :: r).set l.length x = l ++ x :: r := by
  rw [List.set_append_right _ _ (Nat.le_refl _), Nat.sub_self]; rfl
/-- the children that are constants -/
theorem br_l1c (site : Int) (hs : -9223372036854775808 ≤ site ∧ site ≤ 9223372036854775807) (n : Nat) (hn : n ≤ 17) : ∀ (m j : Nat) (ds : List S31), n - j ≤ m → j ≤ n → Kd31 ds j → ds.length = j → ∃ K, ∀ k, K ≤ k → exactppllaw19_DiagramBranches.l1 k site (ds ++ List.replicate (n - j) z31) (j : Int) = some true := by
  intro m
  have hend : ∀ (ds : List S31), Kd31 ds n → ds.length = n → ∃ K, ∀ k, K ≤ k → exactppllaw19_DiagramBranches.l1 k site (ds ++ List.replicate (n - n) z31) (n : Int) = some true := by
    intro ds h1 h2
    obtain ⟨K, hK⟩ := br_j3 site ds hs ⟨h1.1, by have := h1.2; omega⟩
    refine ⟨K + 1, fun k hk => ?_⟩
    obtain ⟨k, rfl⟩ : ∃ k', k = k' + 1 := ⟨k - 1, by omega⟩
    simp only [exactppllaw19_DiagramBranches.l1]
    rw [Nat.sub_self, List.replicate_zero, List.append_nil, if_neg (by omega)]
    exact hK k (by omega)
  induction m with
  | zero =>
    intro j ds h1 h2 h3 h4
    obtain rfl : j = n := by omega
    exact hend ds h3 h4
  | succ m ih =>
    intro j ds h1 h2 h3 h4
    by_cases hj : j < n
    · have hc : ndOk ([⟨-1, (j : Int), []⟩] : List Nd) = true := by
        unfold ndOk
        simp
        omega
      obtain ⟨K, hK⟩ := ih (j + 1) (ds ++ [⟨[⟨-1, (j : Int), []⟩]⟩]) (by omega) (by omega) (h3.snoc hc (by simp)) (by simp; omega)
      refine ⟨K + 1, fun k hk => ?_⟩
      obtain ⟨k, rfl⟩ : ∃ k', k = k' + 1 := ⟨k - 1, by omega⟩
      have e : n - j = (n - (j + 1)) + 1 := by omega
      simp only [exactppllaw19_DiagramBranches.l1]
      rw [if_pos (by simp; omega), exactpplref19_Const.f, Option.bind_some, if_pos (by omega), w64_succ (by omega), Int.toNat_natCast, e, List.replicate_succ, ← h4, set_snoc]
      have := hK k (by omega)
      rw [← h4, List.append_assoc] at this
      exact this
    · obtain rfl : j = n := by omega
      exact hend ds h3 h4
theorem br_l0 (site : Int) (hs : -9223372036854775808 ≤ site ∧ site ≤ 9223372036854775807) {L : List Int} : ∀ (c : Nat) (a : Int) (ds : List S31), Kd31 ds (5 - c) → c ≤ 5 → Src L a → ∃ K, ∀ k, K ≤ k → exactppllaw19_DiagramBranches.l0 k site ds (c : Int) L a 0 = some true := by
  intro c
  induction c with
  | zero =>
    intro a ds h hc hS
    obtain ⟨x, a1, e1, hx, h1⟩ := n_f hS 0 12 (by omega) (by omega)
    obtain ⟨y, a2, e2, hy, h2⟩ := pick_f h1 0 [0, 16, 17] (by simp) (by simp)
    obtain ⟨K1, hK1⟩ := br_j3 site ds hs ⟨h.1, by have := h.2; omega⟩
    have hy0 : 0 ≤ y ∧ y ≤ 17 := by simp at hy; omega
    obtain ⟨K2, hK2⟩ := br_l1c site hs y.toNat (by omega) y.toNat 0 [] (by omega) (by omega) ⟨by simp, by simp⟩ rfl
    refine ⟨K1 + K2 + 1, fun k hk => ?_⟩
    obtain ⟨k, rfl⟩ : ∃ k', k = k' + 1 := ⟨k - 1, by omega⟩
    simp only [exactppllaw19_DiagramBranches.l0]
    rw [if_neg (by omega), e1, Option.bind_some]
    simp only
    by_cases h0 : x = 0
    · rw [if_pos h0, e2, Option.bind_some]
      simp only
      rw [if_pos hy0.1, if_pos (by omega)]
      exact hK2 k (by omega)
    · rw [if_neg h0]
      exact hK1 k (by omega)
  | succ c ih =>
    intro a ds h hc hS
    obtain ⟨x, a1, e1, hx, h1⟩ := n_f hS 0 3 (by omega) (by omega)
    obtain ⟨K1, d, a2, e2, hd, h2⟩ := diag_f h1 0 x 3 (by omega) (by omega)
    obtain ⟨y, a3, e3, hy, h3⟩ := n_f h2 0 9 (by omega) (by omega)
    obtain ⟨K2, r, a4, e4, g1, g2, h4⟩ := nodes_f h3 0
    have hok := NdG.ok g1 (by omega)
    have hdl := hd.len'
    have e5 : 5 - c = 5 - (c + 1) + 1 := by omega
    obtain ⟨K3, hK3⟩ := ih a4 (ds ++ [⟨r⟩]) (by rw [e5]; exact h.snoc hok (by show r.length ≤ _; omega)) (by omega) h4
    obtain ⟨K4, hK4⟩ := ih a3 (ds ++ [⟨d⟩]) (by rw [e5]; exact h.snoc hd.ok (by show d.length ≤ _; omega)) (by omega) h3
    have hdsl := h.2
    refine ⟨K1 + K2 + K3 + K4 + 1, fun k hk => ?_⟩
    obtain ⟨k, rfl⟩ : ∃ k', k = k' + 1 := ⟨k - 1, by omega⟩
    have hw : wrap64 (((c + 1 : Nat) : Int) - 1) = (c : Int) := by unfold wrap64; omega
    simp only [exactppllaw19_DiagramBranches.l0]
    rw [if_pos (by omega), e1, Option.bind_some]
    simp only
    rw [e2 k (by omega), Option.bind_some]
    simp only
    rw [e3, Option.bind_some]
    simp only
    by_cases h0 : y = 0
    · rw [if_pos h0, e4 k (by omega), Option.bind_some]
      simp only
      rw [if_pos (by omega), hw]
      exact hK3 k (by omega)
    · rw [if_neg h0, if_pos (by omega), hw]
      exact hK4 k (by omega)
theorem DiagramBranches : exactppllaw19_DiagramBranches.Pure := by
  intro l site _ _ hw hws
  obtain ⟨L, e1, h1⟩ := new_f l (wf_of hw)
  obtain ⟨x, a1, e2, hx, h2⟩ := n_f h1 0 3 (by omega) (by omega)
  obtain ⟨s2, a2, e3, hs2, h3⟩ := range_f h2 0 (-1) 3 (by omega) (by omega) (by omega)
  have hsw := wf_of (l := [site]) (by simpa using hws) site (by simp)
  have hj0 : ∀ (s a : Int), (-9223372036854775808 ≤ s ∧ s ≤ 9223372036854775807) → Src L a → ∃ k, exactppllaw19_DiagramBranches.j0 k s L a 0 = some true := by
    intro s a hs hS
    obtain ⟨n, a3, e4, hn, h4⟩ := n_f hS 0 5 (by omega) (by omega)
    obtain ⟨m, rfl⟩ : ∃ m : Nat, n = m := ⟨n.toNat, by omega⟩
    obtain ⟨K, hK⟩ := br_l0 s hs m a3 [] ⟨by simp, by simp⟩ (by omega) h4
    refine ⟨K + 1, ?_⟩
    simp only [exactppllaw19_DiagramBranches.j0]
    rw [e4, Option.bind_some]
    exact hK K (Nat.le_refl _)
  by_cases h0 : x > 0
  · obtain ⟨k, hk⟩ := hj0 s2 a2 (by omega) h3
    refine ⟨k, ?_⟩
    unfold exactppllaw19_DiagramBranches.f
    rw [e1, Option.bind_some]
    simp only
    rw [e2, Option.bind_some]
    simp only
    rw [if_pos h0, e3, Option.bind_some]
    exact hk
  · obtain ⟨k, hk⟩ := hj0 site a1 hsw h2
    refine ⟨k, ?_⟩
    unfold exactppllaw19_DiagramBranches.f
    rw [e1, Option.bind_some]
    simp only
    rw [e2, Option.bind_some]
    simp only
    rw [if_neg h0]
    exact hk
end Go.Proofs.YtopbjginpmdebaaDoor.Pure
namespace Go.Proofs.YtopbjginpmdebaaDoorW.PrintWords
open Go.ChangeShapes Go.WideShapes
theorem sized_ints {H : Type} {enc : TypeId × Value → H} {P : Program} {W : World} {base : Nat} {spare : Nat → Bool} {held : Bool} {t e : TypeId} {k : IntKind} {a : Option Addr} {len cap : Nat} {d : DataW H} {ps : List MemPlace} {ts : List TypeId} {ds : List (DataW H)} {j : Nat}
    (hsz : (DataW.weightsEach P ts ds).all (· ≤ reachBytes) = true) (ht : ts[j]? = some t) (hd : ds[j]? = some d) (hu : P.underlying t = some (.slice e)) (he : P.underlying e = some (.int k)) (hc : P.cellsOf e = 1) {B : Nat} (hB : P.bytesOf e = B)
    (h : DataW.Trod enc P W base spare held t (.slice a len cap) d ps) : len * B ≤ 140737488351232 := by
  obtain ⟨fuel, hf⟩ := h
  rcases open_ints hu he hc hf with ⟨hcs, _⟩ | ⟨x, l, c, zs, hcs, _, hl, _, hz, hx, _, _⟩
  · simp [Value.cells] at hcs
    obtain ⟨rfl, rfl, rfl⟩ := hcs
    simp
  · simp [Value.cells] at hcs
    obtain ⟨rfl, rfl, rfl⟩ := hcs
    obtain ⟨hx, _⟩ := Prod.mk.inj hx
    subst hx
    have z := sized_slice hsz ht hd hu
    rw [hB] at z
    have hl2 : len ≤ zs.length := by
      rw [hz]
      split
      · exact hl
      · exact Nat.le_refl _
    have h1 : (lits (H := H) k (zs.take len)).length + (lits (H := H) k (zs.drop len)).length = zs.length := by
      simp [lits]
      omega
    rw [h1] at z
    exact Nat.le_trans (Nat.mul_le_mul_right _ hl2) z
end Go.Proofs.YtopbjginpmdebaaDoorW.PrintWords
