/- Lemmas for: Proved: the tied card of exactppllaw19.DiagramExpands (for every input the law returns true). Conditions: none beyond the given row. -/
import Derived.Lib.RowBridge
import Derived.Shelf.Slices.In.SortNone
import Derived.StillTailTactics
import Derived.Test.YtopbjginpmdebaaDoorEx2
import Derived.Test.YtopbjginpmdebaaDoorEx3
import Derived.Test.YtopbjginpmdebaaDoorEx4
-- rows of numbers that are sorted and compacted in place; ascending lists
namespace Go.Proofs.YtopbjginpmdebaaDoor.K
open Go.RowKit Go.Maps Go.Proofs.YtopbjginpmdebaaDoorW.PrintWords Go.Proofs.YtopbjginpmdebaaDoorW.PrintLast Go.Proofs.YtopbjginpmdebaaDoorW.PrintMore
set_option linter.unusedVariables false
set_option linter.unusedSimpArgs false
/-- what a sort or a compaction in place leaves of the heap -/
theorem put_heap (W : World) (g q : Nat) (ys : List Int) (os : Array Obj) : (∀ k, k < W.heap.size → k ≠ g → (Sort.grow (Sort.putRow (Value.int .i64) (Sort.ahead W q) g 0 ys.toArray) os).heap[k]? = W.heap[k]?) ∧ W.heap.size ≤ (Sort.grow (Sort.putRow (Value.int .i64) (Sort.ahead W q) g 0 ys.toArray) os).heap.size ∧
    ∀ cs t f, W.heap[g]? = some (.cells cs t f) → (Sort.grow (Sort.putRow (Value.int .i64) (Sort.ahead W q) g 0 ys.toArray) os).heap[g]? = some (.cells (Sort.putCells (Value.int .i64) 0 ys.toArray cs) t f) := by
  have hs : (Sort.putRow (Value.int .i64) (Sort.ahead W q) g 0 ys.toArray).heap.size = W.heap.size := by simp [Sort.putRow, Sort.mapBlock, Sort.ahead]
  have hg : ∀ k, k < W.heap.size → (Sort.grow (Sort.putRow (Value.int .i64) (Sort.ahead W q) g 0 ys.toArray) os).heap[k]? = (Sort.putRow (Value.int .i64) (Sort.ahead W q) g 0 ys.toArray).heap[k]? := by
    intro k hk
    show ((Sort.putRow (Value.int .i64) (Sort.ahead W q) g 0 ys.toArray).heap ++ os)[k]? = _
    rw [Array.getElem?_append_left (by rw [hs]; exact hk)]
  refine ⟨fun k hk hne => ?_, ?_, fun cs t f h => ?_⟩
  · rw [hg k hk]
    show (W.heap.modify g _)[k]? = _
    rw [Array.getElem?_modify, if_neg (fun e => hne e.symm)]
  · show _ ≤ ((Sort.putRow (Value.int .i64) (Sort.ahead W q) g 0 ys.toArray).heap ++ os).size
    rw [Array.size_append, hs]; omega
  · have hlt := blk_lt h
    rw [hg g hlt]
    show (W.heap.modify g _)[g]? = _
    rw [Array.getElem?_modify, if_pos rfl, h]; rfl
theorem put_own {W : World} {base g cap : Nat} {zs ys : List Int} (h : W.ownsRow base 3 1 (.slice (some ⟨g, 0, none⟩) zs.length cap) zs.length (encs (Value.int .i64) zs)) (hl : ys.length = zs.length) (q : Nat) (os : Array Obj) :
    (Sort.grow (Sort.putRow (Value.int .i64) (Sort.ahead W q) g 0 ys.toArray) os).ownsRow base 3 1 (.slice (some ⟨g, 0, none⟩) zs.length cap) zs.length (encs (Value.int .i64) ys) := by
  obtain ⟨h1, h2⟩ := h
  refine ⟨by simp [encs, hl], ?_⟩
  rcases h2 with ⟨he, _⟩ | ⟨g', cap', cur, he, hb, hh, hn, hm, hc, ht⟩
  · cases he
  · injection he with e1 _ e3
    injection e1 with e1
    injection e1 with e1 _ _
    subst e1; subst e3
    refine .inr ⟨g, cap, Sort.putCells (Value.int .i64) 0 ys.toArray cur, rfl, hb, (put_heap W g q ys os).2.2 _ _ _ hh, hn, hm, by simp [Sort.putCells, hc], ?_⟩
    apply List.ext_getElem
    · simp [Sort.putCells, encs, hl, hc]; omega
    · intro i i1 i2
      have hi : i < ys.length := by simpa [encs] using i2
      have hic : i < cur.size := by rw [hc]; omega
      simp only [List.getElem_take, Array.getElem_toList, Sort.putCells, Array.getElem_mapIdx, encs, List.getElem_map]
      rw [if_pos ⟨by omega, by simpa using hi⟩]
      simp [hi]
theorem own_holds {W : World} {base g cap : Nat} {zs : List Int} (h : W.ownsRow base 3 1 (.slice (some ⟨g, 0, none⟩) zs.length cap) zs.length (encs (Value.int .i64) zs)) : Sort.Holds (Value.int .i64) W g 0 zs.toArray ∧ g < W.heap.size ∧ zs.length ≤ cap ∧ base ≤ g := by
  obtain ⟨h1, h2⟩ := id h
  rcases h2 with ⟨he, _⟩ | ⟨g', cap', cur, he, hb, hh, hn, hm, hc, ht⟩
  · cases he
  · injection he with e1 _ e3
    injection e1 with e1
    injection e1 with e1 _ _
    subst e1; subst e3
    refine ⟨fun j hj => ?_, blk_lt hh, hn, hb⟩
    have hj' : j < zs.length := by simpa using hj
    have hcj : cur[j]? = some (Value.int .i64 zs[j]) := by
      have : (cur.toList.take (zs.length * 1))[j]? = (encs (Value.int .i64) zs)[j]? := by rw [ht]
      rw [List.getElem?_take, if_pos (by omega)] at this
      rw [← Array.getElem?_toList, this]
      simp [encs, hj']
    rw [Nat.zero_add]
    refine ⟨(blk_cell hh j).trans ?_, blk_frozen hh j⟩
    rw [hcj]; simp [hj']
theorem put_below {w W : World} {g q : Nat} {ys : List Int} {os : Array Obj} (h : Below w.heap.size w W) (hg : w.heap.size ≤ g) : Below w.heap.size w (Sort.grow (Sort.putRow (Value.int .i64) (Sort.ahead W q) g 0 ys.toArray) os) := by
  have hp := put_heap W g q ys os
  exact ⟨h.os, h.tape, h.output, Nat.le_trans h.size hp.2.1, fun k hk => (hp.1 k (Nat.lt_of_lt_of_le hk h.size) (by omega)).trans (h.block k hk)⟩
/-- Sort, then Compact -/
def srt (l : List Int) : List Int := l.mergeSort fun x y => decide (x ≤ y)
def srtc (l : List Int) : List Int := Lib.compact (srt l)
theorem srt_len (l : List Int) : (srt l).length = l.length := List.length_mergeSort l
theorem srt_mem (l : List Int) (x : Int) : x ∈ srt l ↔ x ∈ l := List.mem_mergeSort
theorem srt_le (l : List Int) : (srt l).Pairwise (· ≤ ·) := by
  have h := List.pairwise_mergeSort (le := fun x y : Int => decide (x ≤ y)) (fun a b c h1 h2 => by simp only [decide_eq_true_eq] at *; omega) (fun a b => by simp only [Bool.or_eq_true, decide_eq_true_eq]; omega) l
  exact h.imp fun h => of_decide_eq_true h
/-- of an ascending list one of each stays -/
theorem compact_spec (l : List Int) (h : l.Pairwise (· ≤ ·)) : (Lib.compact l).Pairwise (· < ·) ∧ ∀ x, x ∈ Lib.compact l ↔ x ∈ l := by
  have hle : ∀ i j : Nat, i ≤ j → j < l.length → l.toArray[i]! ≤ l.toArray[j]! := by
    intro i j hij hj
    rcases Nat.lt_or_ge i j with h1 | h1
    · have := (List.pairwise_iff_getElem.1 h) i j (by omega) hj h1
      simpa [hj, (show i < l.length by omega)] using this
    · obtain rfl : i = j := by omega
      exact Int.le_refl _
  have hkeep : ∀ j, Lib.keeps l.toArray j = true → j = 0 ∨ l.toArray[j]! ≠ l.toArray[j - 1]! := fun j hj => of_decide_eq_true hj
  constructor
  · unfold Lib.compact Lib.compactUpTo
    rw [List.pairwise_map, List.pairwise_filter]
    refine (List.pairwise_lt_range (n := l.length)).imp_of_mem fun {i j} hi hj hij hki hkj => ?_
    have hj' := List.mem_range.1 hj
    rcases hkeep j hkj with h1 | h1
    · omega
    · have h2 := hle i (j - 1) (by omega) (by omega)
      have h3 := hle (j - 1) j (by omega) hj'
      omega
  · intro x
    unfold Lib.compact Lib.compactUpTo
    rw [List.mem_map]
    constructor
    · rintro ⟨j, hj, rfl⟩
      have hj' := List.mem_range.1 (List.mem_filter.1 hj).1
      have : l.toArray[j]! = l[j] := by simp [hj']
      rw [this]; exact List.getElem_mem hj'
    · intro hx
      -- the first place that holds x
      have hne : ∃ j, j < l.length ∧ l.toArray[j]! = x := by
        obtain ⟨j, hj, rfl⟩ := List.getElem_of_mem hx
        exact ⟨j, hj, by simp [hj]⟩
      obtain ⟨j0, hj0⟩ := hne
      have key : ∀ m j, j ≤ m → j < l.length → l.toArray[j]! = x → ∃ i, i < l.length ∧ Lib.keeps l.toArray i = true ∧ l.toArray[i]! = x := by
        intro m
        induction m with
        | zero =>
          intro j h1 h2 h3
          obtain rfl : j = 0 := by omega
          exact ⟨0, h2, decide_eq_true (.inl rfl), h3⟩
        | succ m ih =>
          intro j h1 h2 h3
          by_cases h4 : j = 0 ∨ l.toArray[j]! ≠ l.toArray[j - 1]!
          · exact ⟨j, h2, decide_eq_true h4, h3⟩
          · have h5 : l.toArray[j]! = l.toArray[j - 1]! := Classical.byContradiction fun e => h4 (.inr e)
            have h6 : j ≠ 0 := fun e => h4 (.inl e)
            exact ih (j - 1) (by omega) (by omega) (h5.symm.trans h3)
      obtain ⟨i, h1, h2, h3⟩ := key j0 j0 (Nat.le_refl _) hj0.1 hj0.2
      exact ⟨i, List.mem_filter.2 ⟨List.mem_range.2 h1, h2⟩, h3⟩
end Go.Proofs.YtopbjginpmdebaaDoor.K
-- diagram.Sites, diagram.Values: collect and its closures (this text is printed by gen_Lw.py)
namespace Go.Proofs.YtopbjginpmdebaaDoor.K
open Go.RowKit Go.Maps Go.Proofs.YtopbjginpmdebaaDoorW.PrintWords Go.Proofs.YtopbjginpmdebaaDoorW.PrintLast Go.Proofs.YtopbjginpmdebaaDoorW.PrintMore
set_option linter.unusedVariables false
set_option linter.unusedSimpArgs false
/-- a branch's site, a leaf's value -/
def selS (n : Nd) : Option Int := if 0 ≤ n.f0 then some n.f0 else none
def selV (n : Nd) : Option Int := if n.f0 < 0 then some n.f1 else none
set_option maxHeartbeats 8000000 in
set_option maxRecDepth 100000 in
theorem clo64_calls (n : Nd) (A : Option Addr) (c : Nat) (w : World) : Calls Tryd.prog 64 #[.agg #[.int .i64 n.f0, .int .i64 n.f1, .slice A n.f2.length c]] w fun e w' => e = .returned (.tuple #[.int .i64 n.f0, .bool (decide (0 ≤ n.f0))]) ∧ Below w.heap.size w w' := by
  go_enter Tryd.func64, Tryd.ntmps64
  go_wp2
  go_quiet (fail)
  go_wp2
  exact bodyPost_ret (v := .tuple #[.int .i64 n.f0, .bool (decide (0 ≤ n.f0))]) (by simp [results, Tryd.f64, go_sem]) rfl ⟨rfl, below_drew2 ((Below.refl _ w).alloc (Nat.le_refl _) _) _⟩
set_option maxHeartbeats 8000000 in
set_option maxRecDepth 100000 in
theorem clo66_calls (n : Nd) (A : Option Addr) (c : Nat) (w : World) : Calls Tryd.prog 66 #[.agg #[.int .i64 n.f0, .int .i64 n.f1, .slice A n.f2.length c]] w fun e w' => e = .returned (.tuple #[.int .i64 n.f1, .bool (decide (n.f0 < 0))]) ∧ Below w.heap.size w w' := by
  go_enter Tryd.func66, Tryd.ntmps66
  go_wp2
  go_quiet (fail)
  go_wp2
  exact bodyPost_ret (v := .tuple #[.int .i64 n.f1, .bool (decide (n.f0 < 0))]) (by simp [results, Tryd.f66, go_sem]) rfl ⟨rfl, below_drew2 ((Below.refl _ w).alloc (Nat.le_refl _) _) _⟩
set_option maxHeartbeats 16000000 in
set_option maxRecDepth 100000 in
theorem col64_calls (nodes : List Nd) (A : Option Addr) (c : Nat) (w : World) (hC : k60.C w A nodes.length nodes) (hc : nodes.length ≤ c) (hI : ∀ n ∈ nodes, I64 n.f0 ∧ I64 n.f1 ∧ n.f2.length ≤ 1073741824) (hroom : (nodes.length + 1) * 40 ≤ 140737488355328) (htab : PowTab w.heap.size w) :
    Calls Tryd.prog 63 #[.agg #[.slice A nodes.length c], .func (.func 64) #[] #[]] w fun e w' => ∃ v, e = .returned (.tuple #[v, .int .i64 (valE nodes)]) ∧ (Kd.int .i64).R 3 w' w.heap.size (fun _ => True) v (if valE nodes = 0 then srtc (nodes.filterMap selS) else []) ∧ Below w.heap.size w w' := by
  have hb0 : Below w.heap.size w (w.alloc (.cells #[.slice A nodes.length c] 31)) := (Below.refl _ w).alloc (Nat.le_refl _) _
  have hV := validate_calls nodes A c (w.alloc (.cells #[.slice A nodes.length c] 31)) (Kd.C_below hC hb0) hc hI hroom (PowTab.up (htab.on hb0) hb0.size) (fun n hn => Nat.le_trans (redL_kids16 nodes n hn) (by decide))
  have hbx0 := heap_alloc_new w (.cells #[.slice A nodes.length c] 31)
  obtain ⟨N, hN⟩ : ∃ N, N = nodes.length := ⟨_, rfl⟩
  rw [← hN] at hV hc hb0 hbx0 ⊢
  have HB0 := Lib.hid hb0
  have HBX0 := Lib.hid hbx0
  have HN := Lib.hid hN
  have HRM := Lib.hid hroom
  have HC := Lib.hid hC
  have HI := Lib.hid hI
  have hs0 : (w.alloc (.cells #[.slice A N c] 31)).heap.size = w.heap.size + 1 := by simp
  have HS0 := Lib.hid hs0
  clear hI hC hroom htab hb0 hbx0 hN hs0
  by_cases h0 : valE nodes = 0
  · rw [if_pos h0, h0]
    rw [h0] at hV
    clear h0
    go_enter Tryd.func63, Tryd.ntmps63
    go_wp2_with (go_at_call 21; refine hV.mono ?_; clear hV; rintro e w2 ⟨rfl, hb2⟩; have HB2 := Lib.hid (HB0.out.trans (hb2.mono (by have := HS0.out; omega))); have hbx2 := (hb2.block _ (by have := HS0.out; omega)).trans HBX0.out; have b2 := blk_cell hbx2 0; have hlt2 := blk_lt hbx2; clear hb2 hbx2)
    go_loopw [7, 20] (fun v i W => ∃ (k : Nat) (vv : Value), vv = v ∧ i = .int .i64 k ∧ k ≤ N ∧ Below w.heap.size w W ∧ (Kd.int .i64).R 3 W w.heap.size (fun _ => True) vv ((nodes.take k).filterMap selS)) (fun _ i _ => N - (intOf i).toNat)
    case atStart => exact ⟨0, _, rfl, rfl, Nat.zero_le _, HB2.out, Kd.R_nil _ _ _ _ _⟩
    case round =>
      obtain ⟨k, vv, rfl, rfl, hk, hB, hR⟩ := hrel
      obtain ⟨Av, cv, rfl⟩ := Kd.R_slice hR
      obtain ⟨L, hL⟩ : ∃ L, L = (nodes.take k).filterMap selS := ⟨_, rfl⟩
      rw [← hL] at hR ⊢
      have hLl : L.length ≤ k := by rw [hL]; have := List.length_filterMap_le selS (nodes.take k); simp at this; omega
      have HR := Lib.hid hR
      have HB := Lib.hid hB
      have HL := Lib.hid hL
      have hsz := hB.size
      clear hR hB hL
      by_cases hlt : k < N
      · have hkn : k < nodes.length := by have := HN.out; omega
        have hnm : nth nodes k ∈ nodes := by rw [nth_lt hkn]; exact List.getElem_mem hkn
        obtain ⟨ad, A2, c2, rfl, d0, d1, d2, l2, g2⟩ := at_T60 (Kd.C_below HC.out HB.out) (k : Int) (by omega) (by omega)
        rw [Int.toNat_natCast] at d0 d1 d2
        rw [rd_nth] at d0 d1 d2 l2 g2
        have hsucc : nodes.take (k + 1) = nodes.take k ++ [nth nodes (k : Int)] := take_snoc' hkn
        obtain ⟨n, hn⟩ : ∃ n, n = nth nodes (k : Int) := ⟨_, rfl⟩
        rw [← hn] at d0 d1 d2 l2 g2 hnm hsucc
        have hkb : k < 4000000000000 := by have := HRM.out; have := HN.out; omega
        have hki : (k : Int) < (N : Int) := by omega
        have hb1 : Below wr.heap.size wr (wr.alloc (.cells #[.int .i64 n.f0, .int .i64 n.f1, .slice A2 n.f2.length c2] 60)) := (Below.refl _ wr).alloc (Nat.le_refl _) _
        have hA := clo64_calls n A2 c2 (wr.alloc (.cells #[.int .i64 n.f0, .int .i64 n.f1, .slice A2 n.f2.length c2] 60))
        have HB1 := Lib.hid hb1
        have HSC := Lib.hid hsucc
        have HNM := Lib.hid hnm
        clear hb1 hsucc hn hnm g2
        by_cases hch : 0 ≤ n.f0
        · have hd : decide (0 ≤ n.f0) = true := decide_eq_true hch
          have hsel : (nodes.take (k + 1)).filterMap selS = L ++ [n.f0] := by rw [HSC.out, List.filterMap_append, ← HL.out]; simp [selS, hch]
          have HSEL := Lib.hid hsel
          rw [hd] at hA
          clear hd hsel hch
          go_wp2_with (first
            | (go_at_call 64; refine hA.mono ?_; clear hA; rintro e w3 ⟨rfl, hb3⟩; have hb3' := HB1.out.trans (hb3.mono HB1.out.size); have HB3 := Lib.hid hb3'; have HR3 := Lib.hid (Kd.R_below HR.out hb3'); have hs3 := hb3'.size; clear hb3 hb3')
            | (at_builtin; refine Kd.R_append (Kd.int .i64) (w0 := w) (W := w3) w.heap.size rfl (.tmp 31) (.tmp 33) 22 3 (.int .i64 0) 8 rfl Tryd.underlying22 info3 rfl (by decide) (by decide) (.slice Av L.length cv) L (n.f0) [.int .i64 (n.f0)] (fun _ => True) (fun _ => False) (by rfl) (by rfl) rfl (fun _ h => h.elim) (fun j hj => trivial) HR3.out (HB.out.trans (HB3.out.mono hsz)) (by omega) (by omega) ?_; intro v5 w5 hR5 hB5 hg5 hat5; refine Hid.out ?_))
          refine Lib.hid ?_
          have HR5 := Lib.hid hR5
          have HB5 := Lib.hid hB5
          clear hR5 hB5 hg5 hat5
          go_wp2
          go_roundw
          case rel => exact ⟨k + 1, _, rfl, by go_num, hlt, HB5.out, by rw [HSEL.out]; exact HR5.out⟩
          case measure => simp [intOf]; omega
        · have hd : decide (0 ≤ n.f0) = false := decide_eq_false hch
          have hsel : (nodes.take (k + 1)).filterMap selS = L := by rw [HSC.out, List.filterMap_append, ← HL.out]; simp [selS, hch]
          have HSEL := Lib.hid hsel
          rw [hd] at hA
          clear hd hsel hch
          go_wp2_with (go_at_call 64; refine hA.mono ?_; clear hA; rintro e w3 ⟨rfl, hb3⟩; have hb3' := HB1.out.trans (hb3.mono HB1.out.size); have HB3 := Lib.hid hb3'; have HR3 := Lib.hid (Kd.R_below HR.out hb3'); have hs3 := hb3'.size; clear hb3 hb3')
          go_roundw
          case rel => exact ⟨k + 1, _, rfl, by go_num, hlt, HB.out.trans (HB3.out.mono hsz), by rw [HSEL.out]; exact HR3.out⟩
          case measure => simp [intOf]; omega
      · obtain rfl : N = k := by omega
        have hLn : L = nodes.filterMap selS := by rw [HL.out, List.take_of_length_le (by have := HN.out; omega)]
        have HLN := Lib.hid hLn
        have hLb : L.length < 4611686018427387904 := by have := HRM.out; have := HN.out; omega
        have hown : wr.ownsRow w.heap.size 3 1 (.slice Av L.length cv) L.length (encs (Value.int .i64) L) := Kd.own_of_R HR.out
        clear hLn
        rcases hown.2 with ⟨he, hl0⟩ | ⟨g, cap, cur, he, hg, hh, _⟩
        · injection he with e1 e2 e3
          obtain rfl : L = [] := List.length_eq_zero_iff.1 e2
          subst e1
          subst e3
          have hS := Any.slices_Sort_int_none Tryd.lays189 none 0 wr
          have hK := Tryd.slices_Compact_int_empty none 0 wr
          clear hown
          go_wp2_with (first
            | (go_at_call 75; refine hS.mono ?_; rintro e w4 ⟨rfl, rfl⟩)
            | (go_at_call 76; refine hK.mono ?_; rintro e w5 ⟨rfl, rfl⟩))
          refine bodyPost_ret (v := .tuple #[.slice none 0 0, .int .i64 0]) (by simp [results, Tryd.f63, go_sem]) rfl ⟨_, rfl, ?_, HB.out⟩
          rw [← HLN.out, show srtc [] = [] from by simp [srtc, srt, Lib.compact, Lib.compactUpTo]]
          exact Kd.R_nil _ _ _ _ _
        · injection he with e1 _ e3
          subst e1
          subst e3
          obtain ⟨hH, hgl, hcap, _⟩ := own_holds hown
          have hS := Tryd.slices_Sort_int g 0 cv L wr hH hgl hLb
          have hsl := srt_len L
          have HOWN := Lib.hid hown
          have HSL := Lib.hid hsl
          have hK : ∀ (q : Nat) (os : Array Obj), Calls Tryd.prog 76 #[.slice (some ⟨g, 0, none⟩) L.length cv] (Sort.grow (Sort.putRow (Value.int .i64) (Sort.ahead wr q) g 0 (srt L).toArray) os) fun e w' => ∃ v, e = .returned v ∧ (Kd.int .i64).R 3 w' w.heap.size (fun _ => True) v (srtc L) ∧ Below w.heap.size w w' := by
            intro q os
            have h1 := put_own HOWN.out HSL.out q os
            have h1' := h1
            rw [← HSL.out] at h1'
            obtain ⟨k1, k2, k3, k4⟩ := own_holds h1'
            have h2 := Tryd.slices_Compact_int g 0 cv (srt L) _ k1 (by rw [HSL.out]; omega) k3
            rw [HSL.out] at h2
            refine h2.mono ?_
            rintro e w5 ⟨rfl, q2, rfl⟩
            have hcl : (Lib.compact (srt L)).length ≤ L.length := by rw [← HSL.out]; exact Lib.compact_length_le _
            have h3 := put_own (ys := Lib.compact (srt L) ++ List.replicate (L.length - (Lib.compact (srt L)).length) 0) h1' (by rw [HSL.out]; simp; omega) q2 #[]
            rw [HSL.out, Sort.grow_empty] at h3
            have h4 := own_take (m := (Lib.compact (srt L)).length) h3 hcl
            refine ⟨_, rfl, Kd.R_of_own ?_ (fun _ _ => trivial), ?_⟩
            · have e : (encs (Value.int .i64) (Lib.compact (srt L) ++ List.replicate (L.length - (Lib.compact (srt L)).length) 0)).take ((Lib.compact (srt L)).length * 1) = encs (Value.int .i64) (Lib.compact (srt L)) := by
                rw [encs_append, List.take_append_of_le_length (by simp [encs]), List.take_of_length_le (by simp [encs])]
              rw [e] at h4
              exact h4
            · have h5 := put_below (q := q) (ys := srt L) (os := os) HB.out hg
              have h6 := put_below (q := q2) (ys := Lib.compact (srt L) ++ List.replicate (L.length - (Lib.compact (srt L)).length) 0) (os := #[]) h5 hg
              rwa [Sort.grow_empty] at h6
          have HK := Lib.hid hK
          clear hown hH hsl hK hh hgl
          go_wp2_with (first
            | (go_at_call 75; refine hS.mono ?_; clear hS; rintro e w4 ⟨rfl, q4, os4, rfl⟩)
            | (go_at_call 76; refine (HK.out _ _).mono ?_; rintro e w5 ⟨v5, rfl, hR5, hb5⟩))
          refine bodyPost_ret (v := .tuple #[v5, .int .i64 0]) (by simp [results, Tryd.f63, go_sem]) rfl ⟨_, rfl, ?_, hb5⟩
          rw [← HLN.out]
          exact hR5
  · rw [if_neg h0]
    obtain ⟨er, her⟩ : ∃ er, er = valE nodes := ⟨_, rfl⟩
    rw [← her] at hV h0 ⊢
    clear her
    go_enter Tryd.func63, Tryd.ntmps63
    go_wp2_with (go_at_call 21; refine hV.mono ?_; clear hV; rintro e w2 ⟨rfl, hb2⟩; have HB2 := Lib.hid (HB0.out.trans (hb2.mono (by have := HS0.out; omega))); clear hb2)
    exact bodyPost_ret (v := .tuple #[.slice none 0 0, .int .i64 er]) (by simp [results, Tryd.f63, go_sem]) rfl ⟨_, rfl, Kd.R_nil _ _ _ _ _, HB2.out⟩
set_option maxHeartbeats 16000000 in
set_option maxRecDepth 100000 in
theorem col66_calls (nodes : List Nd) (A : Option Addr) (c : Nat) (w : World) (hC : k60.C w A nodes.length nodes) (hc : nodes.length ≤ c) (hI : ∀ n ∈ nodes, I64 n.f0 ∧ I64 n.f1 ∧ n.f2.length ≤ 1073741824) (hroom : (nodes.length + 1) * 40 ≤ 140737488355328) (htab : PowTab w.heap.size w) :
    Calls Tryd.prog 63 #[.agg #[.slice A nodes.length c], .func (.func 66) #[] #[]] w fun e w' => ∃ v, e = .returned (.tuple #[v, .int .i64 (valE nodes)]) ∧ (Kd.int .i64).R 3 w' w.heap.size (fun _ => True) v (if valE nodes = 0 then srtc (nodes.filterMap selV) else []) ∧ Below w.heap.size w w' := by
  have hb0 : Below w.heap.size w (w.alloc (.cells #[.slice A nodes.length c] 31)) := (Below.refl _ w).alloc (Nat.le_refl _) _
  have hV := validate_calls nodes A c (w.alloc (.cells #[.slice A nodes.length c] 31)) (Kd.C_below hC hb0) hc hI hroom (PowTab.up (htab.on hb0) hb0.size) (fun n hn => Nat.le_trans (redL_kids16 nodes n hn) (by decide))
  have hbx0 := heap_alloc_new w (.cells #[.slice A nodes.length c] 31)
  obtain ⟨N, hN⟩ : ∃ N, N = nodes.length := ⟨_, rfl⟩
  rw [← hN] at hV hc hb0 hbx0 ⊢
  have HB0 := Lib.hid hb0
  have HBX0 := Lib.hid hbx0
  have HN := Lib.hid hN
  have HRM := Lib.hid hroom
  have HC := Lib.hid hC
  have HI := Lib.hid hI
  have hs0 : (w.alloc (.cells #[.slice A N c] 31)).heap.size = w.heap.size + 1 := by simp
  have HS0 := Lib.hid hs0
  clear hI hC hroom htab hb0 hbx0 hN hs0
  by_cases h0 : valE nodes = 0
  · rw [if_pos h0, h0]
    rw [h0] at hV
    clear h0
    go_enter Tryd.func63, Tryd.ntmps63
    go_wp2_with (go_at_call 21; refine hV.mono ?_; clear hV; rintro e w2 ⟨rfl, hb2⟩; have HB2 := Lib.hid (HB0.out.trans (hb2.mono (by have := HS0.out; omega))); have hbx2 := (hb2.block _ (by have := HS0.out; omega)).trans HBX0.out; have b2 := blk_cell hbx2 0; have hlt2 := blk_lt hbx2; clear hb2 hbx2)
    go_loopw [7, 20] (fun v i W => ∃ (k : Nat) (vv : Value), vv = v ∧ i = .int .i64 k ∧ k ≤ N ∧ Below w.heap.size w W ∧ (Kd.int .i64).R 3 W w.heap.size (fun _ => True) vv ((nodes.take k).filterMap selV)) (fun _ i _ => N - (intOf i).toNat)
    case atStart => exact ⟨0, _, rfl, rfl, Nat.zero_le _, HB2.out, Kd.R_nil _ _ _ _ _⟩
    case round =>
      obtain ⟨k, vv, rfl, rfl, hk, hB, hR⟩ := hrel
      obtain ⟨Av, cv, rfl⟩ := Kd.R_slice hR
      obtain ⟨L, hL⟩ : ∃ L, L = (nodes.take k).filterMap selV := ⟨_, rfl⟩
      rw [← hL] at hR ⊢
      have hLl : L.length ≤ k := by rw [hL]; have := List.length_filterMap_le selV (nodes.take k); simp at this; omega
      have HR := Lib.hid hR
      have HB := Lib.hid hB
      have HL := Lib.hid hL
      have hsz := hB.size
      clear hR hB hL
      by_cases hlt : k < N
      · have hkn : k < nodes.length := by have := HN.out; omega
        have hnm : nth nodes k ∈ nodes := by rw [nth_lt hkn]; exact List.getElem_mem hkn
        obtain ⟨ad, A2, c2, rfl, d0, d1, d2, l2, g2⟩ := at_T60 (Kd.C_below HC.out HB.out) (k : Int) (by omega) (by omega)
        rw [Int.toNat_natCast] at d0 d1 d2
        rw [rd_nth] at d0 d1 d2 l2 g2
        have hsucc : nodes.take (k + 1) = nodes.take k ++ [nth nodes (k : Int)] := take_snoc' hkn
        obtain ⟨n, hn⟩ : ∃ n, n = nth nodes (k : Int) := ⟨_, rfl⟩
        rw [← hn] at d0 d1 d2 l2 g2 hnm hsucc
        have hkb : k < 4000000000000 := by have := HRM.out; have := HN.out; omega
        have hki : (k : Int) < (N : Int) := by omega
        have hb1 : Below wr.heap.size wr (wr.alloc (.cells #[.int .i64 n.f0, .int .i64 n.f1, .slice A2 n.f2.length c2] 60)) := (Below.refl _ wr).alloc (Nat.le_refl _) _
        have hA := clo66_calls n A2 c2 (wr.alloc (.cells #[.int .i64 n.f0, .int .i64 n.f1, .slice A2 n.f2.length c2] 60))
        have HB1 := Lib.hid hb1
        have HSC := Lib.hid hsucc
        have HNM := Lib.hid hnm
        clear hb1 hsucc hn hnm g2
        by_cases hch : n.f0 < 0
        · have hd : decide (n.f0 < 0) = true := decide_eq_true hch
          have hsel : (nodes.take (k + 1)).filterMap selV = L ++ [n.f1] := by rw [HSC.out, List.filterMap_append, ← HL.out]; simp [selV, hch]
          have HSEL := Lib.hid hsel
          rw [hd] at hA
          clear hd hsel hch
          go_wp2_with (first
            | (go_at_call 66; refine hA.mono ?_; clear hA; rintro e w3 ⟨rfl, hb3⟩; have hb3' := HB1.out.trans (hb3.mono HB1.out.size); have HB3 := Lib.hid hb3'; have HR3 := Lib.hid (Kd.R_below HR.out hb3'); have hs3 := hb3'.size; clear hb3 hb3')
            | (at_builtin; refine Kd.R_append (Kd.int .i64) (w0 := w) (W := w3) w.heap.size rfl (.tmp 31) (.tmp 33) 22 3 (.int .i64 0) 8 rfl Tryd.underlying22 info3 rfl (by decide) (by decide) (.slice Av L.length cv) L (n.f1) [.int .i64 (n.f1)] (fun _ => True) (fun _ => False) (by rfl) (by rfl) rfl (fun _ h => h.elim) (fun j hj => trivial) HR3.out (HB.out.trans (HB3.out.mono hsz)) (by omega) (by omega) ?_; intro v5 w5 hR5 hB5 hg5 hat5; refine Hid.out ?_))
          refine Lib.hid ?_
          have HR5 := Lib.hid hR5
          have HB5 := Lib.hid hB5
          clear hR5 hB5 hg5 hat5
          go_wp2
          go_roundw
          case rel => exact ⟨k + 1, _, rfl, by go_num, hlt, HB5.out, by rw [HSEL.out]; exact HR5.out⟩
          case measure => simp [intOf]; omega
        · have hd : decide (n.f0 < 0) = false := decide_eq_false hch
          have hsel : (nodes.take (k + 1)).filterMap selV = L := by rw [HSC.out, List.filterMap_append, ← HL.out]; simp [selV, hch]
          have HSEL := Lib.hid hsel
          rw [hd] at hA
          clear hd hsel hch
          go_wp2_with (go_at_call 66; refine hA.mono ?_; clear hA; rintro e w3 ⟨rfl, hb3⟩; have hb3' := HB1.out.trans (hb3.mono HB1.out.size); have HB3 := Lib.hid hb3'; have HR3 := Lib.hid (Kd.R_below HR.out hb3'); have hs3 := hb3'.size; clear hb3 hb3')
          go_roundw
          case rel => exact ⟨k + 1, _, rfl, by go_num, hlt, HB.out.trans (HB3.out.mono hsz), by rw [HSEL.out]; exact HR3.out⟩
          case measure => simp [intOf]; omega
      · obtain rfl : N = k := by omega
        have hLn : L = nodes.filterMap selV := by rw [HL.out, List.take_of_length_le (by have := HN.out; omega)]
        have HLN := Lib.hid hLn
        have hLb : L.length < 4611686018427387904 := by have := HRM.out; have := HN.out; omega
        have hown : wr.ownsRow w.heap.size 3 1 (.slice Av L.length cv) L.length (encs (Value.int .i64) L) := Kd.own_of_R HR.out
        clear hLn
        rcases hown.2 with ⟨he, hl0⟩ | ⟨g, cap, cur, he, hg, hh, _⟩
        · injection he with e1 e2 e3
          obtain rfl : L = [] := List.length_eq_zero_iff.1 e2
          subst e1
          subst e3
          have hS := Any.slices_Sort_int_none Tryd.lays189 none 0 wr
          have hK := Tryd.slices_Compact_int_empty none 0 wr
          clear hown
          go_wp2_with (first
            | (go_at_call 75; refine hS.mono ?_; rintro e w4 ⟨rfl, rfl⟩)
            | (go_at_call 76; refine hK.mono ?_; rintro e w5 ⟨rfl, rfl⟩))
          refine bodyPost_ret (v := .tuple #[.slice none 0 0, .int .i64 0]) (by simp [results, Tryd.f63, go_sem]) rfl ⟨_, rfl, ?_, HB.out⟩
          rw [← HLN.out, show srtc [] = [] from by simp [srtc, srt, Lib.compact, Lib.compactUpTo]]
          exact Kd.R_nil _ _ _ _ _
        · injection he with e1 _ e3
          subst e1
          subst e3
          obtain ⟨hH, hgl, hcap, _⟩ := own_holds hown
          have hS := Tryd.slices_Sort_int g 0 cv L wr hH hgl hLb
          have hsl := srt_len L
          have HOWN := Lib.hid hown
          have HSL := Lib.hid hsl
          have hK : ∀ (q : Nat) (os : Array Obj), Calls Tryd.prog 76 #[.slice (some ⟨g, 0, none⟩) L.length cv] (Sort.grow (Sort.putRow (Value.int .i64) (Sort.ahead wr q) g 0 (srt L).toArray) os) fun e w' => ∃ v, e = .returned v ∧ (Kd.int .i64).R 3 w' w.heap.size (fun _ => True) v (srtc L) ∧ Below w.heap.size w w' := by
            intro q os
            have h1 := put_own HOWN.out HSL.out q os
            have h1' := h1
            rw [← HSL.out] at h1'
            obtain ⟨k1, k2, k3, k4⟩ := own_holds h1'
            have h2 := Tryd.slices_Compact_int g 0 cv (srt L) _ k1 (by rw [HSL.out]; omega) k3
            rw [HSL.out] at h2
            refine h2.mono ?_
            rintro e w5 ⟨rfl, q2, rfl⟩
            have hcl : (Lib.compact (srt L)).length ≤ L.length := by rw [← HSL.out]; exact Lib.compact_length_le _
            have h3 := put_own (ys := Lib.compact (srt L) ++ List.replicate (L.length - (Lib.compact (srt L)).length) 0) h1' (by rw [HSL.out]; simp; omega) q2 #[]
            rw [HSL.out, Sort.grow_empty] at h3
            have h4 := own_take (m := (Lib.compact (srt L)).length) h3 hcl
            refine ⟨_, rfl, Kd.R_of_own ?_ (fun _ _ => trivial), ?_⟩
            · have e : (encs (Value.int .i64) (Lib.compact (srt L) ++ List.replicate (L.length - (Lib.compact (srt L)).length) 0)).take ((Lib.compact (srt L)).length * 1) = encs (Value.int .i64) (Lib.compact (srt L)) := by
                rw [encs_append, List.take_append_of_le_length (by simp [encs]), List.take_of_length_le (by simp [encs])]
              rw [e] at h4
              exact h4
            · have h5 := put_below (q := q) (ys := srt L) (os := os) HB.out hg
              have h6 := put_below (q := q2) (ys := Lib.compact (srt L) ++ List.replicate (L.length - (Lib.compact (srt L)).length) 0) (os := #[]) h5 hg
              rwa [Sort.grow_empty] at h6
          have HK := Lib.hid hK
          clear hown hH hsl hK hh hgl
          go_wp2_with (first
            | (go_at_call 75; refine hS.mono ?_; clear hS; rintro e w4 ⟨rfl, q4, os4, rfl⟩)
            | (go_at_call 76; refine (HK.out _ _).mono ?_; rintro e w5 ⟨v5, rfl, hR5, hb5⟩))
          refine bodyPost_ret (v := .tuple #[v5, .int .i64 0]) (by simp [results, Tryd.f63, go_sem]) rfl ⟨_, rfl, ?_, hb5⟩
          rw [← HLN.out]
          exact hR5
  · rw [if_neg h0]
    obtain ⟨er, her⟩ : ∃ er, er = valE nodes := ⟨_, rfl⟩
    rw [← her] at hV h0 ⊢
    clear her
    go_enter Tryd.func63, Tryd.ntmps63
    go_wp2_with (go_at_call 21; refine hV.mono ?_; clear hV; rintro e w2 ⟨rfl, hb2⟩; have HB2 := Lib.hid (HB0.out.trans (hb2.mono (by have := HS0.out; omega))); clear hb2)
    exact bodyPost_ret (v := .tuple #[.slice none 0 0, .int .i64 er]) (by simp [results, Tryd.f63, go_sem]) rfl ⟨_, rfl, Kd.R_nil _ _ _ _ _, HB2.out⟩
end Go.Proofs.YtopbjginpmdebaaDoor.K
-- the contracts of diagram.Sites and diagram.Values, in the form that the printed texts call them
namespace Go.Proofs.YtopbjginpmdebaaDoor.K
open Go.RowKit Go.Maps Go.Proofs.YtopbjginpmdebaaDoorW.PrintWords Go.Proofs.YtopbjginpmdebaaDoorW.PrintLast Go.Proofs.YtopbjginpmdebaaDoorW.PrintMore
set_option linter.unusedVariables false
set_option linter.unusedSimpArgs false
def siL (l : List Nd) : List Int := if valE l = 0 then srtc (l.filterMap selS) else []
def diagram_Sites.f (l : List S60) : Option (List Int × Int) := if ndOk l = true then some (siL l, valE l) else none
set_option maxHeartbeats 8000000 in
set_option maxRecDepth 100000 in
theorem diagram_Sites.calls (A : Option Addr) (c : Nat) (l : List S60) (r1 : List Int) (r2 : Int) (w : World) (hr : Kd.C k60 w A l.length l) (hc : l.length ≤ c) (h : diagram_Sites.f l = some (r1, r2)) (htab : PowTab w.heap.size w) :
    Calls Tryd.prog 37 #[.agg #[.slice A l.length c]] w fun e w' => ∃ v0_ : Value, e = .returned (.tuple #[v0_, .int .i64 r2]) ∧ Kd.R (Kd.int .i64) 3 w' w.heap.size (fun _ => True) v0_ r1 ∧ Below w.heap.size w w' := by
  unfold diagram_Sites.f at h
  by_cases hk : ndOk l = true
  · rw [if_pos hk] at h
    simp only [Option.some.injEq, Prod.mk.injEq] at h
    obtain ⟨h1, h2⟩ := h
    have hb0 : Below w.heap.size w (w.alloc (.cells #[.slice A l.length c] 31)) := (Below.refl _ w).alloc (Nat.le_refl _) _
    have hA := (col64_calls l A c (w.alloc (.cells #[.slice A l.length c] 31)) (Kd.C_below hr hb0) hc (ndOk_I hk) (ndOk_room hk) (PowTab.up (htab.on hb0) hb0.size)).mono (R' := fun e w' => ∃ v, e = .returned (.tuple #[v, .int .i64 r2]) ∧ Kd.R (Kd.int .i64) 3 w' w.heap.size (fun _ => True) v r1 ∧ Below w.heap.size w w') (by
      rintro e w' ⟨v, rfl, hR, hB⟩
      refine ⟨v, by rw [h2], ?_, hb0.trans (hB.mono hb0.size)⟩
      rw [← h1]
      exact Kd.R_lower hR hb0.size)
    obtain ⟨N, hN⟩ : ∃ N, N = l.length := ⟨_, rfl⟩
    rw [← hN] at hA ⊢
    clear hr hc htab hb0 hk h1 h2 hN
    go_enter Tryd.func37, Tryd.ntmps37
    go_wp2_with (go_at_call 63; refine hA.mono ?_; clear hA; rintro e w2 ⟨v, rfl, hR, hB⟩)
    exact bodyPost_ret (v := .tuple #[v, .int .i64 r2]) (by simp [results, Tryd.f37, go_sem]) rfl ⟨v, rfl, hR, hB⟩
  · rw [if_neg hk] at h; cases h
def vaL (l : List Nd) : List Int := if valE l = 0 then srtc (l.filterMap selV) else []
def diagram_Values.f (l : List S60) : Option (List Int × Int) := if ndOk l = true then some (vaL l, valE l) else none
set_option maxHeartbeats 8000000 in
set_option maxRecDepth 100000 in
theorem diagram_Values.calls (A : Option Addr) (c : Nat) (l : List S60) (r1 : List Int) (r2 : Int) (w : World) (hr : Kd.C k60 w A l.length l) (hc : l.length ≤ c) (h : diagram_Values.f l = some (r1, r2)) (htab : PowTab w.heap.size w) :
    Calls Tryd.prog 39 #[.agg #[.slice A l.length c]] w fun e w' => ∃ v0_ : Value, e = .returned (.tuple #[v0_, .int .i64 r2]) ∧ Kd.R (Kd.int .i64) 3 w' w.heap.size (fun _ => True) v0_ r1 ∧ Below w.heap.size w w' := by
  unfold diagram_Values.f at h
  by_cases hk : ndOk l = true
  · rw [if_pos hk] at h
    simp only [Option.some.injEq, Prod.mk.injEq] at h
    obtain ⟨h1, h2⟩ := h
    have hb0 : Below w.heap.size w (w.alloc (.cells #[.slice A l.length c] 31)) := (Below.refl _ w).alloc (Nat.le_refl _) _
    have hA := (col66_calls l A c (w.alloc (.cells #[.slice A l.length c] 31)) (Kd.C_below hr hb0) hc (ndOk_I hk) (ndOk_room hk) (PowTab.up (htab.on hb0) hb0.size)).mono (R' := fun e w' => ∃ v, e = .returned (.tuple #[v, .int .i64 r2]) ∧ Kd.R (Kd.int .i64) 3 w' w.heap.size (fun _ => True) v r1 ∧ Below w.heap.size w w') (by
      rintro e w' ⟨v, rfl, hR, hB⟩
      refine ⟨v, by rw [h2], ?_, hb0.trans (hB.mono hb0.size)⟩
      rw [← h1]
      exact Kd.R_lower hR hb0.size)
    obtain ⟨N, hN⟩ : ∃ N, N = l.length := ⟨_, rfl⟩
    rw [← hN] at hA ⊢
    clear hr hc htab hb0 hk h1 h2 hN
    go_enter Tryd.func39, Tryd.ntmps39
    go_wp2_with (go_at_call 63; refine hA.mono ?_; clear hA; rintro e w2 ⟨v, rfl, hR, hB⟩)
    exact bodyPost_ret (v := .tuple #[v, .int .i64 r2]) (by simp [results, Tryd.f39, go_sem]) rfl ⟨v, rfl, hR, hB⟩
  · rw [if_neg hk] at h; cases h
end Go.Proofs.YtopbjginpmdebaaDoor.K
namespace Go.Proofs.YtopbjginpmdebaaDoor.K
open Go.RowKit Go.Proofs.YtopbjginpmdebaaDoorW.PrintWords Go.Proofs.YtopbjginpmdebaaDoorW.PrintLast Go.Proofs.YtopbjginpmdebaaDoorW.PrintMore
attribute [local go_sem] max2_int min2_int max_two min_two max_three min_three max_four min_four   -- for this text's walks alone
set_option linter.unusedVariables false
set_option linter.unusedSimpArgs false

/-! ### exactppllaw19_DiagramExpands: function 13 -/
mutual
def exactppllaw19_DiagramExpands.j0 : Nat → List Int → Int → Bool → List (S60) → Option (Bool)
 | 0, _, _, _, _ => none
 | k + 1, x4, x5, x25, x942000 => if x25 = true then (if x5 = 0 then ((exactppllaw19_awake.f).bind fun t946 => (some t946)) else (some false)) else (exactppllaw19_DiagramExpands.l0 k x4 ([] : List (S31)) 0 x942000)
def exactppllaw19_DiagramExpands.l0 : Nat → List Int → List (S31) → Int → List (S60) → Option (Bool)
 | 0, _, _, _, _ => none
 | k + 1, x4, x6, x7, x942000 => if 0 < (x4.length : Int) then ((exactpplmake_Width.f (rd x4 0)).bind fun t948 => (if x7 < t948 then ((diagram_Restrict.f x942000 (rd x4 0) x7).bind fun bt950 => (if bt950.2 = 0 then (if x6.length < 5864062014805 then (exactppllaw19_DiagramExpands.l0 k x4 (x6 ++ [(⟨bt950.1⟩ : S31)]) (wrap64 (x7 + 1)) x942000) else (none)) else (some false))) else ((diagram_Branch.f (rd x4 0) x6).bind fun bt959 => (if bt959.2 = 0 then ((exactpplref19_Same.f k bt959.1 x942000).bind fun t964 => (if t964 = true then ((exactppllaw19_awake.f).bind fun t965 => (some t965)) else (some false))) else (some false))))) else (none)
end
def exactppllaw19_DiagramExpands.f (k : Nat) (l0 : List Int) : Option (Bool) := (exactpplmake_New.f l0).bind fun bt932 => ((exactpplmake_Src_Diagram.f k bt932.1 bt932.2.1 bt932.2.2 0 3).bind fun bt936 => ((diagram_Sites.f bt936.1).bind fun bt942 => (if bt942.2 = 0 then (exactppllaw19_DiagramExpands.j0 k bt942.1 bt942.2 ((bt942.1.length : Int) == 0) bt936.1) else (exactppllaw19_DiagramExpands.j0 k bt942.1 bt942.2 true bt936.1))))
theorem exactppllaw19_DiagramExpands.mono_l : ∀ k, (∀ y0 y1 y2 y3, LeO (exactppllaw19_DiagramExpands.j0 k y0 y1 y2 y3) (exactppllaw19_DiagramExpands.j0 (k + 1) y0 y1 y2 y3)) ∧ (∀ y0 y1 y2 y3, LeO (exactppllaw19_DiagramExpands.l0 k y0 y1 y2 y3) (exactppllaw19_DiagramExpands.l0 (k + 1) y0 y1 y2 y3))
 | 0 => ⟨fun _ _ _ _ r h => by simp [exactppllaw19_DiagramExpands.j0] at h, fun _ _ _ _ r h => by simp [exactppllaw19_DiagramExpands.l0] at h⟩
 | k + 1 => by
  obtain ⟨ih0, ih1⟩ := exactppllaw19_DiagramExpands.mono_l k
  refine ⟨?_, ?_⟩
  ·intro y0 y1 y2 y3
   unfold exactppllaw19_DiagramExpands.j0
   repeat' first
   | (with_reducible exact ih0 _ _ _ _)
   | (with_reducible exact ih1 _ _ _ _)
   | (with_reducible exact exactpplmake_Src_Diagram.mono _ _ _ _ _ _)
   | (with_reducible exact exactpplref19_Same.mono _ _ _)
   | (with_reducible exact LeO.refl _)
   | (with_reducible exact LeO.none _)
   | (with_reducible refine LeO.ite ?_ ?_)
   | (with_reducible refine LeO.bind ?_ (fun _ => ?_))
   | exact ih0 _ _ _ _
   | exact ih1 _ _ _ _
   | exact exactpplmake_Src_Diagram.mono _ _ _ _ _ _
   | exact exactpplref19_Same.mono _ _ _
   | exact LeO.none _
   | refine LeO.ite ?_ ?_
   | refine LeO.bind ?_ (fun _ => ?_)
  ·intro y0 y1 y2 y3
   unfold exactppllaw19_DiagramExpands.l0
   repeat' first
   | (with_reducible exact ih0 _ _ _ _)
   | (with_reducible exact ih1 _ _ _ _)
   | (with_reducible exact exactpplmake_Src_Diagram.mono _ _ _ _ _ _)
   | (with_reducible exact exactpplref19_Same.mono _ _ _)
   | (with_reducible exact LeO.refl _)
   | (with_reducible exact LeO.none _)
   | (with_reducible refine LeO.ite ?_ ?_)
   | (with_reducible refine LeO.bind ?_ (fun _ => ?_))
   | exact ih0 _ _ _ _
   | exact ih1 _ _ _ _
   | exact exactpplmake_Src_Diagram.mono _ _ _ _ _ _
   | exact exactpplref19_Same.mono _ _ _
   | exact LeO.none _
   | refine LeO.ite ?_ ?_
   | refine LeO.bind ?_ (fun _ => ?_)
theorem exactppllaw19_DiagramExpands.mono : ∀ a0 k, LeO (exactppllaw19_DiagramExpands.f k a0) (exactppllaw19_DiagramExpands.f (k + 1) a0) := by
 intro a0 k
 obtain ⟨ih0, ih1⟩ := exactppllaw19_DiagramExpands.mono_l k
 unfold exactppllaw19_DiagramExpands.f
 repeat' first
   | (with_reducible exact ih0 _ _ _ _)
   | (with_reducible exact ih1 _ _ _ _)
   | (with_reducible exact exactpplmake_Src_Diagram.mono _ _ _ _ _ _)
   | (with_reducible exact exactpplref19_Same.mono _ _ _)
   | (with_reducible exact LeO.refl _)
   | (with_reducible exact LeO.none _)
   | (with_reducible refine LeO.ite ?_ ?_)
   | (with_reducible refine LeO.bind ?_ (fun _ => ?_))
   | exact ih0 _ _ _ _
   | exact ih1 _ _ _ _
   | exact exactpplmake_Src_Diagram.mono _ _ _ _ _ _
   | exact exactpplref19_Same.mono _ _ _
   | exact LeO.none _
   | refine LeO.ite ?_ ?_
   | refine LeO.bind ?_ (fun _ => ?_)
def exactppllaw19_DiagramExpands.T9 : Bool × List (List Nat × List Nat) := (true, [([], []), ([], []), ([1], [1]), ([2], [2]), ([], []), ([0, 3, 4], [0, 3, 4]), ([5], [5]), ([6], [6]), ([6], [6]), ([], []), ([9, 7, 5, 0, 1, 2, 3, 4, 5, 6, 7, 9], [7, 9]), ([8, 10, 0, 1, 2, 3, 4, 5, 6, 7, 8, 9, 10], [8])])
def exactppllaw19_DiagramExpands.B9 : List Nat := [0, 0, 2, 6, 0, 31, 63, 127, 127, 0, 767, 2047]
theorem exactppllaw19_DiagramExpands.tab9 : rtab .any (opsOf Tryd.f13 9) = exactppllaw19_DiagramExpands.T9 := by kernel_rfl
theorem exactppllaw19_DiagramExpands.bits9 : waitsOk exactppllaw19_DiagramExpands.T9.2 exactppllaw19_DiagramExpands.B9 = true := by kernel_rfl
set_option maxHeartbeats 8000000 in
set_option maxRecDepth 100000 in
theorem exactppllaw19_DiagramExpands.calls (k : Nat) (A0 : Option Addr) (c0 : Nat) (l0 : List Int) (r : Bool) (w : World) (hr0 : Kd.C (Kd.int .i64) w A0 l0.length l0) (hc0 : l0.length ≤ c0) (h : exactppllaw19_DiagramExpands.f k l0 = some r) (htab : PowTab w.heap.size w) :
  Calls Tryd.prog 13 #[.slice A0 l0.length c0] w fun e w' => e = .returned (.bool r) ∧ Below w.heap.size w w' := by
 have HTAB := Aside0.mk htab
 clear htab
 have hu31 := Tryd.underlying31
 have HR0 := Aside0.mk hr0
 have HC0 := Aside0.mk hc0
 clear hr0 hc0
 have HB := Aside0.mk (Below.refl w.heap.size w)
 have H : ((exactpplmake_New.f l0).bind fun bt932 => ((exactpplmake_Src_Diagram.f k bt932.1 bt932.2.1 bt932.2.2 0 3).bind fun bt936 => ((diagram_Sites.f bt936.1).bind fun bt942 => (if bt942.2 = 0 then (exactppllaw19_DiagramExpands.j0 k bt942.1 bt942.2 ((bt942.1.length : Int) == 0) bt936.1) else (exactppllaw19_DiagramExpands.j0 k bt942.1 bt942.2 true bt936.1))))) = some r := h
 clear h
 replace H := Option.bind_eq_some_iff.mp H
 obtain ⟨⟨t932, t933, t934⟩, A20, H⟩ := H
 replace H : ((exactpplmake_Src_Diagram.f k t932 t933 t934 0 3).bind fun bt936 => ((diagram_Sites.f bt936.1).bind fun bt942 => (if bt942.2 = 0 then (exactppllaw19_DiagramExpands.j0 k bt942.1 bt942.2 ((bt942.1.length : Int) == 0) bt936.1) else (exactppllaw19_DiagramExpands.j0 k bt942.1 bt942.2 true bt936.1)))) = some r := H
 have A2 := Aside0.mk A20
 clear A20
 replace H := Option.bind_eq_some_iff.mp H
 obtain ⟨⟨t936, t939, t940⟩, A30, H⟩ := H
 replace H : ((diagram_Sites.f t936).bind fun bt942 => (if bt942.2 = 0 then (exactppllaw19_DiagramExpands.j0 k bt942.1 bt942.2 ((bt942.1.length : Int) == 0) t936) else (exactppllaw19_DiagramExpands.j0 k bt942.1 bt942.2 true t936))) = some r := H
 have A3 := Aside0.mk A30
 clear A30
 replace H := Option.bind_eq_some_iff.mp H
 obtain ⟨⟨t942, t945⟩, A40, H⟩ := H
 replace H : (if t945 = 0 then (exactppllaw19_DiagramExpands.j0 k t942 t945 ((t942.length : Int) == 0) t936) else (exactppllaw19_DiagramExpands.j0 k t942 t945 true t936)) = some r := H
 have A4 := Aside0.mk A40
 clear A40
 have HC5 := Aside0.mk H
 clear H
 go_enter Tryd.func13, Tryd.ntmps13
 go_upto_region 3 with (first | ((with_reducible refine gate_callee (f := 15) rfl ?_); refine goesL_ (some 12) rfl rfl Tryd.func15 (by kernel_rfl) rfl #[.slice A0 l0.length c0] rfl (by (try simp only [List.map_toArray, List.map_cons, List.map_nil]); first | done | rfl | (simp only [List.length_drop, List.length_take]; rfl)) ?_; (with_reducible refine (exactpplmake_New.calls _ _ l0 t932 t933 t934 w _ ?side1 ?side2 ?side3 A2.out).mono ?_); (case side1 => repeat (first | (with_reducible first | exact HB.out | apply below_alloc | apply pw_below_drewN | apply below_drew1) | exact HB.out)); (case side2 => exact HR0.out); (case side3 => exact HC0.out); rintro e w6 ⟨g935, rfl, hi, hb, hb2⟩; refine ⟨_, rfl, ?_⟩; have HI935 := Aside0.mk (hi); replace HB := Aside0.mk (hb); (try clear hb); (try clear hb2); (try clear hk); (try clear hi)) | ((with_reducible refine gate_callee (f := 22) rfl ?_); refine goesL_ (some 13) rfl rfl Tryd.func22 (by kernel_rfl) rfl #[.pointer (some ⟨g935, 0, none⟩), .int .i64 0, .int .i64 3] rfl (by (try simp only [List.map_toArray, List.map_cons, List.map_nil]); first | done | rfl | (simp only [List.length_drop, List.length_take]; rfl)) ?_; (with_reducible refine (exactpplmake_Src_Diagram.calls k g935 t932 t933 t934 0 3 t936 t939 t940 w _ ?side1 ?side2 A3.out).mono ?_); (case side1 => repeat (first | (with_reducible first | exact HI935.out | apply IsS58.alloc | apply IsS58.drewN | apply IsS58.drew | apply IsS58.set_1 | apply IsS58.set_2) | exact HI935.out)); (case side2 => repeat (first | (with_reducible first | exact HB.out | apply below_alloc | apply pw_below_drewN | apply below_drew1 | refine below_set ?_ (IsS58.ge HI935.out)) | exact HB.out)); rintro e w7 ⟨v937, rfl, ho0, hi, hb, hk⟩; refine ⟨_, rfl, ?_⟩; have HO938 := Aside0.mk (Kd.V_lower (Kd.V_mono (ok' := fun k_ => k_ ≠ g935) ho0 (fun k_ hk_ => (IsS58.fresh si_ k_ hk_))) (below_size bl_)); replace HB := Aside0.mk (hb); replace HI935 := Aside0.mk (hi); (try clear hb); (try clear hb2); (try clear hk); (try clear hi); (try clear ho0)) | ((with_reducible refine gate_dst (N := 3) rfl ?_); (try (refine gate_guard (by rfl) ?_; dsimp only)); refine box_event ?hg (N := 3) ?hd (cs := #[.slice none 0 0]) (t := 31) ?hr ?_; (case hd => rfl); (case hg => rfl); (case hr => first | (go_simp; done) | (go_simp; rfl)); intro gb941 hg w8 hbox hb; have BK941 := Aside0.mk (hbox); have GW941 : Aside0 (w.heap.size ≤ gb941) := gw_ hg (below_size bl_); have GE941 := GW941; have NB935_941 := Aside0.mk ((by rw [hg]; exact Nat.ne_of_lt (IsS58.lt (show IsS58 w _ g935 t932 t939 t940 from si_)) : g935 ≠ gb941)); have NB941_935 := Aside0.mk ((by rw [hg]; exact Nat.ne_of_gt (IsS58.lt (show IsS58 w _ g935 t932 t939 t940 from si_)) : gb941 ≠ g935)); replace HO938 := Aside0.mk (Kd.V_below (Kd.V_elderB (pV_ HO938.out) gb941 (Nat.le_of_eq hg.symm)) hb); replace HI935 := Aside0.mk (IsS58.below si_ hb); replace HB := Aside0.mk (below_step bl_ hb); clear hb hbox hg; obtain ⟨Ao9, co9, eo9⟩ := Kd.V_slice HO938.out; subst eo9; have hnb10 := NB941_935.out; have hnc10 := NB935_941.out; obtain ⟨hcz11_0, hfz11_0⟩ := cf1_ BK941.out) | ((with_reducible refine gate_callee (f := 37) rfl ?_); refine goesL_ (some 16) rfl rfl Tryd.func37 (by kernel_rfl) rfl #[.agg #[.slice Ao9 t936.length co9]] rfl (by (try simp only [List.map_toArray, List.map_cons, List.map_nil]); first | done | rfl | (simp only [List.length_drop, List.length_take]; rfl)) ?_; (with_reducible refine (diagram_Sites.calls _ _ t936 t942 t945 _ ?side1 ?side2 A4.out ?tab).mono ?_); (case tab => exact ptab HTAB.out bl_); (case side1 => refine (Kd.V_reads' (e := 60) (base := w.heap.size) (ok := fun k_ => (k_ ≠ g935 ∧ k_ ≠ gb941)) (n := t936.length) (c := co9) ?_).2.2; exact (by (with_reducible repeat (first | apply Kd.V_alloc | apply Kd.V_drewN | apply Kd.V_drew)); exact (Kd.V_mono (Kd.V_far (p := ⟨gb941, 0, none⟩) (Kd.V_mono HO938.out (fun k_ hk => (⟨hk, by first | exact hk.2 | exact hk.1 | exact hk.2 | exact hk.1.1 | exact hk.1.2⟩ : _ ∧ k_ ≠ gb941))) (fun _ hk => hk.2) (.slice Ao9 t936.length co9)) (fun _ h_ => h_.1)))); (case side2 => exact (Kd.V_reads' HO938.out).2.1); rintro e w12 ⟨v943, rfl, ho0, hb⟩; refine ⟨_, rfl, ?_⟩; have HO944 := Aside0.mk (Kd.R_lower ho0 (below_size bl_)); replace HO938 := Aside0.mk (Kd.V_elder' (by (with_reducible repeat (first | apply Kd.V_alloc | apply Kd.V_drewN | apply Kd.V_drew)); exact (Kd.V_mono (Kd.V_far (p := ⟨gb941, 0, none⟩) (Kd.V_mono HO938.out (fun k_ hk => (⟨hk, by first | exact hk.2 | exact hk.1 | exact hk.2 | exact hk.1.1 | exact hk.1.2⟩ : _ ∧ k_ ≠ gb941))) (fun _ hk => hk.2) (.slice Ao9 t936.length co9)) (fun _ h_ => h_.1))) (Kd.R_base ho0) hb); replace HI935 := Aside0.mk (IsS58.below (show IsS58 w (w8.setCell ⟨gb941, 0, none⟩ (.slice Ao9 t936.length co9)) g935 t932 t939 t940 from si_) hb); replace BK941 := Aside0.mk (blk_below (g := gb941) (o := .cells #[.slice Ao9 t936.length co9] 31 (0, 0)) (by (with_reducible repeat (first | refine blk_drewN ?_ _ | refine blk_drew ?_ | refine blk_alloc ?_ _)); refine blk_put (cs := #[.slice none 0 0]) ?_ 0 _ rfl; (with_reducible repeat (first | refine blk_drewN ?_ _ | refine blk_drew ?_ | refine blk_alloc ?_ _)); exact BK941.out) hb); replace HB := Aside0.mk (below_step bl_ hb); (try clear hb); (try clear hb2); (try clear hk); (try clear hi); (try clear ho0)))
 (try simp only [Act.put, List.setIfInBounds_toArray, List.set_cons_zero, List.set_cons_succ])
 go_cut [25] (fun v25 wc => ∃ (kq : Nat) (x25_4 : Bool), v25 = .bool x25_4 ∧ Aside0 (exactppllaw19_DiagramExpands.j0 kq t942 t945 x25_4 t936 = some r) ∧ Aside0 (kq ≤ k) ∧ Aside0 (Kd.R (Kd.int .i64) 3 wc w.heap.size (fun _ => True) v943 t942) ∧ Aside0 (Kd.V k60 60 wc w.heap.size (fun k_ => some k_ ≠ (v943 : Value).ownBlock ∧ k_ ≠ gb941) (.slice Ao9 t936.length co9) t936) ∧ Aside0 (wc.heap[gb941]? = some (.cells #[(.slice Ao9 t936.length co9)] 31 (0, 0))) ∧ Aside0 (Below w.heap.size w wc))
 case first =>
  have H := HC5.out
  clear HC5
  by_cases c13 : t945 = 0
  ·rw [if_pos c13] at H
   have c13b0 : (t945 == 0) = true := beq_iff_eq.mpr c13
   have c13b1 : (t945 != 0) = false := bne_eq_false_iff_eq.mpr c13
   clear c13
   (first | rw [c13b0] | (simp only [i64_w, i32_w]; rw [c13b0]) | skip)
   have H' := Aside0.mk H
   clear H
   obtain ⟨Ao14, co14, eo14⟩ := Kd.R_slice HO944.out
   subst eo14
   go_wp2
   go_meet
   case rel => exact ⟨_, (((t942.length : Int) == 0)), rs_, H', ⟨by first | omega | exact Nat.le_refl _⟩, ⟨pR_ HO944.out⟩, ⟨by (with_reducible repeat (first | apply Kd.V_alloc | apply Kd.V_drewN | apply Kd.V_drew)); exact Kd.V_mono HO938.out (fun _ hk => ⟨hk.2, hk.1.2⟩)⟩, ⟨bk_⟩, ⟨bl_⟩⟩
  ·rw [if_neg c13] at H
   have c13b0 : (t945 == 0) = false := beq_eq_false_iff_ne.mpr c13
   have c13b1 : (t945 != 0) = true := bne_iff_ne.mpr c13
   (first | rw [c13b0] | (simp only [i64_w, i32_w]; rw [c13b0]) | skip)
   have H' := Aside0.mk H
   clear H
   go_wp2
   go_meet
   case rel => exact ⟨_, (true), rs_, H', ⟨by first | omega | exact Nat.le_refl _⟩, ⟨pR_ HO944.out⟩, ⟨by (with_reducible repeat (first | apply Kd.V_alloc | apply Kd.V_drewN | apply Kd.V_drew)); exact Kd.V_mono HO938.out (fun _ hk => ⟨hk.2, hk.1.2⟩)⟩, ⟨bk_⟩, ⟨bl_⟩⟩
 case rest =>
  clear HC5
  try clear c1
  try clear c2
  try clear p2
  try clear c3
  try clear c10
  try clear c13
  try clear c13b0
  try clear c13b1
  try clear hcz11_0 hfz11_0
  obtain ⟨kq, x25_4, rfl, HA, HJ4, HO_4, HO_942000, BK941, HB⟩ := hcut
  cases kq with
  | zero => exact absurd HA.out (by simp [exactppllaw19_DiagramExpands.j0])
  | succ kj4 =>
   have H := HA.out
   clear HA
   simp only [exactppllaw19_DiagramExpands.j0] at H
   by_cases c15 : x25_4 = true
   ·subst c15
    have H1 : (if t945 = 0 then ((exactppllaw19_awake.f).bind fun t946 => (some t946)) else (some false)) = some r := by rw [if_pos rfl] at H; exact H
    clear H
    have H := H1
    clear H1
    by_cases c16 : t945 = 0
    ·rw [if_pos c16] at H
     have c16b0 : (t945 == 0) = true := beq_iff_eq.mpr c16
     have c16b1 : (t945 != 0) = false := bne_eq_false_iff_eq.mpr c16
     clear c16
     replace H := Option.bind_eq_some_iff.mp H
     obtain ⟨t946, A170, H⟩ := H
     replace H : (some t946) = some r := H
     have A17 := Aside0.mk A170
     clear A170
     obtain rfl := Option.some.inj H
     go_wp2_with (first | (go_at_call 17; (with_reducible refine (exactppllaw19_awake.calls  t946 _ A17.out ?tab).mono ?_); (case tab => exact ptab HTAB.out bl_); rintro e w18 ⟨rfl, hb⟩; replace HO_4 := Aside0.mk (Kd.R_below (pR_ HO_4.out) hb); replace HO_942000 := Aside0.mk (Kd.V_below (pV_ HO_942000.out) hb); replace BK941 := Aside0.mk (blk_below (g := gb941) (o := .cells #[.slice Ao9 t936.length co9] 31 (0, 0)) bk_ hb); replace HB := Aside0.mk (below_step bl_ hb); (try clear hb); (try clear hb2); (try clear hk); (try clear hi)))
     go_ret
     exact ⟨re_, bl_⟩
    ·rw [if_neg c16] at H
     have c16b0 : (t945 == 0) = false := beq_eq_false_iff_ne.mpr c16
     have c16b1 : (t945 != 0) = true := bne_iff_ne.mpr c16
     obtain rfl := Option.some.inj H
     go_wp2
     go_ret
     exact ⟨re_, bl_⟩
   ·replace c15 := Bool.eq_false_iff.mpr c15
    subst c15
    have H1 : (exactppllaw19_DiagramExpands.l0 kj4 t942 ([] : List (S31)) 0 t936) = some r := by rw [if_neg (show ¬ (false = true) by decide)] at H; exact H
    clear H
    have H := H1
    clear H1
    have H' := Aside0.mk H
    clear H
    go_wp2
    go_loopg [6, 7] kj4 (fun kq v6 v7 w' => ∃ (x6_2 : List (S31)) (x7_2 : Int), v7 = .int .i64 x7_2 ∧ Aside0 (exactppllaw19_DiagramExpands.l0 kq t942 x6_2 x7_2 t936 = some r) ∧ Aside0 (kq ≤ kj4) ∧ Aside0 (Kd.R (Kd.int .i64) 3 w' w.heap.size (fun _ => True) v943 t942) ∧ Aside0 (Kd.N k31 31 w' w.heap.size (fun k_ => some k_ ≠ (v943 : Value).ownBlock ∧ k_ ≠ gb941) v6 x6_2) ∧ Aside0 (Kd.V k60 60 w' w.heap.size (fun k_ => some k_ ≠ (v943 : Value).ownBlock ∧ some k_ ≠ (v6 : Value).ownBlock ∧ k_ ≠ gb941) (.slice Ao9 t936.length co9) t936) ∧ Aside0 (w'.heap[gb941]? = some (.cells #[(.slice Ao9 t936.length co9)] 31 (0, 0))) ∧ Aside0 (Below w.heap.size w w'))
    case atStart => exact ⟨(([] : List (S31))), (0), rs_, H', ⟨Nat.le_refl _⟩, ⟨pR_ HO_4.out⟩, ⟨by first | exact Kd.R_nil _ _ _ _ _ | exact Kd.N_nil _ _ _ _ _ | exact Kd.V_nil _ _ _ _ _ | exact Kd.Q_nil _ _ _ _ _ | exact Kd.S_nil _ _ _ _ _⟩, ⟨by (with_reducible repeat (first | apply Kd.V_alloc | apply Kd.V_drewN | apply Kd.V_drew)); exact Kd.V_mono HO_942000.out (fun _ hk => ⟨hk.1, ⟨(by simp [Value.ownBlock]), hk.2⟩⟩)⟩, ⟨bk_⟩, ⟨bl_⟩⟩
    case round =>
     clear H'
     try clear c1
     try clear c2
     try clear p2
     try clear c3
     try clear c10
     try clear c13
     try clear c13b0
     try clear c13b1
     try clear c15
     try clear c16
     try clear c16b0
     try clear c16b1
     try clear hcz11_0 hfz11_0
     try clear p2
     obtain ⟨x6_2, x7_2, rfl, HA, HK2, HO_4, HO_6, HO_942000, BK941, HB⟩ := hrel
     cases gk with
     | zero => exact absurd HA.out (by simp [exactppllaw19_DiagramExpands.l0])
     | succ k2 =>
      have H := HA.out
      clear HA
      simp only [exactppllaw19_DiagramExpands.l0] at H
      by_cases c19 : 0 < (t942.length : Int)
      ·rw [if_pos c19] at H
       have c19b0 : decide (0 < (t942.length : Int)) = true := decide_eq_true c19
       have c19b1 : decide (0 < t942.length) = true := decide_eq_true (by omega)
       clear c19
       replace H := Option.bind_eq_some_iff.mp H
       obtain ⟨t948, A200, H⟩ := H
       replace H : (if x7_2 < t948 then ((diagram_Restrict.f t936 (rd t942 0) x7_2).bind fun bt950 => (if bt950.2 = 0 then (if x6_2.length < 5864062014805 then (exactppllaw19_DiagramExpands.l0 k2 t942 (x6_2 ++ [(⟨bt950.1⟩ : S31)]) (wrap64 (x7_2 + 1)) t936) else (none)) else (some false))) else ((diagram_Branch.f (rd t942 0) x6_2).bind fun bt959 => (if bt959.2 = 0 then ((exactpplref19_Same.f k2 bt959.1 t936).bind fun t964 => (if t964 = true then ((exactppllaw19_awake.f).bind fun t965 => (some t965)) else (some false))) else (some false)))) = some r := H
       have A20 := Aside0.mk A200
       clear A200
       by_cases c21 : x7_2 < t948
       ·rw [if_pos c21] at H
        have c21b0 : decide (x7_2 < t948) = true := decide_eq_true c21
        clear c21
        replace H := Option.bind_eq_some_iff.mp H
        obtain ⟨⟨t950, t953⟩, A220, H⟩ := H
        replace H : (if t953 = 0 then (if x6_2.length < 5864062014805 then (exactppllaw19_DiagramExpands.l0 k2 t942 (x6_2 ++ [(⟨t950⟩ : S31)]) (wrap64 (x7_2 + 1)) t936) else (none)) else (some false)) = some r := H
        have A22 := Aside0.mk A220
        clear A220
        by_cases c23 : t953 = 0
        ·rw [if_pos c23] at H
         have c23b0 : (t953 == 0) = true := beq_iff_eq.mpr c23
         have c23b1 : (t953 != 0) = false := bne_eq_false_iff_eq.mpr c23
         clear c23
         by_cases c24 : x6_2.length < 5864062014805
         ·rw [if_pos c24] at H
          have LMc24 := Aside0.mk c24
          clear c24
          obtain ⟨y955, hy955⟩ : ∃ y_ : List (S31), y_ = (x6_2 ++ [(⟨t950⟩ : S31)]) := ⟨_, rfl⟩
          replace H : (exactppllaw19_DiagramExpands.l0 k2 t942 y955 (wrap64 (x7_2 + 1)) t936) = some r := by first | (rw [hy955]; with_reducible exact H) | (have H2_ := (Option.bind_some _ _).symm.trans H; rw [hy955]; with_reducible exact H2_) | (have H2_ := (Option.bind_some _ _).symm.trans H; with_reducible exact H2_) | with_reducible exact H | (rw [hy955]; exact H) | exact H
          have Ny955 := Aside0.mk hy955
          clear hy955
          have H' := Aside0.mk H
          clear H
          obtain ⟨Ao25, co25, eo25⟩ := Kd.R_slice HO_4.out
          subst eo25
          have p947 : 0 ≤ (0 : Int) := (by omega)
          have q947 : 0 < (t942.length : Int) := dt_
          obtain ⟨ad947, e947, hx947_0⟩ := Kd.at_int (Kd.R_reads' HO_4.out).2.2 0 p947 q947
          cases e947
          have qi947 : (0 < t942.length) = True := eq_true (by omega)
          (try rw [show ((0 : Int)).toNat = 0 from rfl] at hx947_0)
          (try rw [Addr.add_zero'] at hx947_0)
          replace p947 := eq_true p947
          replace q947 := eq_true q947
          try go_wp2_with (first | ((with_reducible refine gate_callee (f := 42) rfl ?_); refine goesL_ (some 35) rfl rfl Tryd.func42 (by kernel_rfl) rfl #[.int .i64 (rd t942 0)] rfl (by (try simp only [List.map_toArray, List.map_cons, List.map_nil]); first | done | rfl | (simp only [List.length_drop, List.length_take]; rfl)) ?_; (with_reducible refine (exactpplmake_Width.calls (rd t942 0) t948 _ A20.out).mono ?_); rintro e w' ⟨rfl, ⟨nd, rfl⟩⟩; refine ⟨_, rfl, ?_⟩; (try (rw [drewN_self wr]; generalize hq_ : World.drewN wr _ = wr; replace HO_4 : Aside0 (Kd.R (Kd.int .i64) 3 wr w.heap.size (fun _ => True) (.slice (some ad947) t942.length co25) t942) := ⟨by rw [← hq_]; exact (pR_ HO_4.out)⟩; replace HO_6 : Aside0 (Kd.N k31 31 wr w.heap.size (fun k_ => some k_ ≠ (.slice (some ad947) t942.length co25 : Value).ownBlock ∧ k_ ≠ gb941) u6 x6_2) := ⟨by rw [← hq_]; exact (pN_ HO_6.out)⟩; replace HO_942000 : Aside0 (Kd.V k60 60 wr w.heap.size (fun k_ => some k_ ≠ (.slice (some ad947) t942.length co25 : Value).ownBlock ∧ some k_ ≠ (u6 : Value).ownBlock ∧ k_ ≠ gb941) (.slice Ao9 t936.length co9) t936) := ⟨by rw [← hq_]; exact (pV_ HO_942000.out)⟩; replace BK941 : Aside0 (wr.heap[gb941]? = some (.cells #[.slice Ao9 t936.length co9] 31 (0, 0))) := ⟨by rw [← hq_]; exact bk_⟩; replace HB : Aside0 (Below w.heap.size w wr) := ⟨by rw [← hq_]; exact bl_⟩; clear hq_))))
          replace HO_4 := Aside0.mk (Kd.R_drew HO_4.out)
          replace HO_6 := Aside0.mk (Kd.N_drew HO_6.out)
          replace HO_942000 := Aside0.mk (Kd.V_drew HO_942000.out)
          replace BK941 := Aside0.mk (blk_drew BK941.out)
          replace HB := Aside0.mk (below_drew1 HB.out)
          have p949 : 0 ≤ (0 : Int) := (by omega)
          have q949 : 0 < (t942.length : Int) := dt_
          obtain ⟨ad949, e949, hx949_0⟩ := Kd.at_int (Kd.R_reads' HO_4.out).2.2 0 p949 q949
          obtain rfl : ad947 = ad949 := (by injection e949)
          have qi949 : (0 < t942.length) = True := eq_true (by omega)
          (try rw [show ((0 : Int)).toNat = 0 from rfl] at hx949_0)
          (try rw [Addr.add_zero'] at hx949_0)
          replace p949 := eq_true p949
          replace q949 := eq_true q949
          refine start_ (n := 12) (S := fun w' => w'.cell? ⟨gb941, 0, none⟩ = some (.slice Ao9 t936.length co9) ∧ w'.cell? ad947 = some (.int .i64 (rd t942 0))) (ds := []) #[false, false, false, false, false, false, false, false, false, false, false, false] (by kernel_rfl) rfl rfl ⟨(blk_cell BK941.out 0).trans rfl, hx949_0⟩ (fun hHeld => ?_); refine with_tabW exactppllaw19_DiagramExpands.tab9 exactppllaw19_DiagramExpands.bits9 (fun HT_ HW_ => ?_)
          generalize wr.drew = w26 at HO_4 HO_6 HO_942000 BK941 HB hx949_0 hHeld ⊢
          refine pu_ HT_ 1 41 (bm 12 2) ?_
          refine pu_ HT_ 2 42 (bm 12 6) ?_
          refine pu_ HT_ 4 44 (bm 12 22) ?_
          refine ta_ HT_ HW_ 0 40 (bm 12 23) hHeld ?_
          refine ta_ HT_ HW_ 3 43 (bm 12 31) hHeld ?_
          refine join_ (σ := Value × Nat) 2 #[true, true, true, true, true, true, true, true, true, true, false, false] (fun s_ => [(45, .tuple #[.agg #[s_.1], .int .i64 t953]), (8, .pointer (some ⟨s_.2, 0, none⟩)), (39, .tuple #[.agg #[s_.1], .int .i64 t953]), (46, .agg #[s_.1]), (47, .int .i64 t953)]) (fun s_ w' => (w'.cell? ⟨gb941, 0, none⟩ = some (.slice Ao9 t936.length co9) ∧ w'.cell? ad947 = some (.int .i64 (rd t942 0))) ∧ (Kd.V k60 60 w' w.heap.size (fun k_ => some k_ ≠ (.slice (some ad947) t942.length co25 : Value).ownBlock ∧ some k_ ≠ (u6 : Value).ownBlock ∧ k_ ≠ gb941 ∧ k_ ≠ s_.2) s_.1 t950) ∧ (Kd.R (Kd.int .i64) 3 w' w.heap.size (fun _ => True) (.slice (some ad947) t942.length co25) t942) ∧ (Kd.N k31 31 w' w.heap.size (fun k_ => some k_ ≠ (.slice (some ad947) t942.length co25 : Value).ownBlock ∧ k_ ≠ gb941 ∧ k_ ≠ s_.2) u6 x6_2) ∧ (Kd.V k60 60 w' w.heap.size (fun k_ => some k_ ≠ (.slice (some ad947) t942.length co25 : Value).ownBlock ∧ some k_ ≠ (u6 : Value).ownBlock ∧ k_ ≠ gb941 ∧ k_ ≠ s_.2) (.slice Ao9 t936.length co9) t936) ∧ (w'.heap[gb941]? = some (.cells #[.slice Ao9 t936.length co9] 31 (0, 0))) ∧ (w'.heap[s_.2]? = some (.cells #[.slice none 0 0] 31 (0, 0))) ∧ (w.heap.size ≤ s_.2) ∧ (w.heap.size ≤ s_.2) ∧ (gb941 ≠ s_.2) ∧ (s_.2 ≠ gb941) ∧ (Below w.heap.size w w')) ?_ ?_
          rotate_left
          ·intro hCont
           refine two_ (i := 5) (j := 9) (Ni := some 45) (Nj := some 8) #[true, true, true, true, true, true, false, false, false, false, false, false] #[true, true, true, true, true, false, false, false, false, true, false, false] rfl rfl rfl rfl (two_of HT_.out (by kernel_rfl)) (by decide) (by decide) (fun K hK => ?_) (fun K hK => ?_)
           ·skip
            refine goes_ Tryd.func30 (by kernel_rfl) rfl #[.agg #[.slice Ao9 t936.length co9], .int .i64 (rd t942 0), .int .i64 x7_2] (by rfl) rfl rfl (by (try simp only [List.map_toArray, List.map_cons, List.map_nil]); first | done | rfl | (simp only [List.length_drop, List.length_take]; rfl)) ?_
            with_reducible refine (diagram_Restrict.calls _ _ t936 (rd t942 0) x7_2 t950 t953 _ ?side1 ?side2 A22.out ?tab).mono ?_
            (case tab => exact ptab HTAB.out bl_)
            (case side1 => repeat (first | exact (Kd.V_reads' HO_942000.out).2.2 | (with_reducible refine Kd.C_alloc ?_ _) | (with_reducible refine Kd.C_drewN ?_ _) | (with_reducible refine Kd.C_drew ?_)))
            (case side2 => exact (Kd.V_reads' HO_942000.out).2.1)
            rintro e w27 ⟨v951, rfl, ho0, hb⟩
            have HS1_ := (hb.cell (World.block_lt_of_cell? _ _ (hHeld.2))).trans (hHeld.2)
            refine ⟨_, rfl, ?_⟩
            have HO952 := Aside0.mk (Kd.V_lower (Kd.V_mono (ok' := fun k_ => some k_ ≠ (.slice (some ad947) t942.length co25 : Value).ownBlock ∧ some k_ ≠ (u6 : Value).ownBlock ∧ k_ ≠ gb941) ho0 (fun k_ hk_ => ⟨(Kd.fresh' (Kd.R_lt (pR_ HO_4.out)) k_ hk_), (Kd.fresh' (Kd.N_lt (pN_ HO_6.out)) k_ hk_), (Kd.freshB (g := gb941) (o := .cells #[.slice Ao9 t936.length co9] 31 (0, 0)) bk_ k_ hk_)⟩)) (below_size bl_))
            replace HO_4 := Aside0.mk (Kd.R_below (pR_ HO_4.out) hb)
            replace HO_6 := Aside0.mk (Kd.N_below (pN_ HO_6.out) hb)
            replace HO_942000 := Aside0.mk (Kd.V_below (pV_ HO_942000.out) hb)
            replace BK941 := Aside0.mk (blk_below (g := gb941) (o := .cells #[.slice Ao9 t936.length co9] 31 (0, 0)) bk_ hb)
            replace HB := Aside0.mk (below_step bl_ hb)
            (try clear hb)
            (try clear hb2)
            (try clear hk)
            (try clear hi)
            (try clear ho0)
            refine hK.out _ _ ⟨(blk_cell BK941.out 0).trans rfl, HS1_⟩ (fun hHeld => ?_)
            clear hK K
            refine norm_ (a' := ?_) ?_ ?_
            rotate_left
            ·show Act.put _ (some 45) _ = _
             simp only [Act.put, List.setIfInBounds_toArray, List.set_cons_zero, List.set_cons_succ, i64_w, i32_w]
             rfl
            refine pu_ HT_ 6 39 (bm 12 127) ?_
            refine pu_ HT_ 7 46 (bm 12 255) ?_
            refine pu_ HT_ 8 47 (bm 12 511) ?_
            refine one_ (i := 9) (N := some 8) #[true, true, true, true, true, true, true, true, true, true, false, false] rfl rfl (one_of HT_.out (by kernel_rfl)) (by decide) (fun K hK => ?_)
            refine box_step ?hg (N := 8) ?hd (cs := #[.slice none 0 0]) (t := 31) ?hr ?_; (case hd => rfl); (case hg => rfl); (case hr => first | (go_simp; done) | (go_simp; rfl))
            intro gb954 hg w28 hbox hb
            have HS1_ := (hb.cell (World.block_lt_of_cell? _ _ (hHeld.2))).trans (hHeld.2)
            have BK954 := Aside0.mk (hbox)
            have GW954 : Aside0 (w.heap.size ≤ gb954) := gw_ hg (below_size bl_)
            have GE954 := GW954
            have NB941_954 := Aside0.mk ((by rw [hg]; exact Nat.ne_of_lt (blk_lt (g := gb941) (o := .cells #[.slice Ao9 t936.length co9] 31 (0, 0)) bk_) : gb941 ≠ gb954))
            have NB954_941 := Aside0.mk ((by rw [hg]; exact Nat.ne_of_gt (blk_lt (g := gb941) (o := .cells #[.slice Ao9 t936.length co9] 31 (0, 0)) bk_) : gb954 ≠ gb941))
            replace HO_4 := Aside0.mk (Kd.R_below (pR_ HO_4.out) hb)
            replace HO_6 := Aside0.mk (Kd.N_below (Kd.N_elderB (pN_ HO_6.out) gb954 (Nat.le_of_eq hg.symm)) hb)
            replace HO_942000 := Aside0.mk (Kd.V_below (Kd.V_elderB (pV_ HO_942000.out) gb954 (Nat.le_of_eq hg.symm)) hb)
            replace HO952 := Aside0.mk (Kd.V_below (Kd.V_elderB (pV_ HO952.out) gb954 (Nat.le_of_eq hg.symm)) hb)
            replace BK941 := Aside0.mk (blk_below (g := gb941) (o := .cells #[.slice Ao9 t936.length co9] 31 (0, 0)) bk_ hb)
            replace HB := Aside0.mk (below_step bl_ hb)
            clear hb hbox hg
            refine hK.out _ _ ⟨(blk_cell BK941.out 0).trans rfl, HS1_⟩ (fun hHeld => ?_)
            clear hK K
            refine norm_ (a' := ?_) ?_ ?_
            rotate_left
            ·show Act.put _ (some 8) _ = _
             simp only [Act.put, List.setIfInBounds_toArray, List.set_cons_zero, List.set_cons_succ, i64_w, i32_w]
             rfl
            exact norm_ (by simp only [putAll, Act.put, List.setIfInBounds_toArray, List.set_cons_zero, List.set_cons_succ]) (hCont (v951, gb954) _ ⟨hHeld, (by (with_reducible repeat (first | apply Kd.V_alloc | apply Kd.V_drewN | apply Kd.V_drew)); exact Kd.V_mono HO952.out (fun _ hk => ⟨hk.1.1, ⟨hk.1.2.1, ⟨hk.1.2.2, hk.2⟩⟩⟩)), (pR_ HO_4.out), (by (with_reducible repeat (first | apply Kd.N_alloc | apply Kd.N_drewN | apply Kd.N_drew)); exact Kd.N_mono HO_6.out (fun _ hk => ⟨hk.1.1, ⟨hk.1.2, hk.2⟩⟩)), (by (with_reducible repeat (first | apply Kd.V_alloc | apply Kd.V_drewN | apply Kd.V_drew)); exact Kd.V_mono HO_942000.out (fun _ hk => ⟨hk.1.1, ⟨hk.1.2.1, ⟨hk.1.2.2, hk.2⟩⟩⟩)), bk_, bk_, GW954.out, GE954.out, NB941_954.out, NB954_941.out, bl_⟩)
           ·skip
            refine box_step ?hg (N := 8) ?hd (cs := #[.slice none 0 0]) (t := 31) ?hr ?_; (case hd => rfl); (case hg => rfl); (case hr => first | (go_simp; done) | (go_simp; rfl))
            intro gb954 hg w27 hbox hb
            have HS1_ := (hb.cell (World.block_lt_of_cell? _ _ (hHeld.2))).trans (hHeld.2)
            have BK954 := Aside0.mk (hbox)
            have GW954 : Aside0 (w.heap.size ≤ gb954) := gw_ hg (below_size bl_)
            have GE954 := GW954
            have NB941_954 := Aside0.mk ((by rw [hg]; exact Nat.ne_of_lt (blk_lt (g := gb941) (o := .cells #[.slice Ao9 t936.length co9] 31 (0, 0)) bk_) : gb941 ≠ gb954))
            have NB954_941 := Aside0.mk ((by rw [hg]; exact Nat.ne_of_gt (blk_lt (g := gb941) (o := .cells #[.slice Ao9 t936.length co9] 31 (0, 0)) bk_) : gb954 ≠ gb941))
            replace HO_4 := Aside0.mk (Kd.R_below (pR_ HO_4.out) hb)
            replace HO_6 := Aside0.mk (Kd.N_below (Kd.N_elderB (pN_ HO_6.out) gb954 (Nat.le_of_eq hg.symm)) hb)
            replace HO_942000 := Aside0.mk (Kd.V_below (Kd.V_elderB (pV_ HO_942000.out) gb954 (Nat.le_of_eq hg.symm)) hb)
            replace BK941 := Aside0.mk (blk_below (g := gb941) (o := .cells #[.slice Ao9 t936.length co9] 31 (0, 0)) bk_ hb)
            replace HB := Aside0.mk (below_step bl_ hb)
            clear hb hbox hg
            refine hK.out _ _ ⟨(blk_cell BK941.out 0).trans rfl, HS1_⟩ (fun hHeld => ?_)
            clear hK K
            refine norm_ (a' := ?_) ?_ ?_
            rotate_left
            ·show Act.put _ (some 8) _ = _
             simp only [Act.put, List.setIfInBounds_toArray, List.set_cons_zero, List.set_cons_succ, i64_w, i32_w]
             rfl
            refine one_ (i := 5) (N := some 45) #[true, true, true, true, true, true, false, false, false, true, false, false] rfl rfl (one_of HT_.out (by kernel_rfl)) (by decide) (fun K hK => ?_)
            refine goes_ Tryd.func30 (by kernel_rfl) rfl #[.agg #[.slice Ao9 t936.length co9], .int .i64 (rd t942 0), .int .i64 x7_2] (by rfl) rfl rfl (by (try simp only [List.map_toArray, List.map_cons, List.map_nil]); first | done | rfl | (simp only [List.length_drop, List.length_take]; rfl)) ?_
            with_reducible refine (diagram_Restrict.calls _ _ t936 (rd t942 0) x7_2 t950 t953 _ ?side1 ?side2 A22.out ?tab).mono ?_
            (case tab => exact ptab HTAB.out bl_)
            (case side1 => repeat (first | exact (Kd.V_reads' HO_942000.out).2.2 | (with_reducible refine Kd.C_alloc ?_ _) | (with_reducible refine Kd.C_drewN ?_ _) | (with_reducible refine Kd.C_drew ?_)))
            (case side2 => exact (Kd.V_reads' HO_942000.out).2.1)
            rintro e w28 ⟨v951, rfl, ho0, hb⟩
            have HS1_ := (hb.cell (World.block_lt_of_cell? _ _ (hHeld.2))).trans (hHeld.2)
            refine ⟨_, rfl, ?_⟩
            have HO952 := Aside0.mk (Kd.V_lower (Kd.V_mono (ok' := fun k_ => some k_ ≠ (.slice (some ad947) t942.length co25 : Value).ownBlock ∧ some k_ ≠ (u6 : Value).ownBlock ∧ k_ ≠ gb941 ∧ k_ ≠ gb954) ho0 (fun k_ hk_ => ⟨(Kd.fresh' (Kd.R_lt (pR_ HO_4.out)) k_ hk_), (Kd.fresh' (Kd.N_lt (pN_ HO_6.out)) k_ hk_), (Kd.freshB (g := gb941) (o := .cells #[.slice Ao9 t936.length co9] 31 (0, 0)) bk_ k_ hk_), (Kd.freshB (g := gb954) (o := .cells #[.slice none 0 0] 31 (0, 0)) bk_ k_ hk_)⟩)) (below_size bl_))
            replace HO_4 := Aside0.mk (Kd.R_below (pR_ HO_4.out) hb)
            replace HO_6 := Aside0.mk (Kd.N_below (pN_ HO_6.out) hb)
            replace HO_942000 := Aside0.mk (Kd.V_below (pV_ HO_942000.out) hb)
            replace BK941 := Aside0.mk (blk_below (g := gb941) (o := .cells #[.slice Ao9 t936.length co9] 31 (0, 0)) bk_ hb)
            replace BK954 := Aside0.mk (blk_below (g := gb954) (o := .cells #[.slice none 0 0] 31 (0, 0)) bk_ hb)
            replace HB := Aside0.mk (below_step bl_ hb)
            (try clear hb)
            (try clear hb2)
            (try clear hk)
            (try clear hi)
            (try clear ho0)
            refine hK.out _ _ ⟨(blk_cell BK941.out 0).trans rfl, HS1_⟩ (fun hHeld => ?_)
            clear hK K
            refine norm_ (a' := ?_) ?_ ?_
            rotate_left
            ·show Act.put _ (some 45) _ = _
             simp only [Act.put, List.setIfInBounds_toArray, List.set_cons_zero, List.set_cons_succ, i64_w, i32_w]
             rfl
            refine pu_ HT_ 6 39 (bm 12 639) ?_
            refine pu_ HT_ 7 46 (bm 12 767) ?_
            refine pu_ HT_ 8 47 (bm 12 1023) ?_
            exact norm_ (by simp only [putAll, Act.put, List.setIfInBounds_toArray, List.set_cons_zero, List.set_cons_succ]) (hCont (v951, gb954) _ ⟨hHeld, (pV_ HO952.out), (pR_ HO_4.out), (by (with_reducible repeat (first | apply Kd.N_alloc | apply Kd.N_drewN | apply Kd.N_drew)); exact Kd.N_mono HO_6.out (fun _ hk => ⟨hk.1.1, ⟨hk.1.2, hk.2⟩⟩)), (by (with_reducible repeat (first | apply Kd.V_alloc | apply Kd.V_drewN | apply Kd.V_drew)); exact Kd.V_mono HO_942000.out (fun _ hk => ⟨hk.1.1, ⟨hk.1.2.1, ⟨hk.1.2.2, hk.2⟩⟩⟩)), bk_, bk_, GW954.out, GE954.out, NB941_954.out, NB954_941.out, bl_⟩)
          rintro ⟨v951, gb954⟩ w29 ⟨hS_, h0_, h1_, h2_, h3_, h4_, h5_, h6_, h7_, h8_, h9_, h10_⟩
          have HO952 : Aside0 (Kd.V k60 60 w29 w.heap.size (fun k_ => some k_ ≠ (.slice (some ad947) t942.length co25 : Value).ownBlock ∧ some k_ ≠ (u6 : Value).ownBlock ∧ k_ ≠ gb941 ∧ k_ ≠ gb954) v951 t950) := ⟨h0_⟩
          have BK954 : Aside0 (w29.heap[gb954]? = some (.cells #[.slice none 0 0] 31 (0, 0))) := ⟨h5_⟩
          have GW954 : Aside0 (w.heap.size ≤ gb954) := ⟨h6_⟩
          have GE954 : Aside0 (w.heap.size ≤ gb954) := ⟨h7_⟩
          have NB941_954 : Aside0 (gb941 ≠ gb954) := ⟨h8_⟩
          have NB954_941 : Aside0 (gb954 ≠ gb941) := ⟨h9_⟩
          replace HO_4 : Aside0 (Kd.R (Kd.int .i64) 3 w29 w.heap.size (fun _ => True) (.slice (some ad947) t942.length co25) t942) := ⟨h1_⟩
          replace HO_6 : Aside0 (Kd.N k31 31 w29 w.heap.size (fun k_ => some k_ ≠ (.slice (some ad947) t942.length co25 : Value).ownBlock ∧ k_ ≠ gb941 ∧ k_ ≠ gb954) u6 x6_2) := ⟨h2_⟩
          replace HO_942000 : Aside0 (Kd.V k60 60 w29 w.heap.size (fun k_ => some k_ ≠ (.slice (some ad947) t942.length co25 : Value).ownBlock ∧ some k_ ≠ (u6 : Value).ownBlock ∧ k_ ≠ gb941 ∧ k_ ≠ gb954) (.slice Ao9 t936.length co9) t936) := ⟨h3_⟩
          replace BK941 : Aside0 (w29.heap[gb941]? = some (.cells #[.slice Ao9 t936.length co9] 31 (0, 0))) := ⟨h4_⟩
          replace HB : Aside0 (Below w.heap.size w w29) := ⟨h10_⟩
          clear h0_ h1_ h2_ h3_ h4_ h5_ h6_ h7_ h8_ h9_ h10_
          have hHeld : w29.cell? ⟨gb941, 0, none⟩ = some (.slice Ao9 t936.length co9) ∧ w29.cell? ad947 = some (.int .i64 (rd t942 0)) := hS_
          obtain ⟨Ao30, co30, eo30⟩ := Kd.V_slice HO952.out
          (first | subst eo30 | (injection eo30 with f1_ f2_ f3_; have f4_ := f1_.symm; have f5_ := f3_.symm; clear f1_ f2_ f3_; subst f4_; subst f5_))
          refine norm_ (a' := ?_) ?_ ?_
          rotate_left
          ·simp only [putAll, Act.put, List.setIfInBounds_toArray, List.set_cons_zero, List.set_cons_succ]
           rfl
          refine one_ (i := 10) (N := none) #[true, true, true, true, true, true, true, true, true, true, true, false] rfl rfl (one_of HT_.out (by kernel_rfl)) (by decide) (fun K hK => ?_)
          have hs31 : w29.cell? ⟨gb954, 0, none⟩ = some (.slice none 0 0) := (blk_cell BK954.out 0).trans rfl
          have hfs31 := blk_frozen BK954.out 0
          have hns31_0 := NB941_954.out
          have hms31_0 := NB954_941.out
          refine skip_ (w1 := ?_) (by rfl) rfl ?_ ?_
          rotate_left
          ·go_simp
           rfl
          refine hK.out _ _ ⟨((cell_far (p := ⟨gb954, _, none⟩) NB941_954.out _).trans (hHeld.1)), ((cell_far (p := ⟨gb954, _, none⟩) (by first | exact Kd.own_blk (Kd.R_ne HO_4.out BK954.out (by decide)) | (rw [add_block]; exact Kd.own_blk (Kd.R_ne HO_4.out BK954.out (by decide))) | (show (Addr.add _ _).block ≠ _; rw [add_block]; exact Kd.own_blk (Kd.R_ne HO_4.out BK954.out (by decide))) | (dsimp only; exact Kd.own_blk (Kd.R_ne HO_4.out BK954.out (by decide)))) _).trans (hHeld.2))⟩ (fun hHeld => ?_)
          clear hK K
          refine pu_ HT_ 11 9 #[true, true, true, true, true, true, true, true, true, true, true, true] ?_
          refine done_ (done_of HT_.out (by kernel_rfl)) ?_
          have n0_ : Aside0 (Kd.R (Kd.int .i64) 3 (w29.setCell ⟨gb954, 0, none⟩ (.slice Ao30 t950.length co30)) w.heap.size (fun _ => True) (.slice (some ad947) t942.length co25) t942) := ⟨by (with_reducible repeat (first | apply Kd.R_alloc | apply Kd.R_drewN | apply Kd.R_drew)); exact Kd.R_mono (Kd.R_far (p := ⟨gb954, 0, none⟩) (Kd.R_types HO_4.out BK954.out (by decide)) (fun _ hk => hk.2) (.slice Ao30 t950.length co30)) (fun _ hk => trivial)⟩
          have n1_ : Aside0 (Kd.N k31 31 (w29.setCell ⟨gb954, 0, none⟩ (.slice Ao30 t950.length co30)) w.heap.size (fun k_ => some k_ ≠ (.slice (some ad947) t942.length co25 : Value).ownBlock ∧ k_ ≠ gb941 ∧ k_ ≠ gb954) u6 x6_2) := ⟨by (with_reducible repeat (first | apply Kd.N_alloc | apply Kd.N_drewN | apply Kd.N_drew)); exact Kd.N_mono (Kd.N_far (p := ⟨gb954, 0, none⟩) (Kd.N_mono HO_6.out (fun k_ hk => (⟨hk, by first | exact hk.2.2 | exact hk.1 | exact hk.2 | exact hk.1.1 | exact hk.1.2⟩ : _ ∧ k_ ≠ gb954))) (fun _ hk => hk.2) (.slice Ao30 t950.length co30)) (fun _ hk => ⟨hk.1.1, ⟨hk.1.2.1, hk.1.2.2⟩⟩)⟩
          have n2_ : Aside0 (Kd.V k60 60 (w29.setCell ⟨gb954, 0, none⟩ (.slice Ao30 t950.length co30)) w.heap.size (fun k_ => some k_ ≠ (.slice (some ad947) t942.length co25 : Value).ownBlock ∧ some k_ ≠ (u6 : Value).ownBlock ∧ k_ ≠ gb941 ∧ k_ ≠ gb954) (.slice Ao9 t936.length co9) t936) := ⟨by (with_reducible repeat (first | apply Kd.V_alloc | apply Kd.V_drewN | apply Kd.V_drew)); exact Kd.V_mono (Kd.V_far (p := ⟨gb954, 0, none⟩) (Kd.V_mono HO_942000.out (fun k_ hk => (⟨hk, by first | exact hk.2.2.2 | exact hk.1 | exact hk.2 | exact hk.1.1 | exact hk.1.2⟩ : _ ∧ k_ ≠ gb954))) (fun _ hk => hk.2) (.slice Ao30 t950.length co30)) (fun _ hk => ⟨hk.1.1, ⟨hk.1.2.1, ⟨hk.1.2.2.1, hk.1.2.2.2⟩⟩⟩)⟩
          have n3_ : Aside0 (Kd.V k60 60 (w29.setCell ⟨gb954, 0, none⟩ (.slice Ao30 t950.length co30)) w.heap.size (fun k_ => some k_ ≠ (.slice (some ad947) t942.length co25 : Value).ownBlock ∧ some k_ ≠ (u6 : Value).ownBlock ∧ k_ ≠ gb941 ∧ k_ ≠ gb954) (.slice Ao30 t950.length co30) t950) := ⟨by (with_reducible repeat (first | apply Kd.V_alloc | apply Kd.V_drewN | apply Kd.V_drew)); exact Kd.V_mono (Kd.V_far (p := ⟨gb954, 0, none⟩) (Kd.V_mono HO952.out (fun k_ hk => (⟨hk, by first | exact hk.2.2.2 | exact hk.1 | exact hk.2 | exact hk.1.1 | exact hk.1.2⟩ : _ ∧ k_ ≠ gb954))) (fun _ hk => hk.2) (.slice Ao30 t950.length co30)) (fun _ hk => ⟨hk.1.1, ⟨hk.1.2.1, ⟨hk.1.2.2.1, hk.1.2.2.2⟩⟩⟩)⟩
          have n4_ : Aside0 ((w29.setCell ⟨gb954, 0, none⟩ (.slice Ao30 t950.length co30)).heap[gb941]? = some (.cells #[.slice Ao9 t936.length co9] 31 (0, 0))) := ⟨by (with_reducible repeat (first | refine blk_drewN ?_ _ | refine blk_drew ?_ | refine blk_alloc ?_ _)); refine blk_far ?_ NB941_954.out _; (with_reducible repeat (first | refine blk_drewN ?_ _ | refine blk_drew ?_ | refine blk_alloc ?_ _)); exact BK941.out⟩
          have n5_ : Aside0 ((w29.setCell ⟨gb954, 0, none⟩ (.slice Ao30 t950.length co30)).heap[gb954]? = some (.cells #[.slice Ao30 t950.length co30] 31 (0, 0))) := ⟨by (with_reducible repeat (first | refine blk_drewN ?_ _ | refine blk_drew ?_ | refine blk_alloc ?_ _)); refine blk_put (cs := #[.slice none 0 0]) ?_ 0 _ rfl; (with_reducible repeat (first | refine blk_drewN ?_ _ | refine blk_drew ?_ | refine blk_alloc ?_ _)); exact BK954.out⟩
          have n6_ : Aside0 (Below w.heap.size w (w29.setCell ⟨gb954, 0, none⟩ (.slice Ao30 t950.length co30))) := ⟨bl_⟩
          (try clear HO_4)
          (try clear HO_6)
          (try clear HO_942000)
          (try clear HO952)
          (try clear BK941)
          (try clear BK954)
          (try clear HB)
          generalize (w29.setCell ⟨gb954, 0, none⟩ (.slice Ao30 t950.length co30)) = w32 at n0_ n1_ n2_ n3_ n4_ n5_ n6_ ⊢
          have HO_4 := n0_
          have HO_6 := n1_
          have HO_942000 := n2_
          have HO952 := n3_
          have BK941 := n4_
          have BK954 := n5_
          have HB := n6_
          clear n0_ n1_ n2_ n3_ n4_ n5_ n6_
          have hnb33 := NB954_941.out
          have hnc33 := NB941_954.out
          obtain ⟨hcz34_0, hfz34_0⟩ := cf1_ BK954.out
          try go_wp2_with (first | ((with_reducible refine gate_builtin (b := .append) (xs := #[.tmp 50, .tmp 52]) rfl ?_); (try (refine gate_guard (by rfl) ?_; dsimp only)); at_builtin; refine Kd.N_append k31 (w0 := w) w.heap.size rfl (.tmp 50) (.tmp 52) 48 31 (.agg #[(.slice none 0 0)]) 24 rfl Tryd.underlying48 info31 rfl (by decide) (by omega) u6 x6_2 (⟨t950⟩ : S31) [.slice Ao30 t950.length co30] (fun k_ => some k_ ≠ (.slice (some ad947) t942.length co25 : Value).ownBlock ∧ k_ ≠ gb941 ∧ k_ ≠ gb954) (fun k_ => ((fun k_ => some k_ ≠ (.slice (some ad947) t942.length co25 : Value).ownBlock ∧ k_ ≠ gb941 ∧ k_ ≠ gb954)) k_ ∧ some k_ ≠ (u6 : Value).ownBlock) rfl rfl ?aP (fun _ hk => hk) ?aF ?aO ?aB ?aS ?aL ?_; (case aP => exact (k31_mkF _ _ (⟨t950⟩ : S31) (Kd.V_reads' (Kd.V_mono (ok' := (fun k_ => ((fun k_ => some k_ ≠ (.slice (some ad947) t942.length co25 : Value).ownBlock ∧ k_ ≠ gb941 ∧ k_ ≠ gb954)) k_ ∧ some k_ ≠ (u6 : Value).ownBlock)) (HO952.out) (fun k_ hk => ⟨⟨hk.1, ⟨hk.2.2.1, hk.2.2.2⟩⟩, hk.2.1⟩))).2.1 (Kd.V_F (Kd.V_mono (ok' := (fun k_ => ((fun k_ => some k_ ≠ (.slice (some ad947) t942.length co25 : Value).ownBlock ∧ k_ ≠ gb941 ∧ k_ ≠ gb954)) k_ ∧ some k_ ≠ (u6 : Value).ownBlock)) (HO952.out) (fun k_ hk => ⟨⟨hk.1, ⟨hk.2.2.1, hk.2.2.2⟩⟩, hk.2.1⟩))))); (case aB => exact bl_); (case aF => exact (fun k_ hk => ⟨Kd.fresh' (Kd.R_lt (pR_ HO_4.out)) k_ hk, Kd.freshB (g := gb941) (o := .cells #[.slice Ao9 t936.length co9] 31 (0, 0)) bk_ k_ hk, Kd.freshB (g := gb954) (o := .cells #[.slice Ao30 t950.length co30] 31 (0, 0)) bk_ k_ hk⟩)); (case aO => exact (pN_ HO_6.out)); (case aS => exact (below_size bl_)); (case aL => have := LMc24.out; omega); intro v956 w35 ho hb hg hat; rw [← Ny955.out] at ho; have n0_ := Aside0.mk (Kd.R_over' (pR_ HO_4.out) (Kd.N_typed (pN_ HO_6.out)) (by decide) hg); have n1_ := Aside0.mk (Kd.V_afterv (ok := (fun k_ => some k_ ≠ (.slice (some ad947) t942.length co25 : Value).ownBlock ∧ k_ ≠ gb941 ∧ k_ ≠ gb954)) (by (with_reducible repeat (first | apply Kd.V_alloc | apply Kd.V_drewN | apply Kd.V_drew)); exact Kd.V_mono HO_942000.out (fun _ hk => ⟨⟨hk.1, ⟨hk.2.2.1, hk.2.2.2⟩⟩, hk.2.1⟩)) hg hat); have n2_ := Aside0.mk (blk_grown (g := gb941) (o := .cells #[.slice Ao9 t936.length co9] 31 (0, 0)) bk_ hg (Kd.N_away HO_6.out (fun _ hk => hk.2.1))); have n3_ := Aside0.mk (Kd.V_afterv (ok := (fun k_ => some k_ ≠ (.slice (some ad947) t942.length co25 : Value).ownBlock ∧ k_ ≠ gb941 ∧ k_ ≠ gb954)) (by (with_reducible repeat (first | apply Kd.V_alloc | apply Kd.V_drewN | apply Kd.V_drew)); exact Kd.V_mono HO952.out (fun _ hk => ⟨⟨hk.1, ⟨hk.2.2.1, hk.2.2.2⟩⟩, hk.2.1⟩)) hg hat); have n4_ := Aside0.mk (blk_grown (g := gb954) (o := .cells #[.slice Ao30 t950.length co30] 31 (0, 0)) bk_ hg (Kd.N_away HO_6.out (fun _ hk => hk.2.2))); have n5_ := Aside0.mk (hb); have n6_ := Aside0.mk (ho); clear HO_4; clear HO_942000; clear BK941; clear HO952; clear BK954; clear HB; clear HO_6; have HO_4 := n0_; have HO_942000 := n1_; have BK941 := n2_; have HO952 := n3_; have BK954 := n4_; have HB := n5_; have HO957 := n6_; clear n0_ n1_ n2_ n3_ n4_ n5_ n6_; clear ho hb hg hat))
          go_roundg k2
          case measure => have := HJ4.out; have := HK2.out; omega
          case rel => exact ⟨(y955), (wrap64 (x7_2 + 1)), rs_, H', ⟨by have := HJ4.out; have := HK2.out; omega⟩, ⟨pR_ HO_4.out⟩, ⟨by (with_reducible repeat (first | apply Kd.N_alloc | apply Kd.N_drewN | apply Kd.N_drew)); exact Kd.N_mono HO957.out (fun _ hk => ⟨hk.1, hk.2.1⟩)⟩, ⟨by (with_reducible repeat (first | apply Kd.V_alloc | apply Kd.V_drewN | apply Kd.V_drew)); exact Kd.V_mono HO_942000.out (fun _ hk => ⟨hk.1.1, ⟨hk.2, hk.1.2.1⟩⟩)⟩, ⟨bk_⟩, ⟨bl_⟩⟩
         ·rw [if_neg c24] at H
          exact absurd H (by simp)
        ·rw [if_neg c23] at H
         have c23b0 : (t953 == 0) = false := beq_eq_false_iff_ne.mpr c23
         have c23b1 : (t953 != 0) = true := bne_iff_ne.mpr c23
         obtain rfl := Option.some.inj H
         obtain ⟨Ao36, co36, eo36⟩ := Kd.R_slice HO_4.out
         subst eo36
         have p947 : 0 ≤ (0 : Int) := (by omega)
         have q947 : 0 < (t942.length : Int) := dt_
         obtain ⟨ad947, e947, hx947_0⟩ := Kd.at_int (Kd.R_reads' HO_4.out).2.2 0 p947 q947
         cases e947
         have qi947 : (0 < t942.length) = True := eq_true (by omega)
         (try rw [show ((0 : Int)).toNat = 0 from rfl] at hx947_0)
         (try rw [Addr.add_zero'] at hx947_0)
         replace p947 := eq_true p947
         replace q947 := eq_true q947
         try go_wp2_with (first | ((with_reducible refine gate_callee (f := 42) rfl ?_); refine goesL_ (some 35) rfl rfl Tryd.func42 (by kernel_rfl) rfl #[.int .i64 (rd t942 0)] rfl (by (try simp only [List.map_toArray, List.map_cons, List.map_nil]); first | done | rfl | (simp only [List.length_drop, List.length_take]; rfl)) ?_; (with_reducible refine (exactpplmake_Width.calls (rd t942 0) t948 _ A20.out).mono ?_); rintro e w' ⟨rfl, ⟨nd, rfl⟩⟩; refine ⟨_, rfl, ?_⟩; (try (rw [drewN_self wr]; generalize hq_ : World.drewN wr _ = wr; replace HO_4 : Aside0 (Kd.R (Kd.int .i64) 3 wr w.heap.size (fun _ => True) (.slice (some ad947) t942.length co36) t942) := ⟨by rw [← hq_]; exact (pR_ HO_4.out)⟩; replace HO_6 : Aside0 (Kd.N k31 31 wr w.heap.size (fun k_ => some k_ ≠ (.slice (some ad947) t942.length co36 : Value).ownBlock ∧ k_ ≠ gb941) u6 x6_2) := ⟨by rw [← hq_]; exact (pN_ HO_6.out)⟩; replace HO_942000 : Aside0 (Kd.V k60 60 wr w.heap.size (fun k_ => some k_ ≠ (.slice (some ad947) t942.length co36 : Value).ownBlock ∧ some k_ ≠ (u6 : Value).ownBlock ∧ k_ ≠ gb941) (.slice Ao9 t936.length co9) t936) := ⟨by rw [← hq_]; exact (pV_ HO_942000.out)⟩; replace BK941 : Aside0 (wr.heap[gb941]? = some (.cells #[.slice Ao9 t936.length co9] 31 (0, 0))) := ⟨by rw [← hq_]; exact bk_⟩; replace HB : Aside0 (Below w.heap.size w wr) := ⟨by rw [← hq_]; exact bl_⟩; clear hq_))))
         replace HO_4 := Aside0.mk (Kd.R_drew HO_4.out)
         replace HO_6 := Aside0.mk (Kd.N_drew HO_6.out)
         replace HO_942000 := Aside0.mk (Kd.V_drew HO_942000.out)
         replace BK941 := Aside0.mk (blk_drew BK941.out)
         replace HB := Aside0.mk (below_drew1 HB.out)
         have p949 : 0 ≤ (0 : Int) := (by omega)
         have q949 : 0 < (t942.length : Int) := dt_
         obtain ⟨ad949, e949, hx949_0⟩ := Kd.at_int (Kd.R_reads' HO_4.out).2.2 0 p949 q949
         obtain rfl : ad947 = ad949 := (by injection e949)
         have qi949 : (0 < t942.length) = True := eq_true (by omega)
         (try rw [show ((0 : Int)).toNat = 0 from rfl] at hx949_0)
         (try rw [Addr.add_zero'] at hx949_0)
         replace p949 := eq_true p949
         replace q949 := eq_true q949
         refine start_ (n := 12) (S := fun w' => w'.cell? ⟨gb941, 0, none⟩ = some (.slice Ao9 t936.length co9) ∧ w'.cell? ad947 = some (.int .i64 (rd t942 0))) (ds := []) #[false, false, false, false, false, false, false, false, false, false, false, false] (by kernel_rfl) rfl rfl ⟨(blk_cell BK941.out 0).trans rfl, hx949_0⟩ (fun hHeld => ?_); refine with_tabW exactppllaw19_DiagramExpands.tab9 exactppllaw19_DiagramExpands.bits9 (fun HT_ HW_ => ?_)
         generalize wr.drew = w37 at HO_4 HO_6 HO_942000 BK941 HB hx949_0 hHeld ⊢
         refine pu_ HT_ 1 41 (bm 12 2) ?_
         refine pu_ HT_ 2 42 (bm 12 6) ?_
         refine pu_ HT_ 4 44 (bm 12 22) ?_
         refine ta_ HT_ HW_ 0 40 (bm 12 23) hHeld ?_
         refine ta_ HT_ HW_ 3 43 (bm 12 31) hHeld ?_
         refine join_ (σ := Value × Nat) 2 #[true, true, true, true, true, true, true, true, true, true, false, false] (fun s_ => [(45, .tuple #[.agg #[s_.1], .int .i64 t953]), (8, .pointer (some ⟨s_.2, 0, none⟩)), (39, .tuple #[.agg #[s_.1], .int .i64 t953]), (46, .agg #[s_.1]), (47, .int .i64 t953)]) (fun s_ w' => (w'.cell? ⟨gb941, 0, none⟩ = some (.slice Ao9 t936.length co9) ∧ w'.cell? ad947 = some (.int .i64 (rd t942 0))) ∧ (Kd.V k60 60 w' w.heap.size (fun k_ => some k_ ≠ (.slice (some ad947) t942.length co36 : Value).ownBlock ∧ some k_ ≠ (u6 : Value).ownBlock ∧ k_ ≠ gb941 ∧ k_ ≠ s_.2) s_.1 t950) ∧ (Kd.R (Kd.int .i64) 3 w' w.heap.size (fun _ => True) (.slice (some ad947) t942.length co36) t942) ∧ (Kd.N k31 31 w' w.heap.size (fun k_ => some k_ ≠ (.slice (some ad947) t942.length co36 : Value).ownBlock ∧ k_ ≠ gb941 ∧ k_ ≠ s_.2) u6 x6_2) ∧ (Kd.V k60 60 w' w.heap.size (fun k_ => some k_ ≠ (.slice (some ad947) t942.length co36 : Value).ownBlock ∧ some k_ ≠ (u6 : Value).ownBlock ∧ k_ ≠ gb941 ∧ k_ ≠ s_.2) (.slice Ao9 t936.length co9) t936) ∧ (w'.heap[gb941]? = some (.cells #[.slice Ao9 t936.length co9] 31 (0, 0))) ∧ (w'.heap[s_.2]? = some (.cells #[.slice none 0 0] 31 (0, 0))) ∧ (w.heap.size ≤ s_.2) ∧ (w.heap.size ≤ s_.2) ∧ (gb941 ≠ s_.2) ∧ (s_.2 ≠ gb941) ∧ (Below w.heap.size w w')) ?_ ?_
         rotate_left
         ·intro hCont
          refine two_ (i := 5) (j := 9) (Ni := some 45) (Nj := some 8) #[true, true, true, true, true, true, false, false, false, false, false, false] #[true, true, true, true, true, false, false, false, false, true, false, false] rfl rfl rfl rfl (two_of HT_.out (by kernel_rfl)) (by decide) (by decide) (fun K hK => ?_) (fun K hK => ?_)
          ·skip
           refine goes_ Tryd.func30 (by kernel_rfl) rfl #[.agg #[.slice Ao9 t936.length co9], .int .i64 (rd t942 0), .int .i64 x7_2] (by rfl) rfl rfl (by (try simp only [List.map_toArray, List.map_cons, List.map_nil]); first | done | rfl | (simp only [List.length_drop, List.length_take]; rfl)) ?_
           with_reducible refine (diagram_Restrict.calls _ _ t936 (rd t942 0) x7_2 t950 t953 _ ?side1 ?side2 A22.out ?tab).mono ?_
           (case tab => exact ptab HTAB.out bl_)
           (case side1 => repeat (first | exact (Kd.V_reads' HO_942000.out).2.2 | (with_reducible refine Kd.C_alloc ?_ _) | (with_reducible refine Kd.C_drewN ?_ _) | (with_reducible refine Kd.C_drew ?_)))
           (case side2 => exact (Kd.V_reads' HO_942000.out).2.1)
           rintro e w38 ⟨v951, rfl, ho0, hb⟩
           have HS1_ := (hb.cell (World.block_lt_of_cell? _ _ (hHeld.2))).trans (hHeld.2)
           refine ⟨_, rfl, ?_⟩
           have HO952 := Aside0.mk (Kd.V_lower (Kd.V_mono (ok' := fun k_ => some k_ ≠ (.slice (some ad947) t942.length co36 : Value).ownBlock ∧ some k_ ≠ (u6 : Value).ownBlock ∧ k_ ≠ gb941) ho0 (fun k_ hk_ => ⟨(Kd.fresh' (Kd.R_lt (pR_ HO_4.out)) k_ hk_), (Kd.fresh' (Kd.N_lt (pN_ HO_6.out)) k_ hk_), (Kd.freshB (g := gb941) (o := .cells #[.slice Ao9 t936.length co9] 31 (0, 0)) bk_ k_ hk_)⟩)) (below_size bl_))
           replace HO_4 := Aside0.mk (Kd.R_below (pR_ HO_4.out) hb)
           replace HO_6 := Aside0.mk (Kd.N_below (pN_ HO_6.out) hb)
           replace HO_942000 := Aside0.mk (Kd.V_below (pV_ HO_942000.out) hb)
           replace BK941 := Aside0.mk (blk_below (g := gb941) (o := .cells #[.slice Ao9 t936.length co9] 31 (0, 0)) bk_ hb)
           replace HB := Aside0.mk (below_step bl_ hb)
           (try clear hb)
           (try clear hb2)
           (try clear hk)
           (try clear hi)
           (try clear ho0)
           refine hK.out _ _ ⟨(blk_cell BK941.out 0).trans rfl, HS1_⟩ (fun hHeld => ?_)
           clear hK K
           refine norm_ (a' := ?_) ?_ ?_
           rotate_left
           ·show Act.put _ (some 45) _ = _
            simp only [Act.put, List.setIfInBounds_toArray, List.set_cons_zero, List.set_cons_succ, i64_w, i32_w]
            rfl
           refine pu_ HT_ 6 39 (bm 12 127) ?_
           refine pu_ HT_ 7 46 (bm 12 255) ?_
           refine pu_ HT_ 8 47 (bm 12 511) ?_
           refine one_ (i := 9) (N := some 8) #[true, true, true, true, true, true, true, true, true, true, false, false] rfl rfl (one_of HT_.out (by kernel_rfl)) (by decide) (fun K hK => ?_)
           refine box_step ?hg (N := 8) ?hd (cs := #[.slice none 0 0]) (t := 31) ?hr ?_; (case hd => rfl); (case hg => rfl); (case hr => first | (go_simp; done) | (go_simp; rfl))
           intro gb954 hg w39 hbox hb
           have HS1_ := (hb.cell (World.block_lt_of_cell? _ _ (hHeld.2))).trans (hHeld.2)
           have BK954 := Aside0.mk (hbox)
           have GW954 : Aside0 (w.heap.size ≤ gb954) := gw_ hg (below_size bl_)
           have GE954 := GW954
           have NB941_954 := Aside0.mk ((by rw [hg]; exact Nat.ne_of_lt (blk_lt (g := gb941) (o := .cells #[.slice Ao9 t936.length co9] 31 (0, 0)) bk_) : gb941 ≠ gb954))
           have NB954_941 := Aside0.mk ((by rw [hg]; exact Nat.ne_of_gt (blk_lt (g := gb941) (o := .cells #[.slice Ao9 t936.length co9] 31 (0, 0)) bk_) : gb954 ≠ gb941))
           replace HO_4 := Aside0.mk (Kd.R_below (pR_ HO_4.out) hb)
           replace HO_6 := Aside0.mk (Kd.N_below (Kd.N_elderB (pN_ HO_6.out) gb954 (Nat.le_of_eq hg.symm)) hb)
           replace HO_942000 := Aside0.mk (Kd.V_below (Kd.V_elderB (pV_ HO_942000.out) gb954 (Nat.le_of_eq hg.symm)) hb)
           replace HO952 := Aside0.mk (Kd.V_below (Kd.V_elderB (pV_ HO952.out) gb954 (Nat.le_of_eq hg.symm)) hb)
           replace BK941 := Aside0.mk (blk_below (g := gb941) (o := .cells #[.slice Ao9 t936.length co9] 31 (0, 0)) bk_ hb)
           replace HB := Aside0.mk (below_step bl_ hb)
           clear hb hbox hg
           refine hK.out _ _ ⟨(blk_cell BK941.out 0).trans rfl, HS1_⟩ (fun hHeld => ?_)
           clear hK K
           refine norm_ (a' := ?_) ?_ ?_
           rotate_left
           ·show Act.put _ (some 8) _ = _
            simp only [Act.put, List.setIfInBounds_toArray, List.set_cons_zero, List.set_cons_succ, i64_w, i32_w]
            rfl
           exact norm_ (by simp only [putAll, Act.put, List.setIfInBounds_toArray, List.set_cons_zero, List.set_cons_succ]) (hCont (v951, gb954) _ ⟨hHeld, (by (with_reducible repeat (first | apply Kd.V_alloc | apply Kd.V_drewN | apply Kd.V_drew)); exact Kd.V_mono HO952.out (fun _ hk => ⟨hk.1.1, ⟨hk.1.2.1, ⟨hk.1.2.2, hk.2⟩⟩⟩)), (pR_ HO_4.out), (by (with_reducible repeat (first | apply Kd.N_alloc | apply Kd.N_drewN | apply Kd.N_drew)); exact Kd.N_mono HO_6.out (fun _ hk => ⟨hk.1.1, ⟨hk.1.2, hk.2⟩⟩)), (by (with_reducible repeat (first | apply Kd.V_alloc | apply Kd.V_drewN | apply Kd.V_drew)); exact Kd.V_mono HO_942000.out (fun _ hk => ⟨hk.1.1, ⟨hk.1.2.1, ⟨hk.1.2.2, hk.2⟩⟩⟩)), bk_, bk_, GW954.out, GE954.out, NB941_954.out, NB954_941.out, bl_⟩)
          ·skip
           refine box_step ?hg (N := 8) ?hd (cs := #[.slice none 0 0]) (t := 31) ?hr ?_; (case hd => rfl); (case hg => rfl); (case hr => first | (go_simp; done) | (go_simp; rfl))
           intro gb954 hg w38 hbox hb
           have HS1_ := (hb.cell (World.block_lt_of_cell? _ _ (hHeld.2))).trans (hHeld.2)
           have BK954 := Aside0.mk (hbox)
           have GW954 : Aside0 (w.heap.size ≤ gb954) := gw_ hg (below_size bl_)
           have GE954 := GW954
           have NB941_954 := Aside0.mk ((by rw [hg]; exact Nat.ne_of_lt (blk_lt (g := gb941) (o := .cells #[.slice Ao9 t936.length co9] 31 (0, 0)) bk_) : gb941 ≠ gb954))
           have NB954_941 := Aside0.mk ((by rw [hg]; exact Nat.ne_of_gt (blk_lt (g := gb941) (o := .cells #[.slice Ao9 t936.length co9] 31 (0, 0)) bk_) : gb954 ≠ gb941))
           replace HO_4 := Aside0.mk (Kd.R_below (pR_ HO_4.out) hb)
           replace HO_6 := Aside0.mk (Kd.N_below (Kd.N_elderB (pN_ HO_6.out) gb954 (Nat.le_of_eq hg.symm)) hb)
           replace HO_942000 := Aside0.mk (Kd.V_below (Kd.V_elderB (pV_ HO_942000.out) gb954 (Nat.le_of_eq hg.symm)) hb)
           replace BK941 := Aside0.mk (blk_below (g := gb941) (o := .cells #[.slice Ao9 t936.length co9] 31 (0, 0)) bk_ hb)
           replace HB := Aside0.mk (below_step bl_ hb)
           clear hb hbox hg
           refine hK.out _ _ ⟨(blk_cell BK941.out 0).trans rfl, HS1_⟩ (fun hHeld => ?_)
           clear hK K
           refine norm_ (a' := ?_) ?_ ?_
           rotate_left
           ·show Act.put _ (some 8) _ = _
            simp only [Act.put, List.setIfInBounds_toArray, List.set_cons_zero, List.set_cons_succ, i64_w, i32_w]
            rfl
           refine one_ (i := 5) (N := some 45) #[true, true, true, true, true, true, false, false, false, true, false, false] rfl rfl (one_of HT_.out (by kernel_rfl)) (by decide) (fun K hK => ?_)
           refine goes_ Tryd.func30 (by kernel_rfl) rfl #[.agg #[.slice Ao9 t936.length co9], .int .i64 (rd t942 0), .int .i64 x7_2] (by rfl) rfl rfl (by (try simp only [List.map_toArray, List.map_cons, List.map_nil]); first | done | rfl | (simp only [List.length_drop, List.length_take]; rfl)) ?_
           with_reducible refine (diagram_Restrict.calls _ _ t936 (rd t942 0) x7_2 t950 t953 _ ?side1 ?side2 A22.out ?tab).mono ?_
           (case tab => exact ptab HTAB.out bl_)
           (case side1 => repeat (first | exact (Kd.V_reads' HO_942000.out).2.2 | (with_reducible refine Kd.C_alloc ?_ _) | (with_reducible refine Kd.C_drewN ?_ _) | (with_reducible refine Kd.C_drew ?_)))
           (case side2 => exact (Kd.V_reads' HO_942000.out).2.1)
           rintro e w39 ⟨v951, rfl, ho0, hb⟩
           have HS1_ := (hb.cell (World.block_lt_of_cell? _ _ (hHeld.2))).trans (hHeld.2)
           refine ⟨_, rfl, ?_⟩
           have HO952 := Aside0.mk (Kd.V_lower (Kd.V_mono (ok' := fun k_ => some k_ ≠ (.slice (some ad947) t942.length co36 : Value).ownBlock ∧ some k_ ≠ (u6 : Value).ownBlock ∧ k_ ≠ gb941 ∧ k_ ≠ gb954) ho0 (fun k_ hk_ => ⟨(Kd.fresh' (Kd.R_lt (pR_ HO_4.out)) k_ hk_), (Kd.fresh' (Kd.N_lt (pN_ HO_6.out)) k_ hk_), (Kd.freshB (g := gb941) (o := .cells #[.slice Ao9 t936.length co9] 31 (0, 0)) bk_ k_ hk_), (Kd.freshB (g := gb954) (o := .cells #[.slice none 0 0] 31 (0, 0)) bk_ k_ hk_)⟩)) (below_size bl_))
           replace HO_4 := Aside0.mk (Kd.R_below (pR_ HO_4.out) hb)
           replace HO_6 := Aside0.mk (Kd.N_below (pN_ HO_6.out) hb)
           replace HO_942000 := Aside0.mk (Kd.V_below (pV_ HO_942000.out) hb)
           replace BK941 := Aside0.mk (blk_below (g := gb941) (o := .cells #[.slice Ao9 t936.length co9] 31 (0, 0)) bk_ hb)
           replace BK954 := Aside0.mk (blk_below (g := gb954) (o := .cells #[.slice none 0 0] 31 (0, 0)) bk_ hb)
           replace HB := Aside0.mk (below_step bl_ hb)
           (try clear hb)
           (try clear hb2)
           (try clear hk)
           (try clear hi)
           (try clear ho0)
           refine hK.out _ _ ⟨(blk_cell BK941.out 0).trans rfl, HS1_⟩ (fun hHeld => ?_)
           clear hK K
           refine norm_ (a' := ?_) ?_ ?_
           rotate_left
           ·show Act.put _ (some 45) _ = _
            simp only [Act.put, List.setIfInBounds_toArray, List.set_cons_zero, List.set_cons_succ, i64_w, i32_w]
            rfl
           refine pu_ HT_ 6 39 (bm 12 639) ?_
           refine pu_ HT_ 7 46 (bm 12 767) ?_
           refine pu_ HT_ 8 47 (bm 12 1023) ?_
           exact norm_ (by simp only [putAll, Act.put, List.setIfInBounds_toArray, List.set_cons_zero, List.set_cons_succ]) (hCont (v951, gb954) _ ⟨hHeld, (pV_ HO952.out), (pR_ HO_4.out), (by (with_reducible repeat (first | apply Kd.N_alloc | apply Kd.N_drewN | apply Kd.N_drew)); exact Kd.N_mono HO_6.out (fun _ hk => ⟨hk.1.1, ⟨hk.1.2, hk.2⟩⟩)), (by (with_reducible repeat (first | apply Kd.V_alloc | apply Kd.V_drewN | apply Kd.V_drew)); exact Kd.V_mono HO_942000.out (fun _ hk => ⟨hk.1.1, ⟨hk.1.2.1, ⟨hk.1.2.2, hk.2⟩⟩⟩)), bk_, bk_, GW954.out, GE954.out, NB941_954.out, NB954_941.out, bl_⟩)
         rintro ⟨v951, gb954⟩ w40 ⟨hS_, h0_, h1_, h2_, h3_, h4_, h5_, h6_, h7_, h8_, h9_, h10_⟩
         have HO952 : Aside0 (Kd.V k60 60 w40 w.heap.size (fun k_ => some k_ ≠ (.slice (some ad947) t942.length co36 : Value).ownBlock ∧ some k_ ≠ (u6 : Value).ownBlock ∧ k_ ≠ gb941 ∧ k_ ≠ gb954) v951 t950) := ⟨h0_⟩
         have BK954 : Aside0 (w40.heap[gb954]? = some (.cells #[.slice none 0 0] 31 (0, 0))) := ⟨h5_⟩
         have GW954 : Aside0 (w.heap.size ≤ gb954) := ⟨h6_⟩
         have GE954 : Aside0 (w.heap.size ≤ gb954) := ⟨h7_⟩
         have NB941_954 : Aside0 (gb941 ≠ gb954) := ⟨h8_⟩
         have NB954_941 : Aside0 (gb954 ≠ gb941) := ⟨h9_⟩
         replace HO_4 : Aside0 (Kd.R (Kd.int .i64) 3 w40 w.heap.size (fun _ => True) (.slice (some ad947) t942.length co36) t942) := ⟨h1_⟩
         replace HO_6 : Aside0 (Kd.N k31 31 w40 w.heap.size (fun k_ => some k_ ≠ (.slice (some ad947) t942.length co36 : Value).ownBlock ∧ k_ ≠ gb941 ∧ k_ ≠ gb954) u6 x6_2) := ⟨h2_⟩
         replace HO_942000 : Aside0 (Kd.V k60 60 w40 w.heap.size (fun k_ => some k_ ≠ (.slice (some ad947) t942.length co36 : Value).ownBlock ∧ some k_ ≠ (u6 : Value).ownBlock ∧ k_ ≠ gb941 ∧ k_ ≠ gb954) (.slice Ao9 t936.length co9) t936) := ⟨h3_⟩
         replace BK941 : Aside0 (w40.heap[gb941]? = some (.cells #[.slice Ao9 t936.length co9] 31 (0, 0))) := ⟨h4_⟩
         replace HB : Aside0 (Below w.heap.size w w40) := ⟨h10_⟩
         clear h0_ h1_ h2_ h3_ h4_ h5_ h6_ h7_ h8_ h9_ h10_
         have hHeld : w40.cell? ⟨gb941, 0, none⟩ = some (.slice Ao9 t936.length co9) ∧ w40.cell? ad947 = some (.int .i64 (rd t942 0)) := hS_
         obtain ⟨Ao41, co41, eo41⟩ := Kd.V_slice HO952.out
         (first | subst eo41 | (injection eo41 with f1_ f2_ f3_; have f4_ := f1_.symm; have f5_ := f3_.symm; clear f1_ f2_ f3_; subst f4_; subst f5_))
         refine norm_ (a' := ?_) ?_ ?_
         rotate_left
         ·simp only [putAll, Act.put, List.setIfInBounds_toArray, List.set_cons_zero, List.set_cons_succ]
          rfl
         refine one_ (i := 10) (N := none) #[true, true, true, true, true, true, true, true, true, true, true, false] rfl rfl (one_of HT_.out (by kernel_rfl)) (by decide) (fun K hK => ?_)
         have hs42 : w40.cell? ⟨gb954, 0, none⟩ = some (.slice none 0 0) := (blk_cell BK954.out 0).trans rfl
         have hfs42 := blk_frozen BK954.out 0
         have hns42_0 := NB941_954.out
         have hms42_0 := NB954_941.out
         refine skip_ (w1 := ?_) (by rfl) rfl ?_ ?_
         rotate_left
         ·go_simp
          rfl
         refine hK.out _ _ ⟨((cell_far (p := ⟨gb954, _, none⟩) NB941_954.out _).trans (hHeld.1)), ((cell_far (p := ⟨gb954, _, none⟩) (by first | exact Kd.own_blk (Kd.R_ne HO_4.out BK954.out (by decide)) | (rw [add_block]; exact Kd.own_blk (Kd.R_ne HO_4.out BK954.out (by decide))) | (show (Addr.add _ _).block ≠ _; rw [add_block]; exact Kd.own_blk (Kd.R_ne HO_4.out BK954.out (by decide))) | (dsimp only; exact Kd.own_blk (Kd.R_ne HO_4.out BK954.out (by decide)))) _).trans (hHeld.2))⟩ (fun hHeld => ?_)
         clear hK K
         refine pu_ HT_ 11 9 #[true, true, true, true, true, true, true, true, true, true, true, true] ?_
         refine done_ (done_of HT_.out (by kernel_rfl)) ?_
         try go_wp2
         go_ret
         exact ⟨re_, bl_⟩
       ·rw [if_neg c21] at H
        have c21b0 : decide (x7_2 < t948) = false := decide_eq_false c21
        clear c21
        replace H := Option.bind_eq_some_iff.mp H
        obtain ⟨⟨t959, t962⟩, A430, H⟩ := H
        replace H : (if t962 = 0 then ((exactpplref19_Same.f k2 t959 t936).bind fun t964 => (if t964 = true then ((exactppllaw19_awake.f).bind fun t965 => (some t965)) else (some false))) else (some false)) = some r := H
        have A43 := Aside0.mk A430
        clear A430
        by_cases c44 : t962 = 0
        ·rw [if_pos c44] at H
         have c44b0 : (t962 == 0) = true := beq_iff_eq.mpr c44
         have c44b1 : (t962 != 0) = false := bne_eq_false_iff_eq.mpr c44
         clear c44
         replace H := Option.bind_eq_some_iff.mp H
         obtain ⟨t964, A450, H⟩ := H
         replace H : (if t964 = true then ((exactppllaw19_awake.f).bind fun t965 => (some t965)) else (some false)) = some r := H
         have A45 := Aside0.mk A450
         clear A450
         by_cases c46 : t964 = true
         ·subst c46
          have H1 : ((exactppllaw19_awake.f).bind fun t965 => (some t965)) = some r := by rw [if_pos rfl] at H; exact H
          clear H
          have H := H1
          clear H1
          replace H := Option.bind_eq_some_iff.mp H
          obtain ⟨t965, A470, H⟩ := H
          replace H : (some t965) = some r := H
          have A47 := Aside0.mk A470
          clear A470
          obtain rfl := Option.some.inj H
          obtain ⟨Ao48, co48, eo48⟩ := Kd.R_slice HO_4.out
          subst eo48
          have p947 : 0 ≤ (0 : Int) := (by omega)
          have q947 : 0 < (t942.length : Int) := dt_
          obtain ⟨ad947, e947, hx947_0⟩ := Kd.at_int (Kd.R_reads' HO_4.out).2.2 0 p947 q947
          cases e947
          have qi947 : (0 < t942.length) = True := eq_true (by omega)
          (try rw [show ((0 : Int)).toNat = 0 from rfl] at hx947_0)
          (try rw [Addr.add_zero'] at hx947_0)
          replace p947 := eq_true p947
          replace q947 := eq_true q947
          go_wp2_with (first | ((with_reducible refine gate_callee (f := 42) rfl ?_); refine goesL_ (some 35) rfl rfl Tryd.func42 (by kernel_rfl) rfl #[.int .i64 (rd t942 0)] rfl (by (try simp only [List.map_toArray, List.map_cons, List.map_nil]); first | done | rfl | (simp only [List.length_drop, List.length_take]; rfl)) ?_; (with_reducible refine (exactpplmake_Width.calls (rd t942 0) t948 _ A20.out).mono ?_); rintro e w' ⟨rfl, ⟨nd, rfl⟩⟩; refine ⟨_, rfl, ?_⟩; (try (rw [drewN_self wr]; generalize hq_ : World.drewN wr _ = wr; replace HO_4 : Aside0 (Kd.R (Kd.int .i64) 3 wr w.heap.size (fun _ => True) (.slice (some ad947) t942.length co48) t942) := ⟨by rw [← hq_]; exact (pR_ HO_4.out)⟩; replace HO_6 : Aside0 (Kd.N k31 31 wr w.heap.size (fun k_ => some k_ ≠ (.slice (some ad947) t942.length co48 : Value).ownBlock ∧ k_ ≠ gb941) u6 x6_2) := ⟨by rw [← hq_]; exact (pN_ HO_6.out)⟩; replace HO_942000 : Aside0 (Kd.V k60 60 wr w.heap.size (fun k_ => some k_ ≠ (.slice (some ad947) t942.length co48 : Value).ownBlock ∧ some k_ ≠ (u6 : Value).ownBlock ∧ k_ ≠ gb941) (.slice Ao9 t936.length co9) t936) := ⟨by rw [← hq_]; exact (pV_ HO_942000.out)⟩; replace BK941 : Aside0 (wr.heap[gb941]? = some (.cells #[.slice Ao9 t936.length co9] 31 (0, 0))) := ⟨by rw [← hq_]; exact bk_⟩; replace HB : Aside0 (Below w.heap.size w wr) := ⟨by rw [← hq_]; exact bl_⟩; clear hq_)); have p958 : 0 ≤ (0 : Int) := (by omega); have q958 : 0 < (t942.length : Int) := dt_; obtain ⟨ad958, e958, hx958_0⟩ := Kd.at_int (Kd.R_reads' HO_4.out).2.2 0 p958 q958; obtain rfl : ad947 = ad958 := (by injection e958); have qi958 : (0 < t942.length) = True := eq_true (by omega); (try rw [show ((0 : Int)).toNat = 0 from rfl] at hx958_0); (try rw [Addr.add_zero'] at hx958_0); replace p958 := eq_true p958; replace q958 := eq_true q958; obtain ⟨Ao49, co49, eo49⟩ := Kd.N_slice HO_6.out; subst eo49) | ((with_reducible refine gate_callee (f := 34) rfl ?_); refine goesL_ (some 59) rfl rfl Tryd.func34 (by kernel_rfl) rfl #[.int .i64 (rd t942 0), .slice Ao49 x6_2.length co49] rfl (by (try simp only [List.map_toArray, List.map_cons, List.map_nil]); first | done | rfl | (simp only [List.length_drop, List.length_take]; rfl)) ?_; (with_reducible refine (diagram_Branch.calls (rd t942 0) _ _ x6_2 t959 t962 _ ?side1 ?side2 A43.out ?tab).mono ?_); (case tab => exact ptab HTAB.out bl_); (case side1 => repeat (first | exact (Kd.N_reads' HO_6.out).2.2 | (with_reducible refine Kd.C_alloc ?_ _) | (with_reducible refine Kd.C_drewN ?_ _) | (with_reducible refine Kd.C_drew ?_))); (case side2 => exact (Kd.N_reads' HO_6.out).2.1); rintro e w50 ⟨v960, rfl, ho0, hb⟩; refine ⟨_, rfl, ?_⟩; have HO961 := Aside0.mk (Kd.V_lower (Kd.V_mono (ok' := fun k_ => some k_ ≠ (.slice (some ad947) t942.length co48 : Value).ownBlock ∧ some k_ ≠ (.slice Ao49 x6_2.length co49 : Value).ownBlock ∧ k_ ≠ gb941) ho0 (fun k_ hk_ => ⟨(Kd.fresh' (Kd.R_lt (pR_ HO_4.out)) k_ hk_), (Kd.fresh' (Kd.N_lt (pN_ HO_6.out)) k_ hk_), (Kd.freshB (g := gb941) (o := .cells #[.slice Ao9 t936.length co9] 31 (0, 0)) bk_ k_ hk_)⟩)) (below_size bl_)); replace HO_4 := Aside0.mk (Kd.R_below (pR_ HO_4.out) hb); replace HO_6 := Aside0.mk (Kd.N_below (pN_ HO_6.out) hb); replace HO_942000 := Aside0.mk (Kd.V_below (pV_ HO_942000.out) hb); replace BK941 := Aside0.mk (blk_below (g := gb941) (o := .cells #[.slice Ao9 t936.length co9] 31 (0, 0)) bk_ hb); replace HB := Aside0.mk (below_step bl_ hb); (try clear hb); (try clear hb2); (try clear hk); (try clear hi); (try clear ho0)) | ((with_reducible refine gate_dst (N := 10) rfl ?_); (try (refine gate_guard (by rfl) ?_; dsimp only)); refine box_event ?hg (N := 10) ?hd (cs := #[.slice none 0 0]) (t := 31) ?hr ?_; (case hd => rfl); (case hg => rfl); (case hr => first | (go_simp; done) | (go_simp; rfl)); intro gb963 hg w51 hbox hb; have BK963 := Aside0.mk (hbox); have GW963 : Aside0 (w.heap.size ≤ gb963) := gw_ hg (below_size bl_); have GE963 := GW963; have NB941_963 := Aside0.mk ((by rw [hg]; exact Nat.ne_of_lt (blk_lt (g := gb941) (o := .cells #[.slice Ao9 t936.length co9] 31 (0, 0)) bk_) : gb941 ≠ gb963)); have NB963_941 := Aside0.mk ((by rw [hg]; exact Nat.ne_of_gt (blk_lt (g := gb941) (o := .cells #[.slice Ao9 t936.length co9] 31 (0, 0)) bk_) : gb963 ≠ gb941)); replace HO_4 := Aside0.mk (Kd.R_below (pR_ HO_4.out) hb); replace HO_6 := Aside0.mk (Kd.N_below (Kd.N_elderB (pN_ HO_6.out) gb963 (Nat.le_of_eq hg.symm)) hb); replace HO_942000 := Aside0.mk (Kd.V_below (Kd.V_elderB (pV_ HO_942000.out) gb963 (Nat.le_of_eq hg.symm)) hb); replace HO961 := Aside0.mk (Kd.V_below (Kd.V_elderB (pV_ HO961.out) gb963 (Nat.le_of_eq hg.symm)) hb); replace BK941 := Aside0.mk (blk_below (g := gb941) (o := .cells #[.slice Ao9 t936.length co9] 31 (0, 0)) bk_ hb); replace HB := Aside0.mk (below_step bl_ hb); clear hb hbox hg; obtain ⟨Ao52, co52, eo52⟩ := Kd.V_slice HO961.out; subst eo52; have hnb53 := NB963_941.out; have hnc53 := NB941_963.out; obtain ⟨hcz54_0, hfz54_0⟩ := cf1_ BK963.out; obtain ⟨hcz55_0, hfz55_0⟩ := cf1_ BK941.out) | (go_at_call 20; (with_reducible refine (exactpplref19_Same.calls k2 _ _ t959 _ _ t936 true _ ?side1 ?side2 ?side3 ?side4 A45.out).mono ?_); (case side1 => refine (Kd.V_reads' (e := 60) (base := w.heap.size) (ok := fun k_ => ((some k_ ≠ (.slice (some ad947) t942.length co48 : Value).ownBlock ∧ (some k_ ≠ (.slice Ao49 x6_2.length co49 : Value).ownBlock ∧ k_ ≠ gb941)) ∧ k_ ≠ gb963)) (n := t959.length) (c := co52) ?_).2.2; exact (by (with_reducible repeat (first | apply Kd.V_alloc | apply Kd.V_drewN | apply Kd.V_drew)); exact (Kd.V_mono (Kd.V_far (p := ⟨gb963, 0, none⟩) (Kd.V_mono HO961.out (fun k_ hk => (⟨hk, by first | exact hk.2 | exact hk.1 | exact hk.2 | exact hk.1.1 | exact hk.1.2⟩ : _ ∧ k_ ≠ gb963))) (fun _ hk => hk.2) (.slice Ao52 t959.length co52)) (fun _ h_ => h_.1)))); (case side2 => exact (Kd.V_reads' HO961.out).2.1); (case side3 => refine (Kd.V_reads' (e := 60) (base := w.heap.size) (ok := fun k_ => ((some k_ ≠ (.slice (some ad947) t942.length co48 : Value).ownBlock ∧ (some k_ ≠ (.slice Ao49 x6_2.length co49 : Value).ownBlock ∧ k_ ≠ gb941)) ∧ k_ ≠ gb963)) (n := t936.length) (c := co9) ?_).2.2; exact (by (with_reducible repeat (first | apply Kd.V_alloc | apply Kd.V_drewN | apply Kd.V_drew)); exact (Kd.V_mono (Kd.V_far (p := ⟨gb963, 0, none⟩) (Kd.V_mono HO_942000.out (fun k_ hk => (⟨hk, by first | exact hk.2 | exact hk.1 | exact hk.2 | exact hk.1.1 | exact hk.1.2⟩ : _ ∧ k_ ≠ gb963))) (fun _ hk => hk.2) (.slice Ao52 t959.length co52)) (fun _ h_ => h_.1)))); (case side4 => exact (Kd.V_reads' HO_942000.out).2.1); rintro e w56 ⟨rfl, hb⟩; replace HO_4 := Aside0.mk (Kd.R_below (by (with_reducible repeat (first | apply Kd.R_alloc | apply Kd.R_drewN | apply Kd.R_drew)); exact (Kd.R_mono (Kd.R_far (p := ⟨gb963, 0, none⟩) (Kd.R_types HO_4.out BK963.out (by decide)) (fun _ hk => hk.2) (.slice Ao52 t959.length co52)) (fun _ h_ => h_.1))) hb); replace HO_6 := Aside0.mk (Kd.N_below (by (with_reducible repeat (first | apply Kd.N_alloc | apply Kd.N_drewN | apply Kd.N_drew)); exact (Kd.N_mono (Kd.N_far (p := ⟨gb963, 0, none⟩) (Kd.N_mono HO_6.out (fun k_ hk => (⟨hk, by first | exact hk.2 | exact hk.1 | exact hk.2 | exact hk.1.1 | exact hk.1.2⟩ : _ ∧ k_ ≠ gb963))) (fun _ hk => hk.2) (.slice Ao52 t959.length co52)) (fun _ h_ => h_.1))) hb); replace HO_942000 := Aside0.mk (Kd.V_below (by (with_reducible repeat (first | apply Kd.V_alloc | apply Kd.V_drewN | apply Kd.V_drew)); exact (Kd.V_mono (Kd.V_far (p := ⟨gb963, 0, none⟩) (Kd.V_mono HO_942000.out (fun k_ hk => (⟨hk, by first | exact hk.2 | exact hk.1 | exact hk.2 | exact hk.1.1 | exact hk.1.2⟩ : _ ∧ k_ ≠ gb963))) (fun _ hk => hk.2) (.slice Ao52 t959.length co52)) (fun _ h_ => h_.1))) hb); replace HO961 := Aside0.mk (Kd.V_below (by (with_reducible repeat (first | apply Kd.V_alloc | apply Kd.V_drewN | apply Kd.V_drew)); exact (Kd.V_mono (Kd.V_far (p := ⟨gb963, 0, none⟩) (Kd.V_mono HO961.out (fun k_ hk => (⟨hk, by first | exact hk.2 | exact hk.1 | exact hk.2 | exact hk.1.1 | exact hk.1.2⟩ : _ ∧ k_ ≠ gb963))) (fun _ hk => hk.2) (.slice Ao52 t959.length co52)) (fun _ h_ => h_.1))) hb); replace BK941 := Aside0.mk (blk_below (g := gb941) (o := .cells #[.slice Ao9 t936.length co9] 31 (0, 0)) (by (with_reducible repeat (first | refine blk_drewN ?_ _ | refine blk_drew ?_ | refine blk_alloc ?_ _)); refine blk_far ?_ NB941_963.out _; (with_reducible repeat (first | refine blk_drewN ?_ _ | refine blk_drew ?_ | refine blk_alloc ?_ _)); exact BK941.out) hb); replace BK963 := Aside0.mk (blk_below (g := gb963) (o := .cells #[.slice Ao52 t959.length co52] 31 (0, 0)) (by (with_reducible repeat (first | refine blk_drewN ?_ _ | refine blk_drew ?_ | refine blk_alloc ?_ _)); refine blk_put (cs := #[.slice none 0 0]) ?_ 0 _ rfl; (with_reducible repeat (first | refine blk_drewN ?_ _ | refine blk_drew ?_ | refine blk_alloc ?_ _)); exact BK963.out) hb); replace HB := Aside0.mk (below_step bl_ hb); (try clear hb); (try clear hb2); (try clear hk); (try clear hi)) | (go_at_call 17; (with_reducible refine (exactppllaw19_awake.calls  t965 _ A47.out ?tab).mono ?_); (case tab => exact ptab HTAB.out bl_); rintro e w57 ⟨rfl, hb⟩; replace HO_4 := Aside0.mk (Kd.R_below (pR_ HO_4.out) hb); replace HO_6 := Aside0.mk (Kd.N_below (pN_ HO_6.out) hb); replace HO_942000 := Aside0.mk (Kd.V_below (pV_ HO_942000.out) hb); replace HO961 := Aside0.mk (Kd.V_below (pV_ HO961.out) hb); replace BK941 := Aside0.mk (blk_below (g := gb941) (o := .cells #[.slice Ao9 t936.length co9] 31 (0, 0)) bk_ hb); replace BK963 := Aside0.mk (blk_below (g := gb963) (o := .cells #[.slice Ao52 t959.length co52] 31 (0, 0)) bk_ hb); replace HB := Aside0.mk (below_step bl_ hb); (try clear hb); (try clear hb2); (try clear hk); (try clear hi)))
          go_ret
          exact ⟨re_, bl_⟩
         ·replace c46 := Bool.eq_false_iff.mpr c46
          subst c46
          have H1 : (some false) = some r := by rw [if_neg (show ¬ (false = true) by decide)] at H; exact H
          clear H
          have H := H1
          clear H1
          obtain rfl := Option.some.inj H
          obtain ⟨Ao58, co58, eo58⟩ := Kd.R_slice HO_4.out
          subst eo58
          have p947 : 0 ≤ (0 : Int) := (by omega)
          have q947 : 0 < (t942.length : Int) := dt_
          obtain ⟨ad947, e947, hx947_0⟩ := Kd.at_int (Kd.R_reads' HO_4.out).2.2 0 p947 q947
          cases e947
          have qi947 : (0 < t942.length) = True := eq_true (by omega)
          (try rw [show ((0 : Int)).toNat = 0 from rfl] at hx947_0)
          (try rw [Addr.add_zero'] at hx947_0)
          replace p947 := eq_true p947
          replace q947 := eq_true q947
          go_wp2_with (first | ((with_reducible refine gate_callee (f := 42) rfl ?_); refine goesL_ (some 35) rfl rfl Tryd.func42 (by kernel_rfl) rfl #[.int .i64 (rd t942 0)] rfl (by (try simp only [List.map_toArray, List.map_cons, List.map_nil]); first | done | rfl | (simp only [List.length_drop, List.length_take]; rfl)) ?_; (with_reducible refine (exactpplmake_Width.calls (rd t942 0) t948 _ A20.out).mono ?_); rintro e w' ⟨rfl, ⟨nd, rfl⟩⟩; refine ⟨_, rfl, ?_⟩; (try (rw [drewN_self wr]; generalize hq_ : World.drewN wr _ = wr; replace HO_4 : Aside0 (Kd.R (Kd.int .i64) 3 wr w.heap.size (fun _ => True) (.slice (some ad947) t942.length co58) t942) := ⟨by rw [← hq_]; exact (pR_ HO_4.out)⟩; replace HO_6 : Aside0 (Kd.N k31 31 wr w.heap.size (fun k_ => some k_ ≠ (.slice (some ad947) t942.length co58 : Value).ownBlock ∧ k_ ≠ gb941) u6 x6_2) := ⟨by rw [← hq_]; exact (pN_ HO_6.out)⟩; replace HO_942000 : Aside0 (Kd.V k60 60 wr w.heap.size (fun k_ => some k_ ≠ (.slice (some ad947) t942.length co58 : Value).ownBlock ∧ some k_ ≠ (u6 : Value).ownBlock ∧ k_ ≠ gb941) (.slice Ao9 t936.length co9) t936) := ⟨by rw [← hq_]; exact (pV_ HO_942000.out)⟩; replace BK941 : Aside0 (wr.heap[gb941]? = some (.cells #[.slice Ao9 t936.length co9] 31 (0, 0))) := ⟨by rw [← hq_]; exact bk_⟩; replace HB : Aside0 (Below w.heap.size w wr) := ⟨by rw [← hq_]; exact bl_⟩; clear hq_)); have p958 : 0 ≤ (0 : Int) := (by omega); have q958 : 0 < (t942.length : Int) := dt_; obtain ⟨ad958, e958, hx958_0⟩ := Kd.at_int (Kd.R_reads' HO_4.out).2.2 0 p958 q958; obtain rfl : ad947 = ad958 := (by injection e958); have qi958 : (0 < t942.length) = True := eq_true (by omega); (try rw [show ((0 : Int)).toNat = 0 from rfl] at hx958_0); (try rw [Addr.add_zero'] at hx958_0); replace p958 := eq_true p958; replace q958 := eq_true q958; obtain ⟨Ao59, co59, eo59⟩ := Kd.N_slice HO_6.out; subst eo59) | ((with_reducible refine gate_callee (f := 34) rfl ?_); refine goesL_ (some 59) rfl rfl Tryd.func34 (by kernel_rfl) rfl #[.int .i64 (rd t942 0), .slice Ao59 x6_2.length co59] rfl (by (try simp only [List.map_toArray, List.map_cons, List.map_nil]); first | done | rfl | (simp only [List.length_drop, List.length_take]; rfl)) ?_; (with_reducible refine (diagram_Branch.calls (rd t942 0) _ _ x6_2 t959 t962 _ ?side1 ?side2 A43.out ?tab).mono ?_); (case tab => exact ptab HTAB.out bl_); (case side1 => repeat (first | exact (Kd.N_reads' HO_6.out).2.2 | (with_reducible refine Kd.C_alloc ?_ _) | (with_reducible refine Kd.C_drewN ?_ _) | (with_reducible refine Kd.C_drew ?_))); (case side2 => exact (Kd.N_reads' HO_6.out).2.1); rintro e w60 ⟨v960, rfl, ho0, hb⟩; refine ⟨_, rfl, ?_⟩; have HO961 := Aside0.mk (Kd.V_lower (Kd.V_mono (ok' := fun k_ => some k_ ≠ (.slice (some ad947) t942.length co58 : Value).ownBlock ∧ some k_ ≠ (.slice Ao59 x6_2.length co59 : Value).ownBlock ∧ k_ ≠ gb941) ho0 (fun k_ hk_ => ⟨(Kd.fresh' (Kd.R_lt (pR_ HO_4.out)) k_ hk_), (Kd.fresh' (Kd.N_lt (pN_ HO_6.out)) k_ hk_), (Kd.freshB (g := gb941) (o := .cells #[.slice Ao9 t936.length co9] 31 (0, 0)) bk_ k_ hk_)⟩)) (below_size bl_)); replace HO_4 := Aside0.mk (Kd.R_below (pR_ HO_4.out) hb); replace HO_6 := Aside0.mk (Kd.N_below (pN_ HO_6.out) hb); replace HO_942000 := Aside0.mk (Kd.V_below (pV_ HO_942000.out) hb); replace BK941 := Aside0.mk (blk_below (g := gb941) (o := .cells #[.slice Ao9 t936.length co9] 31 (0, 0)) bk_ hb); replace HB := Aside0.mk (below_step bl_ hb); (try clear hb); (try clear hb2); (try clear hk); (try clear hi); (try clear ho0)) | ((with_reducible refine gate_dst (N := 10) rfl ?_); (try (refine gate_guard (by rfl) ?_; dsimp only)); refine box_event ?hg (N := 10) ?hd (cs := #[.slice none 0 0]) (t := 31) ?hr ?_; (case hd => rfl); (case hg => rfl); (case hr => first | (go_simp; done) | (go_simp; rfl)); intro gb963 hg w61 hbox hb; have BK963 := Aside0.mk (hbox); have GW963 : Aside0 (w.heap.size ≤ gb963) := gw_ hg (below_size bl_); have GE963 := GW963; have NB941_963 := Aside0.mk ((by rw [hg]; exact Nat.ne_of_lt (blk_lt (g := gb941) (o := .cells #[.slice Ao9 t936.length co9] 31 (0, 0)) bk_) : gb941 ≠ gb963)); have NB963_941 := Aside0.mk ((by rw [hg]; exact Nat.ne_of_gt (blk_lt (g := gb941) (o := .cells #[.slice Ao9 t936.length co9] 31 (0, 0)) bk_) : gb963 ≠ gb941)); replace HO_4 := Aside0.mk (Kd.R_below (pR_ HO_4.out) hb); replace HO_6 := Aside0.mk (Kd.N_below (Kd.N_elderB (pN_ HO_6.out) gb963 (Nat.le_of_eq hg.symm)) hb); replace HO_942000 := Aside0.mk (Kd.V_below (Kd.V_elderB (pV_ HO_942000.out) gb963 (Nat.le_of_eq hg.symm)) hb); replace HO961 := Aside0.mk (Kd.V_below (Kd.V_elderB (pV_ HO961.out) gb963 (Nat.le_of_eq hg.symm)) hb); replace BK941 := Aside0.mk (blk_below (g := gb941) (o := .cells #[.slice Ao9 t936.length co9] 31 (0, 0)) bk_ hb); replace HB := Aside0.mk (below_step bl_ hb); clear hb hbox hg; obtain ⟨Ao62, co62, eo62⟩ := Kd.V_slice HO961.out; subst eo62; have hnb63 := NB963_941.out; have hnc63 := NB941_963.out; obtain ⟨hcz64_0, hfz64_0⟩ := cf1_ BK963.out; obtain ⟨hcz65_0, hfz65_0⟩ := cf1_ BK941.out) | (go_at_call 20; (with_reducible refine (exactpplref19_Same.calls k2 _ _ t959 _ _ t936 false _ ?side1 ?side2 ?side3 ?side4 A45.out).mono ?_); (case side1 => refine (Kd.V_reads' (e := 60) (base := w.heap.size) (ok := fun k_ => ((some k_ ≠ (.slice (some ad947) t942.length co58 : Value).ownBlock ∧ (some k_ ≠ (.slice Ao59 x6_2.length co59 : Value).ownBlock ∧ k_ ≠ gb941)) ∧ k_ ≠ gb963)) (n := t959.length) (c := co62) ?_).2.2; exact (by (with_reducible repeat (first | apply Kd.V_alloc | apply Kd.V_drewN | apply Kd.V_drew)); exact (Kd.V_mono (Kd.V_far (p := ⟨gb963, 0, none⟩) (Kd.V_mono HO961.out (fun k_ hk => (⟨hk, by first | exact hk.2 | exact hk.1 | exact hk.2 | exact hk.1.1 | exact hk.1.2⟩ : _ ∧ k_ ≠ gb963))) (fun _ hk => hk.2) (.slice Ao62 t959.length co62)) (fun _ h_ => h_.1)))); (case side2 => exact (Kd.V_reads' HO961.out).2.1); (case side3 => refine (Kd.V_reads' (e := 60) (base := w.heap.size) (ok := fun k_ => ((some k_ ≠ (.slice (some ad947) t942.length co58 : Value).ownBlock ∧ (some k_ ≠ (.slice Ao59 x6_2.length co59 : Value).ownBlock ∧ k_ ≠ gb941)) ∧ k_ ≠ gb963)) (n := t936.length) (c := co9) ?_).2.2; exact (by (with_reducible repeat (first | apply Kd.V_alloc | apply Kd.V_drewN | apply Kd.V_drew)); exact (Kd.V_mono (Kd.V_far (p := ⟨gb963, 0, none⟩) (Kd.V_mono HO_942000.out (fun k_ hk => (⟨hk, by first | exact hk.2 | exact hk.1 | exact hk.2 | exact hk.1.1 | exact hk.1.2⟩ : _ ∧ k_ ≠ gb963))) (fun _ hk => hk.2) (.slice Ao62 t959.length co62)) (fun _ h_ => h_.1)))); (case side4 => exact (Kd.V_reads' HO_942000.out).2.1); rintro e w66 ⟨rfl, hb⟩; replace HO_4 := Aside0.mk (Kd.R_below (by (with_reducible repeat (first | apply Kd.R_alloc | apply Kd.R_drewN | apply Kd.R_drew)); exact (Kd.R_mono (Kd.R_far (p := ⟨gb963, 0, none⟩) (Kd.R_types HO_4.out BK963.out (by decide)) (fun _ hk => hk.2) (.slice Ao62 t959.length co62)) (fun _ h_ => h_.1))) hb); replace HO_6 := Aside0.mk (Kd.N_below (by (with_reducible repeat (first | apply Kd.N_alloc | apply Kd.N_drewN | apply Kd.N_drew)); exact (Kd.N_mono (Kd.N_far (p := ⟨gb963, 0, none⟩) (Kd.N_mono HO_6.out (fun k_ hk => (⟨hk, by first | exact hk.2 | exact hk.1 | exact hk.2 | exact hk.1.1 | exact hk.1.2⟩ : _ ∧ k_ ≠ gb963))) (fun _ hk => hk.2) (.slice Ao62 t959.length co62)) (fun _ h_ => h_.1))) hb); replace HO_942000 := Aside0.mk (Kd.V_below (by (with_reducible repeat (first | apply Kd.V_alloc | apply Kd.V_drewN | apply Kd.V_drew)); exact (Kd.V_mono (Kd.V_far (p := ⟨gb963, 0, none⟩) (Kd.V_mono HO_942000.out (fun k_ hk => (⟨hk, by first | exact hk.2 | exact hk.1 | exact hk.2 | exact hk.1.1 | exact hk.1.2⟩ : _ ∧ k_ ≠ gb963))) (fun _ hk => hk.2) (.slice Ao62 t959.length co62)) (fun _ h_ => h_.1))) hb); replace HO961 := Aside0.mk (Kd.V_below (by (with_reducible repeat (first | apply Kd.V_alloc | apply Kd.V_drewN | apply Kd.V_drew)); exact (Kd.V_mono (Kd.V_far (p := ⟨gb963, 0, none⟩) (Kd.V_mono HO961.out (fun k_ hk => (⟨hk, by first | exact hk.2 | exact hk.1 | exact hk.2 | exact hk.1.1 | exact hk.1.2⟩ : _ ∧ k_ ≠ gb963))) (fun _ hk => hk.2) (.slice Ao62 t959.length co62)) (fun _ h_ => h_.1))) hb); replace BK941 := Aside0.mk (blk_below (g := gb941) (o := .cells #[.slice Ao9 t936.length co9] 31 (0, 0)) (by (with_reducible repeat (first | refine blk_drewN ?_ _ | refine blk_drew ?_ | refine blk_alloc ?_ _)); refine blk_far ?_ NB941_963.out _; (with_reducible repeat (first | refine blk_drewN ?_ _ | refine blk_drew ?_ | refine blk_alloc ?_ _)); exact BK941.out) hb); replace BK963 := Aside0.mk (blk_below (g := gb963) (o := .cells #[.slice Ao62 t959.length co62] 31 (0, 0)) (by (with_reducible repeat (first | refine blk_drewN ?_ _ | refine blk_drew ?_ | refine blk_alloc ?_ _)); refine blk_put (cs := #[.slice none 0 0]) ?_ 0 _ rfl; (with_reducible repeat (first | refine blk_drewN ?_ _ | refine blk_drew ?_ | refine blk_alloc ?_ _)); exact BK963.out) hb); replace HB := Aside0.mk (below_step bl_ hb); (try clear hb); (try clear hb2); (try clear hk); (try clear hi)))
          go_ret
          exact ⟨re_, bl_⟩
        ·rw [if_neg c44] at H
         have c44b0 : (t962 == 0) = false := beq_eq_false_iff_ne.mpr c44
         have c44b1 : (t962 != 0) = true := bne_iff_ne.mpr c44
         obtain rfl := Option.some.inj H
         obtain ⟨Ao67, co67, eo67⟩ := Kd.R_slice HO_4.out
         subst eo67
         have p947 : 0 ≤ (0 : Int) := (by omega)
         have q947 : 0 < (t942.length : Int) := dt_
         obtain ⟨ad947, e947, hx947_0⟩ := Kd.at_int (Kd.R_reads' HO_4.out).2.2 0 p947 q947
         cases e947
         have qi947 : (0 < t942.length) = True := eq_true (by omega)
         (try rw [show ((0 : Int)).toNat = 0 from rfl] at hx947_0)
         (try rw [Addr.add_zero'] at hx947_0)
         replace p947 := eq_true p947
         replace q947 := eq_true q947
         go_wp2_with (first | ((with_reducible refine gate_callee (f := 42) rfl ?_); refine goesL_ (some 35) rfl rfl Tryd.func42 (by kernel_rfl) rfl #[.int .i64 (rd t942 0)] rfl (by (try simp only [List.map_toArray, List.map_cons, List.map_nil]); first | done | rfl | (simp only [List.length_drop, List.length_take]; rfl)) ?_; (with_reducible refine (exactpplmake_Width.calls (rd t942 0) t948 _ A20.out).mono ?_); rintro e w' ⟨rfl, ⟨nd, rfl⟩⟩; refine ⟨_, rfl, ?_⟩; (try (rw [drewN_self wr]; generalize hq_ : World.drewN wr _ = wr; replace HO_4 : Aside0 (Kd.R (Kd.int .i64) 3 wr w.heap.size (fun _ => True) (.slice (some ad947) t942.length co67) t942) := ⟨by rw [← hq_]; exact (pR_ HO_4.out)⟩; replace HO_6 : Aside0 (Kd.N k31 31 wr w.heap.size (fun k_ => some k_ ≠ (.slice (some ad947) t942.length co67 : Value).ownBlock ∧ k_ ≠ gb941) u6 x6_2) := ⟨by rw [← hq_]; exact (pN_ HO_6.out)⟩; replace HO_942000 : Aside0 (Kd.V k60 60 wr w.heap.size (fun k_ => some k_ ≠ (.slice (some ad947) t942.length co67 : Value).ownBlock ∧ some k_ ≠ (u6 : Value).ownBlock ∧ k_ ≠ gb941) (.slice Ao9 t936.length co9) t936) := ⟨by rw [← hq_]; exact (pV_ HO_942000.out)⟩; replace BK941 : Aside0 (wr.heap[gb941]? = some (.cells #[.slice Ao9 t936.length co9] 31 (0, 0))) := ⟨by rw [← hq_]; exact bk_⟩; replace HB : Aside0 (Below w.heap.size w wr) := ⟨by rw [← hq_]; exact bl_⟩; clear hq_)); have p958 : 0 ≤ (0 : Int) := (by omega); have q958 : 0 < (t942.length : Int) := dt_; obtain ⟨ad958, e958, hx958_0⟩ := Kd.at_int (Kd.R_reads' HO_4.out).2.2 0 p958 q958; obtain rfl : ad947 = ad958 := (by injection e958); have qi958 : (0 < t942.length) = True := eq_true (by omega); (try rw [show ((0 : Int)).toNat = 0 from rfl] at hx958_0); (try rw [Addr.add_zero'] at hx958_0); replace p958 := eq_true p958; replace q958 := eq_true q958; obtain ⟨Ao68, co68, eo68⟩ := Kd.N_slice HO_6.out; subst eo68) | ((with_reducible refine gate_callee (f := 34) rfl ?_); refine goesL_ (some 59) rfl rfl Tryd.func34 (by kernel_rfl) rfl #[.int .i64 (rd t942 0), .slice Ao68 x6_2.length co68] rfl (by (try simp only [List.map_toArray, List.map_cons, List.map_nil]); first | done | rfl | (simp only [List.length_drop, List.length_take]; rfl)) ?_; (with_reducible refine (diagram_Branch.calls (rd t942 0) _ _ x6_2 t959 t962 _ ?side1 ?side2 A43.out ?tab).mono ?_); (case tab => exact ptab HTAB.out bl_); (case side1 => repeat (first | exact (Kd.N_reads' HO_6.out).2.2 | (with_reducible refine Kd.C_alloc ?_ _) | (with_reducible refine Kd.C_drewN ?_ _) | (with_reducible refine Kd.C_drew ?_))); (case side2 => exact (Kd.N_reads' HO_6.out).2.1); rintro e w69 ⟨v960, rfl, ho0, hb⟩; refine ⟨_, rfl, ?_⟩; have HO961 := Aside0.mk (Kd.V_lower (Kd.V_mono (ok' := fun k_ => some k_ ≠ (.slice (some ad947) t942.length co67 : Value).ownBlock ∧ some k_ ≠ (.slice Ao68 x6_2.length co68 : Value).ownBlock ∧ k_ ≠ gb941) ho0 (fun k_ hk_ => ⟨(Kd.fresh' (Kd.R_lt (pR_ HO_4.out)) k_ hk_), (Kd.fresh' (Kd.N_lt (pN_ HO_6.out)) k_ hk_), (Kd.freshB (g := gb941) (o := .cells #[.slice Ao9 t936.length co9] 31 (0, 0)) bk_ k_ hk_)⟩)) (below_size bl_)); replace HO_4 := Aside0.mk (Kd.R_below (pR_ HO_4.out) hb); replace HO_6 := Aside0.mk (Kd.N_below (pN_ HO_6.out) hb); replace HO_942000 := Aside0.mk (Kd.V_below (pV_ HO_942000.out) hb); replace BK941 := Aside0.mk (blk_below (g := gb941) (o := .cells #[.slice Ao9 t936.length co9] 31 (0, 0)) bk_ hb); replace HB := Aside0.mk (below_step bl_ hb); (try clear hb); (try clear hb2); (try clear hk); (try clear hi); (try clear ho0)) | ((with_reducible refine gate_dst (N := 10) rfl ?_); (try (refine gate_guard (by rfl) ?_; dsimp only)); refine box_event ?hg (N := 10) ?hd (cs := #[.slice none 0 0]) (t := 31) ?hr ?_; (case hd => rfl); (case hg => rfl); (case hr => first | (go_simp; done) | (go_simp; rfl)); intro gb963 hg w70 hbox hb; have BK963 := Aside0.mk (hbox); have GW963 : Aside0 (w.heap.size ≤ gb963) := gw_ hg (below_size bl_); have GE963 := GW963; have NB941_963 := Aside0.mk ((by rw [hg]; exact Nat.ne_of_lt (blk_lt (g := gb941) (o := .cells #[.slice Ao9 t936.length co9] 31 (0, 0)) bk_) : gb941 ≠ gb963)); have NB963_941 := Aside0.mk ((by rw [hg]; exact Nat.ne_of_gt (blk_lt (g := gb941) (o := .cells #[.slice Ao9 t936.length co9] 31 (0, 0)) bk_) : gb963 ≠ gb941)); replace HO_4 := Aside0.mk (Kd.R_below (pR_ HO_4.out) hb); replace HO_6 := Aside0.mk (Kd.N_below (Kd.N_elderB (pN_ HO_6.out) gb963 (Nat.le_of_eq hg.symm)) hb); replace HO_942000 := Aside0.mk (Kd.V_below (Kd.V_elderB (pV_ HO_942000.out) gb963 (Nat.le_of_eq hg.symm)) hb); replace HO961 := Aside0.mk (Kd.V_below (Kd.V_elderB (pV_ HO961.out) gb963 (Nat.le_of_eq hg.symm)) hb); replace BK941 := Aside0.mk (blk_below (g := gb941) (o := .cells #[.slice Ao9 t936.length co9] 31 (0, 0)) bk_ hb); replace HB := Aside0.mk (below_step bl_ hb); clear hb hbox hg; obtain ⟨Ao71, co71, eo71⟩ := Kd.V_slice HO961.out; subst eo71; have hnb72 := NB963_941.out; have hnc72 := NB941_963.out; obtain ⟨hcz73_0, hfz73_0⟩ := cf1_ BK963.out))
         go_ret
         exact ⟨re_, bl_⟩
      ·rw [if_neg c19] at H
       exact absurd H (by simp)

/-- THE ONE PURE STATEMENT of exactppllaw19_DiagramExpands: yours. -/
def exactppllaw19_DiagramExpands.Pure : Prop := ∀ (l0 : List Int), l0.length ≤ maxLen → l0.length * 8 ≤ 140737488351232 → (∀ x ∈ l0, (Lit.int .i64 x).wf = true) → ∃ k, exactppllaw19_DiagramExpands.f k l0 = some true
theorem exactppllaw19_DiagramExpands.walk (P : exactppllaw19_DiagramExpands.Pure) (a0 : Option Addr) (len0 cap0 : Nat) (z0 : List Int) (w : World) (htab : PowTab w.heap.size w) (w0 : (a0 = none ∧ len0 = 0 ∧ cap0 = 0 ∧ z0 = []) ∨ ∃ x, a0 = some x ∧ len0 ≤ cap0 ∧ cap0 ≤ maxLen ∧ z0.length = cap0 ∧ (∀ i, i < z0.length → w.cell? (x.add i) = some (.int .i64 (z0.getD i 0))) ∧ ∀ n ∈ z0, (Lit.int .i64 n).wf = true) (y0 : len0 * 8 ≤ 140737488351232) :
  Calls Tryd.prog 13 #[.slice a0 len0 cap0] w fun e w' => e = .returned (.bool true) ∧ Below w.heap.size w w' := by
 obtain ⟨l0, rfl, hr0, hm0, hw0, hc0⟩ := ReadsInt.ofRowC w0
 obtain ⟨k, h⟩ := P l0 hm0 y0 hw0
 refine (exactppllaw19_DiagramExpands.calls k _ _ l0 true w (Kd.C_of_reads (d := (0 : Int)) (h1 := fun _ => rfl) hr0) hc0 h htab).mono ?_
 rintro e w' ⟨rfl, hd⟩
 exact ⟨rfl, hd⟩

end Go.Proofs.YtopbjginpmdebaaDoor.K
namespace Go.Proofs.YtopbjginpmdebaaDoor.K
set_option linter.unusedVariables false
set_option linter.unusedSimpArgs false
/-- the value of node i for an assignment, d levels -/
def ev (u : List Nd) : Nat → Int → (Int → Nat) → Int
  | 0, _, _ => 0
  | d + 1, i, σ => if (nth u i).f0 < 0 then (nth u i).f1 else ev u d ((nth u i).f2.getD (σ (nth u i).f0) 0) σ
def evl (u : List Nd) (i : Int) (σ : Int → Nat) : Int := ev u (i.toNat + 1) i σ
/-- an assignment for a shape -/
def Val (sh : Int → Nat) (σ : Int → Nat) : Prop := ∀ s, σ s < sh s
def setA (σ : Int → Nat) (s : Int) (k : Nat) : Int → Nat := fun x => if x = s then k else σ x
theorem Val.set {sh σ : Int → Nat} (h : Val sh σ) {s : Int} {k : Nat} (hk : k < sh s) : Val sh (setA σ s k) := by
  intro x
  unfold setA
  split
  · rename_i e; rw [e]; exact hk
  · exact h x
/-- a reduced list whose branches of a site have one number of kids, greater sites below -/
structure Sh (sh : Int → Nat) (u : List Nd) : Prop where
  red : Red u
  ord : ∀ i : Nat, i < u.length → ∀ k ∈ (nth u i).f2, (nth u k).f0 < 0 ∨ (nth u i).f0 < (nth u k).f0
  len : ∀ n ∈ u, 0 ≤ n.f0 → n.f2.length = sh n.f0
theorem getD_mem {l : List Int} {j : Nat} (h : j < l.length) : l.getD j 0 ∈ l := by
  rw [List.getD_eq_getElem?_getD, List.getElem?_eq_getElem h]; exact List.getElem_mem h
theorem getD_out {l : List Int} {j : Nat} (h : l.length ≤ j) : l.getD j 0 = 0 := by
  rw [List.getD_eq_getElem?_getD, List.getElem?_eq_none h]; rfl
theorem nth_memN {u : List Nd} {i : Nat} (h : i < u.length) : nth u i ∈ u := nth_mem (by omega) (by omega)
theorem kid_lt {u : List Nd} (hu : Fit u) {i : Nat} (hi : i < u.length) (h0 : 0 ≤ (nth u i).f0) (j : Nat) : 0 ≤ (nth u i).f2.getD j 0 ∧ (nth u i).f2.getD j 0 < i := by
  rcases Nat.lt_or_ge j (nth u i).f2.length with h | h
  · exact hu.1 i hi _ (getD_mem h)
  · rw [getD_out h]
    have hne := hu.2 _ (nth_memN hi) h0
    obtain ⟨x, hx⟩ := List.exists_mem_of_ne_nil _ hne
    have := hu.1 i hi x hx
    omega
theorem ev_fuel {u : List Nd} (hu : Fit u) (σ : Int → Nat) : ∀ (i : Nat), i < u.length → ∀ d, i < d → ev u d i σ = ev u (i + 1) i σ := by
  intro i
  induction i using Nat.strongRecOn with
  | _ i ih =>
    intro hi d hd
    obtain ⟨d, rfl⟩ : ∃ e, d = e + 1 := ⟨d - 1, by omega⟩
    simp only [ev]
    by_cases h0 : (nth u i).f0 < 0
    · rw [if_pos h0, if_pos h0]
    · rw [if_neg h0, if_neg h0]
      obtain ⟨c0, c1⟩ := kid_lt hu hi (by omega) (σ (nth u i).f0)
      obtain ⟨c, hc⟩ : ∃ c : Nat, (nth u i).f2.getD (σ (nth u i).f0) 0 = c := ⟨_, (Int.toNat_of_nonneg c0).symm⟩
      rw [hc] at c1 ⊢
      rw [ih c (by omega) (by omega) d (by omega), ih c (by omega) (by omega) i (by omega)]
theorem evl_eq {u : List Nd} (hu : Fit u) (σ : Int → Nat) {i : Nat} (hi : i < u.length) : evl u i σ = if (nth u i).f0 < 0 then (nth u i).f1 else evl u ((nth u i).f2.getD (σ (nth u i).f0) 0) σ := by
  unfold evl
  rw [Int.toNat_natCast]
  by_cases h0 : (nth u i).f0 < 0
  · simp only [ev]
    rw [if_pos h0, if_pos h0]
  · simp only [ev]
    rw [if_neg h0, if_neg h0]
    obtain ⟨c0, c1⟩ := kid_lt hu hi (by omega) (σ (nth u i).f0)
    obtain ⟨c, hc⟩ : ∃ c : Nat, (nth u i).f2.getD (σ (nth u i).f0) 0 = c := ⟨_, (Int.toNat_of_nonneg c0).symm⟩
    rw [hc] at c1 ⊢
    rw [Int.toNat_natCast]
    exact ev_fuel hu σ c (by omega) i (by omega)
theorem evl_leaf {u : List Nd} (hu : Fit u) (σ : Int → Nat) {i : Nat} (hi : i < u.length) (h : (nth u i).f0 < 0) : evl u i σ = (nth u i).f1 := by rw [evl_eq hu σ hi, if_pos h]
theorem evl_br {u : List Nd} (hu : Fit u) (σ : Int → Nat) {i : Nat} (hi : i < u.length) (h : 0 ≤ (nth u i).f0) : evl u i σ = evl u ((nth u i).f2.getD (σ (nth u i).f0) 0) σ := by rw [evl_eq hu σ hi, if_neg (by omega)]
theorem kid_top {sh : Int → Nat} {u : List Nd} (h : Sh sh u) {i : Nat} (hi : i < u.length) (h0 : 0 ≤ (nth u i).f0) (j : Nat) : (nth u ((nth u i).f2.getD j 0)).f0 < 0 ∨ (nth u i).f0 < (nth u ((nth u i).f2.getD j 0)).f0 := by
  rcases Nat.lt_or_ge j (nth u i).f2.length with h1 | h1
  · exact h.ord i hi _ (getD_mem h1)
  · rw [getD_out h1]
    refine .inl ?_
    rcases Int.lt_or_le (nth u 0).f0 0 with h2 | h2
    · exact h2
    · exfalso
      have := kid_lt h.red.fit (i := 0) (by omega) h2 0
      omega
/-- only the sites from the node's on matter -/
theorem evl_agree {sh : Int → Nat} {u : List Nd} (h : Sh sh u) : ∀ (i : Nat), i < u.length → ∀ σ τ : Int → Nat, ((nth u i).f0 < 0 ∨ ∀ x, (nth u i).f0 ≤ x → σ x = τ x) → evl u i σ = evl u i τ := by
  intro i
  induction i using Nat.strongRecOn with
  | _ i ih =>
    intro hi σ τ hx
    by_cases h0 : (nth u i).f0 < 0
    · rw [evl_leaf h.red.fit σ hi h0, evl_leaf h.red.fit τ hi h0]
    · have hx := hx.resolve_left h0
      rw [evl_br h.red.fit σ hi (by omega), evl_br h.red.fit τ hi (by omega), ← hx _ (Int.le_refl _)]
      obtain ⟨c0, c1⟩ := kid_lt h.red.fit hi (by omega) (σ (nth u i).f0)
      have ht := kid_top h hi (by omega) (σ (nth u i).f0)
      obtain ⟨c, hc⟩ : ∃ c : Nat, (nth u i).f2.getD (σ (nth u i).f0) 0 = c := ⟨_, (Int.toNat_of_nonneg c0).symm⟩
      rw [hc] at c1 ht ⊢
      refine ih c (by omega) (by omega) σ τ ?_
      rcases ht with ht | ht
      · exact .inl ht
      · exact .inr fun x hx' => hx x (by omega)
/-- a kid's value is the branch's for its outcome -/
theorem evl_kid {sh : Int → Nat} {u : List Nd} (h : Sh sh u) {i : Nat} (hi : i < u.length) (h0 : 0 ≤ (nth u i).f0) (σ : Int → Nat) (k : Nat) : evl u i (setA σ (nth u i).f0 k) = evl u ((nth u i).f2.getD k 0) σ := by
  have e : setA σ (nth u i).f0 k (nth u i).f0 = k := by unfold setA; rw [if_pos rfl]
  rw [evl_br h.red.fit _ hi h0, e]
  obtain ⟨c0, c1⟩ := kid_lt h.red.fit hi h0 k
  have ht := kid_top h hi h0 k
  obtain ⟨c, hc⟩ : ∃ c : Nat, (nth u i).f2.getD k 0 = c := ⟨_, (Int.toNat_of_nonneg c0).symm⟩
  rw [hc] at c1 ht ⊢
  refine evl_agree h c (by omega) _ _ ?_
  rcases ht with ht | ht
  · exact .inl ht
  · refine .inr fun x hx => ?_
    unfold setA
    rw [if_neg (by omega)]
theorem evl_above {sh : Int → Nat} {u : List Nd} (h : Sh sh u) {j : Nat} (hj : j < u.length) {s : Int} (hs : (nth u j).f0 < 0 ∨ s < (nth u j).f0) (σ : Int → Nat) (k : Nat) : evl u j (setA σ s k) = evl u j σ := by
  refine evl_agree h j hj _ _ ?_
  rcases hs with hs | hs
  · exact .inl hs
  · refine .inr fun x hx => ?_
    unfold setA
    rw [if_neg (by omega)]
theorem sameK_of {l : List Int} {x : Int} (h : ∀ k ∈ l, k = x) : sameK l = true := by
  cases l with
  | nil => rfl
  | cons a l =>
    refine List.all_eq_true.2 fun k hk => ?_
    have h1 := h k hk
    have h2 := h a List.mem_cons_self
    simp [h1, h2]
theorem mem_getD {l : List Int} {x : Int} (h : x ∈ l) : ∃ k, k < l.length ∧ l.getD k 0 = x := by
  obtain ⟨k, hk, rfl⟩ := List.getElem_of_mem h
  exact ⟨k, hk, by rw [List.getD_eq_getElem?_getD, List.getElem?_eq_getElem hk]; rfl⟩
/-- two nodes of one function are one -/
theorem canon {sh : Int → Nat} {u : List Nd} (h : Sh sh u) (hp : ∀ s, 0 < sh s) : ∀ (N i j : Nat), i + j ≤ N → i < u.length → j < u.length → (∀ σ, Val sh σ → evl u i σ = evl u j σ) → i = j := by
  intro N
  induction N with
  | zero => intro i j h1 _ _ _; omega
  | succ N ih =>
    -- a branch whose function is that of a node above its site
    have key : ∀ i j : Nat, i + j ≤ N + 1 → i < u.length → j < u.length → (∀ σ, Val sh σ → evl u i σ = evl u j σ) → 0 ≤ (nth u i).f0 → ((nth u j).f0 < 0 ∨ (nth u i).f0 < (nth u j).f0) → False := by
      intro i j hij hi hj hσ h0 ht
      have hn := nth_memN hi
      have hl := h.len _ hn h0
      have hall : ∀ k ∈ (nth u i).f2, k = (j : Int) := by
        intro x hx
        obtain ⟨k, hk, rfl⟩ := mem_getD hx
        obtain ⟨c0, c1⟩ := kid_lt h.red.fit hi h0 k
        obtain ⟨c, hc⟩ : ∃ c : Nat, (nth u i).f2.getD k 0 = c := ⟨_, (Int.toNat_of_nonneg c0).symm⟩
        have e1 := fun σ => evl_kid h hi h0 σ k
        rw [hc] at c1 e1 ⊢
        congr 1
        refine ih c j (by omega) (by omega) hj fun σ hv => ?_
        rw [← e1 σ, hσ _ (hv.set (by omega)), evl_above h hj ht]
      have := h.red.thin _ hn (h.red.full _ hn h0).1
      rw [sameK_of hall] at this
      cases this
    intro i j hij hi hj hσ
    by_cases hi0 : (nth u i).f0 < 0
    · by_cases hj0 : (nth u j).f0 < 0
      · have e := hσ (fun _ => 0) (fun s => hp s)
        rw [evl_leaf h.red.fit _ hi hi0, evl_leaf h.red.fit _ hj hj0] at e
        have li := h.red.leafy _ (nth_memN hi) hi0
        have lj := h.red.leafy _ (nth_memN hj) hj0
        have := nodup_nth h.red.nodup (i := (i : Int)) (j := (j : Int)) ⟨by omega, by omega⟩ ⟨by omega, by omega⟩ (nd_ext (li.1.trans lj.1.symm) e (li.2.trans lj.2.symm))
        omega
      · exact (key j i (by omega) hj hi (fun σ hv => (hσ σ hv).symm) (by omega) (.inl hi0)).elim
    · by_cases hj0 : (nth u j).f0 < 0
      · exact (key i j hij hi hj hσ (by omega) (.inl hj0)).elim
      · rcases Int.lt_trichotomy (nth u i).f0 (nth u j).f0 with hlt | heq | hlt
        · exact (key i j hij hi hj hσ (by omega) (.inr hlt)).elim
        · have hli := h.len _ (nth_memN hi) (by omega)
          have hlj := h.len _ (nth_memN hj) (by omega)
          have fi := h.red.full _ (nth_memN hi) (by omega)
          have fj := h.red.full _ (nth_memN hj) (by omega)
          have e2 : (nth u i).f2 = (nth u j).f2 := by
            refine List.ext_getElem (by rw [hli, hlj, heq]) fun k hk1 hk2 => ?_
            obtain ⟨c0, c1⟩ := kid_lt h.red.fit hi (by omega) k
            obtain ⟨d0, d1⟩ := kid_lt h.red.fit hj (by omega) k
            obtain ⟨c, hc⟩ : ∃ c : Nat, (nth u i).f2.getD k 0 = c := ⟨_, (Int.toNat_of_nonneg c0).symm⟩
            obtain ⟨d, hd⟩ : ∃ d : Nat, (nth u j).f2.getD k 0 = d := ⟨_, (Int.toNat_of_nonneg d0).symm⟩
            have e1 := fun σ => evl_kid h hi (by omega) σ k
            have e2 := fun σ => evl_kid h hj (by omega) σ k
            rw [hc] at c1 e1
            rw [hd] at d1 e2
            have : c = d := ih c d (by omega) (by omega) (by omega) fun σ hv => by
              rw [← e1 σ, ← e2 σ, ← heq]
              exact hσ _ (hv.set (by omega))
            have g1 : (nth u i).f2[k] = (nth u i).f2.getD k 0 := by rw [List.getD_eq_getElem?_getD, List.getElem?_eq_getElem hk1]; rfl
            have g2 : (nth u j).f2[k] = (nth u j).f2.getD k 0 := by rw [List.getD_eq_getElem?_getD, List.getElem?_eq_getElem hk2]; rfl
            rw [g1, g2, hc, hd, this]
          have := nodup_nth h.red.nodup (i := (i : Int)) (j := (j : Int)) ⟨by omega, by omega⟩ ⟨by omega, by omega⟩ (nd_ext heq (fi.2.trans fj.2.symm) e2)
          omega
        · exact (key j i (by omega) hj hi (fun σ hv => (hσ σ hv).symm) (by omega) (.inr hlt)).elim
/-- the longer list has the shorter one's values -/
theorem evl_pre {u v : List Nd} (hu : Fit u) (hv : Fit v) (h : u <+: v) (σ : Int → Nat) : ∀ (i : Nat), i < u.length → evl v i σ = evl u i σ := by
  intro i
  induction i using Nat.strongRecOn with
  | _ i ih =>
    intro hi
    have hl := h.length_le
    rw [evl_eq hu σ hi, evl_eq hv σ (by omega), nth_prefix h (by omega) (by omega)]
    by_cases h0 : (nth u i).f0 < 0
    · rw [if_pos h0, if_pos h0]
    · rw [if_neg h0, if_neg h0]
      obtain ⟨c0, c1⟩ := kid_lt hu hi (by omega) (σ (nth u i).f0)
      obtain ⟨c, hc⟩ : ∃ c : Nat, (nth u i).f2.getD (σ (nth u i).f0) 0 = c := ⟨_, (Int.toNat_of_nonneg c0).symm⟩
      rw [hc] at c1 ⊢
      exact ih c (by omega) (by omega)
theorem evl_preI {u v : List Nd} (hu : Fit u) (hv : Fit v) (h : u <+: v) (σ : Int → Nat) {i : Int} (h0 : 0 ≤ i) (hi : i < u.length) : evl v i σ = evl u i σ := by
  have := evl_pre hu hv h σ i.toNat (by omega)
  rwa [Int.toNat_of_nonneg h0] at this
theorem mp_getD {φ : PM} {l : List Int} {k : Nat} (h : k < l.length) : (mp φ l).getD k 0 = (φ (l.getD k 0)).getD 0 := by
  unfold mp
  rw [List.getD_eq_getElem?_getD, List.getD_eq_getElem?_getD, List.getElem?_map, List.getElem?_eq_getElem h]; rfl
theorem evl_iso {u v : List Nd} {φ : PM} (h : Iso u v φ) (hu : Fit u) (hv : Fit v) {sh : Int → Nat} (hl : ∀ n ∈ u, 0 ≤ n.f0 → n.f2.length = sh n.f0) {σ : Int → Nat} (hσ : Val sh σ) : ∀ (i : Nat) (a : Int), φ i = some a → evl u i σ = evl v a σ := by
  intro i
  induction i using Nat.strongRecOn with
  | _ i ih =>
    intro a ha
    obtain ⟨_, a0, i1, a1, hn, hk⟩ := h.node i a ha
    obtain ⟨b, rfl⟩ : ∃ b : Nat, a = b := ⟨_, (Int.toNat_of_nonneg a0).symm⟩
    rw [evl_eq hu σ (by omega), evl_eq hv σ (by omega), hn]
    simp only
    by_cases h0 : (nth u i).f0 < 0
    · rw [if_pos h0, if_pos h0]
    · rw [if_neg h0, if_neg h0]
      have hlen : σ (nth u i).f0 < (nth u i).f2.length := by rw [hl _ (nth_memN (by omega)) (by omega)]; exact hσ _
      rw [mp_getD hlen]
      obtain ⟨c0, c1⟩ := kid_lt hu (i := i) (by omega) (by omega) (σ (nth u i).f0)
      have hm := getD_mem hlen
      obtain ⟨c, hc⟩ : ∃ c : Nat, (nth u i).f2.getD (σ (nth u i).f0) 0 = c := ⟨_, (Int.toNat_of_nonneg c0).symm⟩
      rw [hc] at c1 hm ⊢
      obtain ⟨d, hd⟩ := Option.isSome_iff_exists.1 (hk _ hm)
      rw [hd]
      exact ih c (by omega) d hd
/-- what a branch's place tells -/
theorem evl_placeB {u : List Nd} {s : Int} {ks : List Int} (hu : Red u) (hs : 0 ≤ s) (hk : ∀ k ∈ ks, 0 ≤ k ∧ k < (u.length : Int)) {σ : Int → Nat} (hσ : σ s < ks.length) :
    evl (placeB u s ks).1 (placeB u s ks).2 σ = evl u (ks.getD (σ s) 0) σ := by
  have hne : ks ≠ [] := by intro e; rw [e] at hσ; simp at hσ
  have hm := getD_mem hσ
  obtain ⟨h0, h1⟩ := hk _ hm
  have hr := hu.placeB hs hk hne
  by_cases hq : sameK ks = true
  · have e : placeB u s ks = (u, ks.headD 0) := by unfold placeB; rw [if_pos hq]
    rw [e, sameK_head hq _ hm]
  · have e : placeB u s ks = place0 u ⟨s, 0, ks⟩ := by unfold placeB; rw [if_neg hq]
    rw [e] at hr ⊢
    obtain ⟨p0, p1⟩ := place0_lt u ⟨s, 0, ks⟩
    have hn := place0_nth u ⟨s, 0, ks⟩
    obtain ⟨b, hb⟩ : ∃ b : Nat, (place0 u ⟨s, 0, ks⟩).2 = b := ⟨_, (Int.toNat_of_nonneg p0).symm⟩
    rw [hb] at p1 hn ⊢
    rw [evl_br hr.fit σ (by omega) (by rw [hn]; exact hs), hn]
    exact evl_preI hu.fit hr.fit (place0_pre _ _) σ h0 h1
theorem evl_place0 {u : List Nd} {v : Int} (hr : Red (place0 u ⟨-1, v, []⟩).1) (σ : Int → Nat) : evl (place0 u ⟨-1, v, []⟩).1 (place0 u ⟨-1, v, []⟩).2 σ = v := by
  obtain ⟨p0, p1⟩ := place0_lt u ⟨-1, v, []⟩
  have hn := place0_nth u ⟨-1, v, []⟩
  obtain ⟨b, hb⟩ : ∃ b : Nat, (place0 u ⟨-1, v, []⟩).2 = b := ⟨_, (Int.toNat_of_nonneg p0).symm⟩
  rw [hb] at p1 hn ⊢
  rw [evl_leaf hr.fit σ (by omega) (by rw [hn]; show (-1 : Int) < 0; omega), hn]
theorem lk_new (at_ : List Int) (x : Int) {c : Int} (h : c = (at_.length : Int)) : lk (at_ ++ [x]) c = x := by
  subst h
  unfold lk
  rw [List.getD_eq_getElem?_getD, Int.toNat_natCast, List.getElem?_append_right (Nat.le_refl _)]
  simp
theorem lk_old {at_ : List Int} {x : Int} {c : Nat} (h : c < at_.length) : lk (at_ ++ [x]) (c : Int) = lk at_ (c : Int) := by
  unfold lk
  rw [List.getD_eq_getElem?_getD, List.getD_eq_getElem?_getD, List.getElem?_append_left (by omega)]
/-- storing a graph keeps its values -/
theorem evl_imp {sh : Int → Nat} {l u : List Nd} (hl : Fit l) (hlen : ∀ n ∈ l, 0 ≤ n.f0 → n.f2.length = sh n.f0) (hu : Red u) {σ : Int → Nat} (hσ : Val sh σ) : ∀ k, k ≤ l.length → ∀ c : Nat, c < k → evl (imp u [] (l.take k)).1 (lk (imp u [] (l.take k)).2 (c : Int)) σ = evl l c σ := by
  intro k
  induction k with
  | zero => intro _ c hc; omega
  | succ k ih =>
    intro hk c hc
    have ih := ih (by omega)
    obtain ⟨t1, t2, t3⟩ := imp_tbl hl (u := u) ⟨hu.down, hu.nodup, by simp⟩ k (by omega)
    have hr := imp_red hl hu k (by omega)
    have hr2 := imp_red hl hu (k + 1) (by omega)
    have hlen2 := imp_len (l.take k) u []
    have hdn := hl.1 k (by omega)
    have hmem : nth l k ∈ l := nth_memN (by omega)
    rw [take_snoc' (ns := l) (k := k) (by omega), imp_snoc] at hr2 ⊢
    generalize hI : imp u [] (l.take k) = I at ih t1 t2 t3 hr hlen2 hr2 ⊢
    obtain ⟨v, at_⟩ := I
    simp only at ih t1 t2 t3 hr hlen2 hr2 ⊢
    have hal : at_.length = k := by rw [hlen2]; simp; omega
    have hpre : v <+: (place1 v at_ (nth l k)).1 := by
      unfold place1
      split
      · exact place0_pre _ _
      · exact placeB_pre _ _ _
    rcases Nat.lt_or_ge c k with h1 | h1
    · rw [lk_old (by omega)]
      obtain ⟨q0, q1⟩ := t1.at_lt _ (lk_mem (at_ := at_) (c := (c : Int)) (by omega) (by omega))
      rw [evl_preI hr.fit hr2.fit hpre σ q0 q1]
      exact ih c h1
    · have e : c = k := by omega
      subst e
      rw [lk_new _ _ (by omega)]
      by_cases h0 : (nth l c).f0 < 0
      · have e : place1 v at_ (nth l c) = place0 v ⟨-1, (nth l c).f1, []⟩ := by unfold place1; rw [if_pos h0]
        rw [e] at hr2 ⊢
        rw [evl_place0 hr2, evl_leaf hl σ (by omega) h0]
      · have e : place1 v at_ (nth l c) = placeB v (nth l c).f0 ((nth l c).f2.map (lk at_)) := by unfold place1; rw [if_neg h0]
        have hs : σ (nth l c).f0 < (nth l c).f2.length := by rw [hlen _ hmem (by omega)]; exact hσ _
        have hkk := t1.kids (l := (nth l c).f2) (fun x hx => by have := hdn x hx; omega)
        rw [e, evl_placeB hr (by omega) hkk (by simpa using hs), evl_br hl σ (by omega) (by omega)]
        obtain ⟨c0, c1⟩ := kid_lt hl (i := c) (by omega) (by omega) (σ (nth l c).f0)
        have e2 : ((nth l c).f2.map (lk at_)).getD (σ (nth l c).f0) 0 = lk at_ ((nth l c).f2.getD (σ (nth l c).f0) 0) := by
          rw [List.getD_eq_getElem?_getD, List.getD_eq_getElem?_getD, List.getElem?_map, List.getElem?_eq_getElem hs]; rfl
        rw [e2]
        obtain ⟨d, hd⟩ : ∃ d : Nat, (nth l c).f2.getD (σ (nth l c).f0) 0 = d := ⟨_, (Int.toNat_of_nonneg c0).symm⟩
        rw [hd] at c1 ⊢
        exact ih d (by omega)
theorem evl_expo {sh : Int → Nat} {u : List Nd} (hu : Red u) (hlen : ∀ n ∈ u, 0 ≤ n.f0 → n.f2.length = sh n.f0) {σ : Int → Nat} (hσ : Val sh σ) {r : Nat} (hr : r < u.length) : evl (expo u r) (((expo u r).length - 1 : Nat) : Int) σ = evl u r σ := by
  obtain ⟨g, h1, h2, h3⟩ := expo_pl hu.down hr
  exact (evl_iso h1.iso hu.fit (h1.red hu).fit hlen hσ r _ h2).symm
/-- what a root gives stays when the table grows -/
theorem expo_pre {u v : List Nd} (hu : Down u) (hv : Down v) (h : u <+: v) {r : Nat} (hr : r < u.length) : expo v r = expo u r := by
  have hl := h.length_le
  have hi : Iso u v (fun i => if 0 ≤ i ∧ i < u.length then some i else none) := by
    refine ⟨fun i j a h1 h2 => ?_, fun i a h1 => ?_⟩
    · by_cases c1 : 0 ≤ i ∧ i < u.length
      · by_cases c2 : 0 ≤ j ∧ j < u.length
        · rw [if_pos c1] at h1; rw [if_pos c2] at h2
          injection h1 with h1; injection h2 with h2; omega
        · rw [if_neg c2] at h2; cases h2
      · rw [if_neg c1] at h1; cases h1
    · by_cases c1 : 0 ≤ i ∧ i < u.length
      · rw [if_pos c1] at h1
        injection h1 with h1
        subst h1
        have hd := hu i.toNat (by omega)
        rw [Int.toNat_of_nonneg c1.1] at hd
        refine ⟨c1.1, c1.1, c1.2, by omega, ?_, fun k hk => ?_⟩
        · rw [nth_prefix h c1.1 c1.2]
          refine nd_ext rfl rfl ?_
          show (nth u i).f2 = mp _ (nth u i).f2
          unfold mp
          refine ((List.map_id' (l := (nth u i).f2)).symm.trans (List.map_congr_left fun k hk => ?_))
          have := hd k hk
          show k = (if 0 ≤ k ∧ k < (u.length : Int) then some k else none).getD 0
          rw [if_pos ⟨this.1, by omega⟩]; rfl
        · have := hd k hk
          show (if 0 ≤ k ∧ k < (u.length : Int) then some k else none).isSome = true
          rw [if_pos ⟨this.1, by omega⟩]; rfl
      · rw [if_neg c1] at h1; cases h1
  exact (expo_iso hi hu hv (i := (r : Int)) (a := (r : Int)) (by rw [if_pos ⟨by omega, by omega⟩])).symm
/-- two canonical diagrams of one function are one -/
theorem can_unique {sh : Int → Nat} (hp : ∀ s, 0 < sh s) {a b : List Nd} (ha : Can a) (hb : Can b) (la : ∀ n ∈ a, 0 ≤ n.f0 → n.f2.length = sh n.f0) (lb : ∀ n ∈ b, 0 ≤ n.f0 → n.f2.length = sh n.f0) (hU : Sh sh (imp (imp [] [] a).1 [] b).1)
    (h : ∀ σ, Val sh σ → evl a ((a.length - 1 : Nat) : Int) σ = evl b ((b.length - 1 : Nat) : Int) σ) : a = b := by
  have pa := ha.ne
  have pb := hb.ne
  have ra := imp_red ha.red.fit red_nil a.length (Nat.le_refl _)
  have ta := (imp_tbl ha.red.fit tbl_nil a.length (Nat.le_refl _)).1
  rw [List.take_length] at ra ta
  have tb := imp_tbl hb.red.fit (u := (imp [] [] a).1) ⟨ra.down, ra.nodup, by simp⟩ b.length (Nat.le_refl _)
  rw [List.take_length] at tb
  obtain ⟨tb, -, hpre⟩ := tb
  have xa := ta.at_lt _ (lk_mem (at_ := (imp [] [] a).2) (c := ((a.length - 1 : Nat) : Int)) (by omega) (by rw [imp_len]; simp; omega))
  have xb := tb.at_lt _ (lk_mem (at_ := (imp (imp [] [] a).1 [] b).2) (c := ((b.length - 1 : Nat) : Int)) (by omega) (by rw [imp_len]; simp; omega))
  have ea := imp_expo ha red_nil
  have eb := imp_expo hb ra
  have va := fun σ (hσ : Val sh σ) => evl_imp ha.red.fit la red_nil hσ a.length (Nat.le_refl _) (a.length - 1) (by omega)
  have vb := fun σ (hσ : Val sh σ) => evl_imp hb.red.fit lb ra hσ b.length (Nat.le_refl _) (b.length - 1) (by omega)
  rw [List.take_length] at va vb
  have hl := hpre.length_le
  obtain ⟨r, hr⟩ : ∃ r : Nat, lk (imp [] [] a).2 ((a.length - 1 : Nat) : Int) = r := ⟨_, (Int.toNat_of_nonneg xa.1).symm⟩
  obtain ⟨t, ht⟩ : ∃ t : Nat, lk (imp (imp [] [] a).1 [] b).2 ((b.length - 1 : Nat) : Int) = t := ⟨_, (Int.toNat_of_nonneg xb.1).symm⟩
  rw [hr] at xa ea va
  rw [ht] at xb eb vb
  have hrt : r = t := canon hU hp (r + t) r t (Nat.le_refl _) (by omega) (by omega) fun σ hσ => by
    rw [vb σ hσ, ← h σ hσ, ← va σ hσ]
    exact evl_pre ra.fit hU.red.fit hpre σ r (by omega)
  rw [← ea, ← eb, ← hrt]
  exact (expo_pre ra.down hU.red.down hpre (by omega)).symm
end Go.Proofs.YtopbjginpmdebaaDoor.K
-- diagrams by their values: what Restrict, Branch and Eval make
namespace Go.Proofs.YtopbjginpmdebaaDoor.K
open Go.RowKit Go.Maps Go.Proofs.YtopbjginpmdebaaDoorW.PrintWords Go.Proofs.YtopbjginpmdebaaDoorW.PrintLast Go.Proofs.YtopbjginpmdebaaDoorW.PrintMore
set_option linter.unusedVariables false
set_option linter.unusedSimpArgs false
/-- a diagram's value for an assignment -/
def vl (d : List Nd) (σ : Int → Nat) : Int := evl d ((d.length - 1 : Nat) : Int) σ
theorem Tb.sh {sh : Int → Nat} {u : List Nd} (h : Tb sh u) : Sh sh u := ⟨h.red, h.ord, fun n hn h0 => by
  rcases h.ok n hn with h1 | h1
  · omega
  · exact h1.2.2.1⟩
theorem GrS.len {sh : Int → Nat} {l : List Nd} (h : GrS sh l) : ∀ n ∈ l, 0 ≤ n.f0 → n.f2.length = sh n.f0 := by
  intro n hn h0
  obtain ⟨i, hi, rfl⟩ := mem_nth hn
  rcases h.nd i hi with h1 | h1
  · have := (lf_iff.1 h1).1; omega
  · exact h1.2
theorem imp_tb' {sh : Int → Nat} {l u : List Nd} (h : Tb sh u) (hl : GrS sh l) : Tb sh (imp u [] l).1 := by
  have := (imp_tb h hl l.length (Nat.le_refl _)).1
  rwa [List.take_length] at this
/-- canonical diagrams of one shape with the same values are equal -/
theorem dg_unique {sh : Int → Nat} (hp : ∀ s, 0 < sh s) {a b : List Nd} (ga : GrS sh a) (gb : GrS sh b) (ca : Can a) (cb : Can b) (h : ∀ σ, Val sh σ → vl a σ = vl b σ) : a = b :=
  can_unique hp ca cb ga.len gb.len (imp_tb' (imp_tb' (tb_nil sh) ga) gb).sh h
/-- only the sites that occur matter -/
theorem evl_congr {u : List Nd} (hu : Fit u) {σ τ : Int → Nat} (h : ∀ n ∈ u, 0 ≤ n.f0 → σ n.f0 = τ n.f0) : ∀ i : Nat, i < u.length → evl u i σ = evl u i τ := by
  intro i
  induction i using Nat.strongRecOn with
  | _ i ih =>
    intro hi
    by_cases h0 : (nth u i).f0 < 0
    · rw [evl_leaf hu σ hi h0, evl_leaf hu τ hi h0]
    · rw [evl_br hu σ hi (by omega), evl_br hu τ hi (by omega), ← h _ (nth_memN hi) (by omega)]
      obtain ⟨c0, c1⟩ := kid_lt hu hi (by omega) (σ (nth u i).f0)
      obtain ⟨c, hc⟩ : ∃ c : Nat, (nth u i).f2.getD (σ (nth u i).f0) 0 = c := ⟨_, (Int.toNat_of_nonneg c0).symm⟩
      rw [hc] at c1 ⊢
      exact ih c (by omega) (by omega)
theorem vl_congr {u : List Nd} (hu : Fit u) (h0 : 0 < u.length) {σ τ : Int → Nat} (h : ∀ n ∈ u, 0 ≤ n.f0 → σ n.f0 = τ n.f0) : vl u σ = vl u τ := evl_congr hu h _ (by omega)
theorem rd_getD (l : List Int) (i : Int) : rd l i = l.getD i.toNat 0 := rfl
/-- Restrict's table -/
theorem fx_tb {sh : Int → Nat} {l : List Nd} (hl : GrS sh l) {s oc : Int} (ho : OcOk s oc l) : ∀ k, k ≤ l.length → Tb sh (fx s oc [] [] (l.take k)).1 ∧ AtOk l (fx s oc [] [] (l.take k)).1 (fx s oc [] [] (l.take k)).2 k := by
  intro k
  induction k with
  | zero => intro _; exact ⟨by simpa [fx] using tb_nil sh, fun c hc => by omega⟩
  | succ k ih =>
    intro hk
    obtain ⟨h1, h2⟩ := ih (by omega)
    have h3 := (fx_tbl (site := s) (oc := oc) hl.fit ho tbl_nil k (by omega)).1
    have hlen := fx_len s oc (l.take k) [] []
    have hm : nth l (k : Int) ∈ l := nth_memN (by omega)
    have hd := hl.fit.1 k (by omega)
    rw [take_snoc' (by omega), fx_snoc]
    generalize fx s oc [] [] (l.take k) = S at h1 h2 h3 hlen ⊢
    have hal : S.2.length = k := by rw [hlen]; simp; omega
    unfold fx1
    by_cases hs : 0 ≤ (nth l (k : Int)).f0 ∧ (nth l (k : Int)).f0 = s
    · rw [if_pos hs]
      refine ⟨h1, fun c hc => ?_⟩
      have hoc := ho _ hm hs.1 hs.2
      rcases Nat.lt_or_ge c k with h4 | h4
      · rw [lk_snoc_old (by omega)]
        exact h2 c h4
      · obtain rfl : c = k := by omega
        have hkid := rd_mem hoc.1 hoc.2
        have hlt := hd _ hkid
        rw [lk_new _ _ (by omega)]
        have h5 := h2 (rd (nth l (c : Int)).f2 oc).toNat (by omega)
        rw [Int.toNat_of_nonneg hlt.1] at h5
        rcases h5 with h5 | h5
        · exact .inl h5
        · refine .inr ⟨hs.1, ?_⟩
          rcases hl.nd c (by omega) with h6 | h6
          · have := (lf_iff.1 h6).1; omega
          · have := ((br_iff.1 h6.1).2 _ hkid).2
            show _ ≤ (nth S.1 (lk S.2 (rd (nth l (c : Int)).f2 oc))).f0
            omega
    · rw [if_neg hs]
      exact h1.step hl (by omega) hal h2 h3.at_lt
theorem fx_tb' {sh : Int → Nat} {l : List Nd} (hl : GrS sh l) {s oc : Int} (ho : OcOk s oc l) : Tb sh (fx s oc [] [] l).1 := by
  have := (fx_tb hl ho l.length (Nat.le_refl _)).1
  rwa [List.take_length] at this
/-- its values -/
theorem evl_fx {sh : Int → Nat} {l : List Nd} (hl : GrS sh l) {s : Int} {oc : Nat} (ho : OcOk s oc l) {σ : Int → Nat} (hσ : Val sh σ) (hoc : ∀ n ∈ l, 0 ≤ n.f0 → n.f0 = s → oc < sh s) : ∀ k, k ≤ l.length → ∀ c : Nat, c < k → evl (fx s oc [] [] (l.take k)).1 (lk (fx s oc [] [] (l.take k)).2 (c : Int)) σ = evl l c (setA σ s oc) := by
  intro k
  induction k with
  | zero => intro _ c hc; omega
  | succ k ih =>
    intro hk c hc
    have ih := ih (by omega)
    have t1 := (fx_tbl (site := s) (oc := oc) hl.fit ho tbl_nil k (by omega)).1
    have hr := (fx_tb hl ho k (by omega)).1.red
    have hr2 := (fx_tb hl ho (k + 1) (by omega)).1.red
    have hlen2 := fx_len s oc (l.take k) [] []
    have hdn := hl.fit.1 k (by omega)
    have hmem : nth l k ∈ l := nth_memN (by omega)
    rw [take_snoc' (ns := l) (k := k) (by omega), fx_snoc] at hr2 ⊢
    generalize fx s oc [] [] (l.take k) = I at ih t1 hr hlen2 hr2 ⊢
    obtain ⟨v, at_⟩ := I
    simp only at ih t1 hr hlen2 hr2 ⊢
    have hal : at_.length = k := by rw [hlen2]; simp; omega
    by_cases hs : 0 ≤ (nth l (k : Int)).f0 ∧ (nth l (k : Int)).f0 = s
    · have e : fx1 s oc v at_ (nth l k) = (v, lk at_ (rd (nth l k).f2 oc)) := by unfold fx1; rw [if_pos hs]
      rw [e]
      simp only
      rcases Nat.lt_or_ge c k with h1 | h1
      · rw [lk_old (by omega)]; exact ih c h1
      · obtain rfl : c = k := by omega
        rw [lk_new _ _ (by omega), evl_br hl.fit _ (by omega) hs.1, hs.2]
        have e2 : setA σ s oc s = oc := by unfold setA; rw [if_pos rfl]
        rw [e2, rd_getD, Int.toNat_natCast]
        obtain ⟨c0, c1⟩ := kid_lt hl.fit (i := c) (by omega) hs.1 oc
        obtain ⟨d, hd⟩ : ∃ d : Nat, (nth l c).f2.getD oc 0 = d := ⟨_, (Int.toNat_of_nonneg c0).symm⟩
        rw [hd] at c1 ⊢
        exact ih d (by omega)
    · have e : fx1 s oc v at_ (nth l k) = place1 v at_ (nth l k) := by unfold fx1; rw [if_neg hs]
      rw [e] at hr2 ⊢
      have hpre : v <+: (place1 v at_ (nth l k)).1 := by
        unfold place1
        split
        · exact place0_pre _ _
        · exact placeB_pre _ _ _
      rcases Nat.lt_or_ge c k with h1 | h1
      · rw [lk_old (by omega)]
        obtain ⟨q0, q1⟩ := t1.at_lt _ (lk_mem (at_ := at_) (c := (c : Int)) (by omega) (by omega))
        rw [evl_preI hr.fit hr2.fit hpre σ q0 q1]
        exact ih c h1
      · obtain rfl : c = k := by omega
        rw [lk_new _ _ (by omega)]
        by_cases h0 : (nth l c).f0 < 0
        · have e : place1 v at_ (nth l c) = place0 v ⟨-1, (nth l c).f1, []⟩ := by unfold place1; rw [if_pos h0]
          rw [e] at hr2 ⊢
          rw [evl_place0 hr2, evl_leaf hl.fit _ (by omega) h0]
        · have e : place1 v at_ (nth l c) = placeB v (nth l c).f0 ((nth l c).f2.map (lk at_)) := by unfold place1; rw [if_neg h0]
          have hq : setA σ s oc (nth l c).f0 = σ (nth l c).f0 := by unfold setA; rw [if_neg (fun e => hs ⟨by omega, e⟩)]
          have hs' : σ (nth l c).f0 < (nth l c).f2.length := by rw [hl.len _ hmem (by omega)]; exact hσ _
          have hkk := t1.kids (l := (nth l c).f2) (fun x hx => by have := hdn x hx; omega)
          rw [e, evl_placeB hr (by omega) hkk (by simpa using hs'), evl_br hl.fit _ (by omega) (by omega), hq]
          obtain ⟨c0, c1⟩ := kid_lt hl.fit (i := c) (by omega) (by omega) (σ (nth l c).f0)
          have e2 : ((nth l c).f2.map (lk at_)).getD (σ (nth l c).f0) 0 = lk at_ ((nth l c).f2.getD (σ (nth l c).f0) 0) := by
            rw [List.getD_eq_getElem?_getD, List.getD_eq_getElem?_getD, List.getElem?_map, List.getElem?_eq_getElem hs']; rfl
          rw [e2]
          obtain ⟨d, hd⟩ : ∃ d : Nat, (nth l c).f2.getD (σ (nth l c).f0) 0 = d := ⟨_, (Int.toNat_of_nonneg c0).symm⟩
          rw [hd] at c1 ⊢
          exact ih d (by omega)
theorem fx_all {Q : Int → Prop} {s oc : Int} : ∀ (l u : List Nd) (at_ : List Int), AllF (fun x => Q x ∧ x ≠ s) u → AllF Q l → AllF (fun x => Q x ∧ x ≠ s) (fx s oc u at_ l).1
  | [], u, at_, h, _ => h
  | n :: l, u, at_, h, hl => by
    simp only [fx]
    refine fx_all l _ _ ?_ (fun m hm => hl m (List.mem_cons_of_mem _ hm))
    unfold fx1
    by_cases hs : 0 ≤ n.f0 ∧ n.f0 = s
    · rw [if_pos hs]; exact h
    · rw [if_neg hs]
      unfold place1
      by_cases h0 : n.f0 < 0
      · rw [if_pos h0]
        exact place0_all h (fun h0 => by simp only at h0; omega)
      · rw [if_neg h0]
        exact placeB_all h ⟨hl n List.mem_cons_self (by omega), fun e => hs ⟨by omega, e⟩⟩
/-- Restrict's result -/
theorem fxR_ok {sh : Int → Nat} {l : List Nd} (hl : GrS sh l) (h0 : 0 < l.length) {s : Int} {oc : Nat} (hoc : oc < sh s) :
    grB (fxR s oc l) = true ∧ GrS sh (fxR s oc l) ∧ Can (fxR s oc l) ∧ (fxR s oc l).length ≤ l.length ∧ (∀ Q : Int → Prop, AllF Q l → AllF (fun x => Q x ∧ x ≠ s) (fxR s oc l)) ∧ ∀ σ, Val sh σ → vl (fxR s oc l) σ = vl l (setA σ s oc) := by
  have ho : OcOk s oc l := fun n hn h1 h2 => ⟨by omega, by rw [hl.len n hn h1, h2]; omega⟩
  have ht := fx_tbl (site := s) (oc := oc) hl.fit ho tbl_nil l.length (Nat.le_refl _)
  have htb := fx_tb' hl ho
  have hv := fun σ (hσ : Val sh σ) => evl_fx hl ho hσ (fun _ _ _ _ => hoc) l.length (Nat.le_refl _) (l.length - 1) (by omega)
  have hlen := fx_len s oc l [] []
  rw [List.take_length] at ht hv
  have hr := ht.1.at_lt _ (lk_mem (at_ := (fx s oc [] [] l).2) (c := ((l.length - 1 : Nat) : Int)) (by omega) (by rw [hlen]; simp; omega))
  have hall : ∀ Q : Int → Prop, AllF Q l → AllF (fun x => Q x ∧ x ≠ s) (fx s oc [] [] l).1 := fun Q hQ => fx_all l [] [] (fun n hn => by cases hn) hQ
  unfold vl fxR
  obtain ⟨r, hr2⟩ : ∃ r : Nat, lk (fx s oc [] [] l).2 ((l.length - 1 : Nat) : Int) = r := ⟨_, (Int.toNat_of_nonneg hr.1).symm⟩
  rw [hr2] at hr hv ⊢
  have hr' : r < (fx s oc [] [] l).1.length := by omega
  have hc := htb.can hr'
  refine ⟨hc.1, (htb.expo hr').grs, hc.2, Nat.le_trans (expo_len ht.1.down hr') (by simpa using ht.2.1), fun Q hQ => expo_all ht.1.down hr' (hall Q hQ), fun σ hσ => ?_⟩
  rw [evl_expo htb.red htb.sh.len hσ hr']
  exact hv σ hσ
/-- several diagrams in one table keep their values -/
theorem evl_impKs {sh : Int → Nat} {s : Int} {ds : List S31} (hd : ∀ d ∈ ds, GrS sh d.f0 ∧ d.f0 ≠ [] ∧ AllF (fun x => s < x) d.f0) {σ : Int → Nat} (hσ : Val sh σ) : ∀ k, k ≤ ds.length → ∀ c : Nat, c < k → evl (impKs (ds.take k)).1 ((impKs (ds.take k)).2.getD c 0) σ = vl (ds.getD c ⟨[]⟩).f0 σ := by
  intro k
  induction k with
  | zero => intro _ c hc; omega
  | succ k ih =>
    intro hk c hc
    have ih := ih (by omega)
    have h1 := impKs_tb hd k (by omega)
    have h2 := impKs_tb hd (k + 1) (by omega)
    have hl2 := (impKs_tbl (ds := ds) (fun d hd' => ⟨(hd d hd').1.fit, (hd d hd').2.1⟩) k (by omega)).2.2
    obtain ⟨g1, g2, g3⟩ := hd ds[k] (List.getElem_mem _)
    have hgk : ds.getD k ⟨[]⟩ = ds[k] := by rw [List.getD_eq_getElem?_getD, List.getElem?_eq_getElem (by omega)]; rfl
    rw [List.take_succ_eq_append_getElem (by omega), impKs_snoc] at h2 ⊢
    obtain ⟨S, hS⟩ : ∃ S, S = impKs (ds.take k) := ⟨_, rfl⟩
    rw [← hS] at ih h1 h2 hl2 ⊢
    have hp := List.length_pos_iff.2 g2
    have hpre : S.1 <+: (impK S ds[k]).1 := by
      have := (imp_tbl g1.fit h1.1.tbl ds[k].f0.length (Nat.le_refl _)).2.2
      rwa [List.take_length] at this
    have e : (impK S ds[k]).2 = S.2 ++ [lk (imp S.1 [] ds[k].f0).2 ((ds[k].f0.length - 1 : Nat) : Int)] := rfl
    rw [e]
    rcases Nat.lt_or_ge c k with h3 | h3
    · have e3 : (S.2 ++ [lk (imp S.1 [] ds[k].f0).2 ((ds[k].f0.length - 1 : Nat) : Int)]).getD c 0 = S.2.getD c 0 := by
        rw [List.getD_eq_getElem?_getD, List.getD_eq_getElem?_getD, List.getElem?_append_left (by omega)]
      have hm := (h1.2 _ (getD_mem (l := S.2) (j := c) (by omega))).1
      rw [e3, evl_preI h1.1.red.fit h2.1.red.fit hpre σ hm.1 hm.2]
      exact ih c h3
    · obtain rfl : c = k := by omega
      have e3 : (S.2 ++ [lk (imp S.1 [] ds[c].f0).2 ((ds[c].f0.length - 1 : Nat) : Int)]).getD c 0 = lk (imp S.1 [] ds[c].f0).2 ((ds[c].f0.length - 1 : Nat) : Int) := by
        rw [List.getD_eq_getElem?_getD, List.getElem?_append_right (by omega), hl2]; simp
      rw [e3, hgk]
      have := evl_imp g1.fit g1.len h1.1.red hσ ds[c].f0.length (Nat.le_refl _) (ds[c].f0.length - 1) (by omega)
      rw [List.take_length] at this
      exact this
/-- Branch's values -/
theorem vl_jn {sh : Int → Nat} {s : Int} {ds : List S31} (hd : ∀ d ∈ ds, GrS sh d.f0 ∧ d.f0 ≠ [] ∧ AllF (fun x => s < x) d.f0) (hs : 0 ≤ s ∧ s < 64) (hne : ds ≠ []) (hl : ds.length = sh s) (hl2 : ds.length ≤ 16) {σ : Int → Nat} (hσ : Val sh σ) :
    vl (jn s ds) σ = vl (ds.getD (σ s) ⟨[]⟩).f0 σ := by
  obtain ⟨h1, h2, -⟩ := jn_tb hd hs hne hl hl2
  have h3 := impKs_tb hd ds.length (Nat.le_refl _)
  have h4 := impKs_tbl (ds := ds) (fun d hd' => ⟨(hd d hd').1.fit, (hd d hd').2.1⟩) ds.length (Nat.le_refl _)
  have h5 := evl_impKs hd hσ ds.length (Nat.le_refl _) (σ s) (by rw [hl]; exact hσ s)
  rw [List.take_length] at h3 h4 h5
  unfold vl jn
  obtain ⟨r, hr⟩ : ∃ r : Nat, (jnT s ds).2 = r := ⟨_, (Int.toNat_of_nonneg h2.1).symm⟩
  have h6 := evl_placeB (σ := σ) h3.1.red hs.1 (fun k hk => (h3.2 k hk).1) (by rw [h4.2.2, hl]; exact hσ s)
  have e : placeB (impKs ds).1 s (impKs ds).2 = jnT s ds := rfl
  rw [e] at h6
  rw [hr] at h2 h6 ⊢
  rw [evl_expo h1.red h1.sh.len hσ (by omega), h6, h5]
  rfl
/-- an assignment that is given as a list -/
def sg (o : List Int) : Int → Nat := fun s => (rd o s).toNat
theorem evK_vl {sh : Int → Nat} {l : List Nd} (hl : GrS sh l) (o : List Int) (hr : ∀ n ∈ l, 0 ≤ n.f0 → n.f0 < (o.length : Int) ∧ 0 ≤ rd o n.f0 ∧ rd o n.f0 < sh n.f0) : ∀ (i : Nat), i < l.length → ∀ d, i < d → evK l o d (i : Int) = (evl l i (sg o), 0) := by
  intro i
  induction i using Nat.strongRecOn with
  | _ i ih =>
    intro hi d hd
    obtain ⟨d, rfl⟩ : ∃ d', d = d' + 1 := ⟨d - 1, by omega⟩
    simp only [evK]
    by_cases h0 : (nth l (i : Int)).f0 < 0
    · rw [if_pos h0, evl_leaf hl.fit _ hi h0]
    · obtain ⟨h1, h2, h3⟩ := hr _ (nth_memN hi) (by omega)
      have h4 := hl.len _ (nth_memN hi) (by omega)
      rw [if_neg h0, if_neg (by omega), evl_br hl.fit _ hi (by omega)]
      obtain ⟨c0, c1⟩ := kid_lt hl.fit hi (by omega) (sg o (nth l i).f0)
      have e : rd (nth l (i : Int)).f2 (rd o (nth l (i : Int)).f0) = (nth l (i : Int)).f2.getD (sg o (nth l (i : Int)).f0) 0 := rfl
      rw [e]
      obtain ⟨c, hc⟩ : ∃ c : Nat, (nth l i).f2.getD (sg o (nth l i).f0) 0 = c := ⟨_, (Int.toNat_of_nonneg c0).symm⟩
      rw [hc] at c1 ⊢
      exact ih c (by omega) (by omega) d (by omega)
theorem evR_vl {sh : Int → Nat} {l : List Nd} (hl : GrS sh l) (hv : valE l = 0) (o : List Int) (hr : ∀ n ∈ l, 0 ≤ n.f0 → n.f0 < (o.length : Int) ∧ 0 ≤ rd o n.f0 ∧ rd o n.f0 < sh n.f0) : evR l o = (vl l (sg o), 0) := by
  have h0 := gr_pos (val_ok hv).1
  unfold evR vl
  rw [if_pos hv]
  exact evK_vl hl o hr _ (by omega) _ (by omega)
end Go.Proofs.YtopbjginpmdebaaDoor.K
namespace Go.Proofs.YtopbjginpmdebaaDoor.K
open Go.RowKit Go.Proofs.YtopbjginpmdebaaDoorW.PrintWords Go.Proofs.YtopbjginpmdebaaDoorW.PrintLast Go.Proofs.YtopbjginpmdebaaDoorW.PrintMore
attribute [local go_sem] max2_int min2_int max_two min_two max_three min_three max_four min_four   -- for this text's walks alone
set_option linter.unusedVariables false
set_option linter.unusedSimpArgs false

/-! ### exactpplref19_Fit: function 62 -/
def exactpplref19_Fit.f (l0_0 : List (S60)) : Option ((List (S60)) × Int) := if (l0_0.length : Int) > 20000 then (some (([] : List (S60)), 9)) else (some (l0_0, 0))
set_option maxHeartbeats 8000000 in
set_option maxRecDepth 100000 in
theorem exactpplref19_Fit.calls (P0_0_ : Nat → Prop) (A0_0 : Option Addr) (c0_0 : Nat) (l0_0 : List (S60)) (r1 : List (S60)) (r2 : Int) (w : World) (hs0_0 : Kd.V k60 60 w w.heap.size (fun k_ => P0_0_ k_) (.slice A0_0 l0_0.length c0_0) l0_0) (h : exactpplref19_Fit.f l0_0 = some (r1, r2)) :
    Calls Tryd.prog 62 #[.agg #[.slice A0_0 l0_0.length c0_0]] w fun e w' => ∃ v0_ : Value, e = .returned (.tuple #[.agg #[v0_], .int .i64 r2]) ∧ Kd.V k60 60 w' w.heap.size (fun k_ => (P0_0_ k_ ∨ w.heap.size ≤ k_)) v0_ r1 ∧ Below w.heap.size w w' := by
  have hu31 := Tryd.underlying31
  have HO0_0 := Aside0.mk (show Kd.V k60 60 w w.heap.size (fun k_ => (P0_0_ k_ ∨ w.heap.size ≤ k_)) (.slice A0_0 l0_0.length c0_0) l0_0 from Kd.V_mono hs0_0 (fun k_ hk => .inl hk))
  have HB := Aside0.mk (Below.refl w.heap.size w)
  have H : (if (l0_0.length : Int) > 20000 then (some (([] : List (S60)), 9)) else (some (l0_0, 0))) = some (r1, r2) := h
  clear h
  by_cases c2 : (l0_0.length : Int) > 20000
  · rw [if_pos c2] at H
    have c2b0 : decide (20000 < (l0_0.length : Int)) = true := decide_eq_true c2
    have c2b1 : decide (20000 < l0_0.length) = true := decide_eq_true (by omega)
    clear c2
    simp only [Option.some.injEq, Prod.mk.injEq] at H
    obtain ⟨rfl, rfl⟩ := H
    go_enter Tryd.func62, Tryd.ntmps62
    go_wp2_with (first | ((with_reducible refine gate_dst (N := 1) rfl ?_); refine box_event ?hg (N := 1) ?hd (cs := #[.slice A0_0 l0_0.length c0_0]) (t := 31) ?hr ?_; (case hd => rfl); (case hg => rfl); (case hr => first | (go_simp; done) | (go_simp; rfl)); intro gb142 hg w3 hbox hb; have n0_ := Aside0.mk (Kd.V_below (Kd.V_elderB (by (with_reducible repeat (first | apply Kd.V_alloc | apply Kd.V_drewN | apply Kd.V_drew)); exact HO0_0.out) gb142 (Nat.le_of_eq hg.symm)) hb); have n1_ := Aside0.mk (below_step (by repeat (first | (with_reducible first | exact HB.out | apply below_alloc | apply pw_below_drewN | apply below_drew1) | exact HB.out)) hb); have n2_ := Aside0.mk (hbox); have n3_ := Aside0.mk ((by rw [hg]; exact (below_size (by repeat (first | (with_reducible first | exact HB.out | apply below_alloc | apply pw_below_drewN | apply below_drew1) | exact HB.out))) : w.heap.size ≤ gb142)); have n4_ := Aside0.mk ((by rw [hg]; exact (below_size (by repeat (first | (with_reducible first | exact HB.out | apply below_alloc | apply pw_below_drewN | apply below_drew1) | exact HB.out))) : w.heap.size ≤ gb142)); clear HO0_0; clear HB; have HO0_0 := n0_; have HB := n1_; have BK142 := n2_; have GW142 := n3_; have GE142 := n4_; clear n0_ n1_ n2_ n3_ n4_; clear hb hbox hg) | ((with_reducible refine gate_dst (N := 2) rfl ?_); refine box_event ?hg (N := 2) ?hd (cs := #[.slice none 0 0]) (t := 31) ?hr ?_; (case hd => rfl); (case hg => rfl); (case hr => first | (go_simp; done) | (go_simp; rfl)); intro gb143 hg w4 hbox hb; have n0_ := Aside0.mk (Kd.V_below (Kd.V_elderB (by (with_reducible repeat (first | apply Kd.V_alloc | apply Kd.V_drewN | apply Kd.V_drew)); exact HO0_0.out) gb143 (Nat.le_of_eq hg.symm)) hb); have n1_ := Aside0.mk (blk_below (g := gb142) (o := .cells #[.slice A0_0 l0_0.length c0_0] 31 (0, 0)) (by (with_reducible repeat (first | refine blk_drewN ?_ _ | refine blk_drew ?_ | refine blk_alloc ?_ _)); exact BK142.out) hb); have n2_ := Aside0.mk (below_step (by repeat (first | (with_reducible first | exact HB.out | apply below_alloc | apply pw_below_drewN | apply below_drew1 | refine below_set ?_ GE142.out) | exact HB.out)) hb); have n3_ := Aside0.mk (hbox); have n4_ := Aside0.mk ((by rw [hg]; exact (below_size (by repeat (first | (with_reducible first | exact HB.out | apply below_alloc | apply pw_below_drewN | apply below_drew1 | refine below_set ?_ GE142.out) | exact HB.out))) : w.heap.size ≤ gb143)); have n5_ := Aside0.mk ((by rw [hg]; exact (below_size (by repeat (first | (with_reducible first | exact HB.out | apply below_alloc | apply pw_below_drewN | apply below_drew1 | refine below_set ?_ GE142.out) | exact HB.out))) : w.heap.size ≤ gb143)); have n6_ := Aside0.mk ((by rw [hg]; exact Nat.ne_of_lt (blk_lt (g := gb142) (o := .cells #[.slice A0_0 l0_0.length c0_0] 31 (0, 0)) (by (with_reducible repeat (first | refine blk_drewN ?_ _ | refine blk_drew ?_ | refine blk_alloc ?_ _)); exact BK142.out)) : gb142 ≠ gb143)); have n7_ := Aside0.mk ((by rw [hg]; exact Nat.ne_of_gt (blk_lt (g := gb142) (o := .cells #[.slice A0_0 l0_0.length c0_0] 31 (0, 0)) (by (with_reducible repeat (first | refine blk_drewN ?_ _ | refine blk_drew ?_ | refine blk_alloc ?_ _)); exact BK142.out)) : gb143 ≠ gb142)); clear HO0_0; clear BK142; clear HB; have HO0_0 := n0_; have BK142 := n1_; have HB := n2_; have BK143 := n3_; have GW143 := n4_; have GE143 := n5_; have NB142_143 := n6_; have NB143_142 := n7_; clear n0_ n1_ n2_ n3_ n4_ n5_ n6_ n7_; clear hb hbox hg; have hnb5 := NB142_143.out; have hnc5 := NB143_142.out; have hcz6_0 : w4.cell? ⟨gb142, 0, none⟩ = some (.slice A0_0 l0_0.length c0_0) := (blk_cell BK142.out 0).trans rfl; have hfz6_0 := blk_frozen BK142.out 0; have hcz7_0 : w4.cell? ⟨gb143, 0, none⟩ = some (.slice none 0 0) := (blk_cell BK143.out 0).trans rfl; have hfz7_0 := blk_frozen BK143.out 0))
    refine bodyPost_ret (results_ct rfl _ _ gb143 31 #[.slice none 0 0] (0, 0) _ rfl (by (with_reducible repeat (first | refine blk_drewN ?_ _ | refine blk_drew ?_ | refine blk_alloc ?_ _)); refine blk_put (cs := #[.slice none 0 0]) ?_ 0 _ rfl; (with_reducible repeat (first | refine blk_drewN ?_ _ | refine blk_drew ?_ | refine blk_alloc ?_ _)); exact BK143.out) Tryd.underlying31 rfl (by kernel_rfl)) rfl ?_
    exact ⟨_, by first | rfl | (simp [errW_none, errW_some] <;> rfl) | (simp [*, errW_none, errW_some] <;> rfl), Kd.V_nil _ _ _ _ _, by repeat (first | (with_reducible first | exact HB.out | apply below_alloc | apply pw_below_drewN | apply below_drew1 | refine below_set ?_ GE142.out | refine below_set ?_ GE143.out) | exact HB.out)⟩
  · rw [if_neg c2] at H
    have c2b0 : decide (20000 < (l0_0.length : Int)) = false := decide_eq_false c2
    have c2b1 : decide (20000 < l0_0.length) = false := decide_eq_false (by omega)
    clear c2
    simp only [Option.some.injEq, Prod.mk.injEq] at H
    obtain ⟨rfl, rfl⟩ := H
    go_enter Tryd.func62, Tryd.ntmps62
    go_wp2_with (first | ((with_reducible refine gate_dst (N := 1) rfl ?_); refine box_event ?hg (N := 1) ?hd (cs := #[.slice A0_0 l0_0.length c0_0]) (t := 31) ?hr ?_; (case hd => rfl); (case hg => rfl); (case hr => first | (go_simp; done) | (go_simp; rfl)); intro gb142 hg w8 hbox hb; have n0_ := Aside0.mk (Kd.V_below (Kd.V_elderB (by (with_reducible repeat (first | apply Kd.V_alloc | apply Kd.V_drewN | apply Kd.V_drew)); exact HO0_0.out) gb142 (Nat.le_of_eq hg.symm)) hb); have n1_ := Aside0.mk (below_step (by repeat (first | (with_reducible first | exact HB.out | apply below_alloc | apply pw_below_drewN | apply below_drew1) | exact HB.out)) hb); have n2_ := Aside0.mk (hbox); have n3_ := Aside0.mk ((by rw [hg]; exact (below_size (by repeat (first | (with_reducible first | exact HB.out | apply below_alloc | apply pw_below_drewN | apply below_drew1) | exact HB.out))) : w.heap.size ≤ gb142)); have n4_ := Aside0.mk ((by rw [hg]; exact (below_size (by repeat (first | (with_reducible first | exact HB.out | apply below_alloc | apply pw_below_drewN | apply below_drew1) | exact HB.out))) : w.heap.size ≤ gb142)); clear HO0_0; clear HB; have HO0_0 := n0_; have HB := n1_; have BK142 := n2_; have GW142 := n3_; have GE142 := n4_; clear n0_ n1_ n2_ n3_ n4_; clear hb hbox hg) | ((with_reducible refine gate_dst (N := 2) rfl ?_); refine box_event ?hg (N := 2) ?hd (cs := #[.slice none 0 0]) (t := 31) ?hr ?_; (case hd => rfl); (case hg => rfl); (case hr => first | (go_simp; done) | (go_simp; rfl)); intro gb143 hg w9 hbox hb; have n0_ := Aside0.mk (Kd.V_below (Kd.V_elderB (by (with_reducible repeat (first | apply Kd.V_alloc | apply Kd.V_drewN | apply Kd.V_drew)); exact HO0_0.out) gb143 (Nat.le_of_eq hg.symm)) hb); have n1_ := Aside0.mk (blk_below (g := gb142) (o := .cells #[.slice A0_0 l0_0.length c0_0] 31 (0, 0)) (by (with_reducible repeat (first | refine blk_drewN ?_ _ | refine blk_drew ?_ | refine blk_alloc ?_ _)); exact BK142.out) hb); have n2_ := Aside0.mk (below_step (by repeat (first | (with_reducible first | exact HB.out | apply below_alloc | apply pw_below_drewN | apply below_drew1 | refine below_set ?_ GE142.out) | exact HB.out)) hb); have n3_ := Aside0.mk (hbox); have n4_ := Aside0.mk ((by rw [hg]; exact (below_size (by repeat (first | (with_reducible first | exact HB.out | apply below_alloc | apply pw_below_drewN | apply below_drew1 | refine below_set ?_ GE142.out) | exact HB.out))) : w.heap.size ≤ gb143)); have n5_ := Aside0.mk ((by rw [hg]; exact (below_size (by repeat (first | (with_reducible first | exact HB.out | apply below_alloc | apply pw_below_drewN | apply below_drew1 | refine below_set ?_ GE142.out) | exact HB.out))) : w.heap.size ≤ gb143)); have n6_ := Aside0.mk ((by rw [hg]; exact Nat.ne_of_lt (blk_lt (g := gb142) (o := .cells #[.slice A0_0 l0_0.length c0_0] 31 (0, 0)) (by (with_reducible repeat (first | refine blk_drewN ?_ _ | refine blk_drew ?_ | refine blk_alloc ?_ _)); exact BK142.out)) : gb142 ≠ gb143)); have n7_ := Aside0.mk ((by rw [hg]; exact Nat.ne_of_gt (blk_lt (g := gb142) (o := .cells #[.slice A0_0 l0_0.length c0_0] 31 (0, 0)) (by (with_reducible repeat (first | refine blk_drewN ?_ _ | refine blk_drew ?_ | refine blk_alloc ?_ _)); exact BK142.out)) : gb143 ≠ gb142)); clear HO0_0; clear BK142; clear HB; have HO0_0 := n0_; have BK142 := n1_; have HB := n2_; have BK143 := n3_; have GW143 := n4_; have GE143 := n5_; have NB142_143 := n6_; have NB143_142 := n7_; clear n0_ n1_ n2_ n3_ n4_ n5_ n6_ n7_; clear hb hbox hg; have hnb10 := NB142_143.out; have hnc10 := NB143_142.out; have hcz11_0 : w9.cell? ⟨gb142, 0, none⟩ = some (.slice A0_0 l0_0.length c0_0) := (blk_cell BK142.out 0).trans rfl; have hfz11_0 := blk_frozen BK142.out 0; have hcz12_0 : w9.cell? ⟨gb143, 0, none⟩ = some (.slice none 0 0) := (blk_cell BK143.out 0).trans rfl; have hfz12_0 := blk_frozen BK143.out 0))
    refine bodyPost_ret (results_ct rfl _ _ gb143 31 #[.slice A0_0 l0_0.length c0_0] (0, 0) _ rfl (by (with_reducible repeat (first | refine blk_drewN ?_ _ | refine blk_drew ?_ | refine blk_alloc ?_ _)); refine blk_put (cs := #[.slice none 0 0]) ?_ 0 _ rfl; (with_reducible repeat (first | refine blk_drewN ?_ _ | refine blk_drew ?_ | refine blk_alloc ?_ _)); exact BK143.out) Tryd.underlying31 rfl (by kernel_rfl)) rfl ?_
    exact ⟨_, by first | rfl | (simp [errW_none, errW_some] <;> rfl) | (simp [*, errW_none, errW_some] <;> rfl), by (with_reducible repeat (first | apply Kd.V_alloc | apply Kd.V_drewN | apply Kd.V_drew)); exact Kd.V_mono (Kd.V_far (p := ⟨gb143, 0, none⟩) (Kd.V_mono HO0_0.out (fun k_ hk => (⟨hk, by first | exact hk.2 | exact hk.1 | exact hk.2 | exact hk.1.1 | exact hk.1.2⟩ : _ ∧ k_ ≠ gb143))) (fun _ hk => hk.2) (.slice A0_0 l0_0.length c0_0)) (fun _ hk => hk.1.1.1), by repeat (first | (with_reducible first | exact HB.out | apply below_alloc | apply pw_below_drewN | apply below_drew1 | refine below_set ?_ GE142.out | refine below_set ?_ GE143.out) | exact HB.out)⟩

end Go.Proofs.YtopbjginpmdebaaDoor.K
namespace Go.Proofs.YtopbjginpmdebaaDoor.K
open Go.RowKit Go.Proofs.YtopbjginpmdebaaDoorW.PrintWords Go.Proofs.YtopbjginpmdebaaDoorW.PrintLast Go.Proofs.YtopbjginpmdebaaDoorW.PrintMore
attribute [local go_sem] max2_int min2_int max_two min_two max_three min_three max_four min_four   -- for this text's walks alone
set_option linter.unusedVariables false
set_option linter.unusedSimpArgs false

/-! ### exactpplref19_Reduce: function 43 -/
def exactpplref19_Reduce.f (k : Nat) (l0 : List (S60)) : Option ((List (S60)) × Int) := (exactpplref19_Graph.f k l0).bind fun t198 => (if t198 = true then ((exactpplref19_Canon.f l0).bind fun t199 => ((exactpplref19_Fit.f t199).bind fun bt202 => (some (bt202.1, bt202.2)))) else (some (([] : List (S60)), 2)))
theorem exactpplref19_Reduce.mono : ∀ a0 k, LeO (exactpplref19_Reduce.f k a0) (exactpplref19_Reduce.f (k + 1) a0) := by
 intro a0 k
 unfold exactpplref19_Reduce.f
 repeat' first
   | (with_reducible exact exactpplref19_Graph.mono _ _)
   | (with_reducible exact LeO.refl _)
   | (with_reducible exact LeO.none _)
   | (with_reducible refine LeO.ite ?_ ?_)
   | (with_reducible refine LeO.bind ?_ (fun _ => ?_))
   | exact exactpplref19_Graph.mono _ _
   | exact LeO.none _
   | refine LeO.ite ?_ ?_
   | refine LeO.bind ?_ (fun _ => ?_)
set_option maxHeartbeats 8000000 in
set_option maxRecDepth 100000 in
theorem exactpplref19_Reduce.calls (k : Nat) (A0 : Option Addr) (c0 : Nat) (l0 : List (S60)) (r1 : List (S60)) (r2 : Int) (w : World) (hr0 : Kd.C k60 w A0 l0.length l0) (hc0 : l0.length ≤ c0) (h : exactpplref19_Reduce.f k l0 = some (r1, r2)) :
  Calls Tryd.prog 43 #[.slice A0 l0.length c0] w fun e w' => ∃ v0_ : Value, e = .returned (.tuple #[.agg #[v0_], .int .i64 r2]) ∧ Kd.V k60 60 w' w.heap.size (fun k_ => (w.heap.size ≤ k_)) v0_ r1 ∧ Below w.heap.size w w' := by
 have hu31 := Tryd.underlying31
 have HR0 := Aside0.mk hr0
 have HC0 := Aside0.mk hc0
 clear hr0 hc0
 have HB := Aside0.mk (Below.refl w.heap.size w)
 have H : ((exactpplref19_Graph.f k l0).bind fun t198 => (if t198 = true then ((exactpplref19_Canon.f l0).bind fun t199 => ((exactpplref19_Fit.f t199).bind fun bt202 => (some (bt202.1, bt202.2)))) else (some (([] : List (S60)), 2)))) = some (r1, r2) := h
 clear h
 replace H := Option.bind_eq_some_iff.mp H
 obtain ⟨t198, A20, H⟩ := H
 replace H : (if t198 = true then ((exactpplref19_Canon.f l0).bind fun t199 => ((exactpplref19_Fit.f t199).bind fun bt202 => (some (bt202.1, bt202.2)))) else (some (([] : List (S60)), 2))) = some (r1, r2) := H
 have A2 := Aside0.mk A20
 clear A20
 by_cases c3 : t198 = true
 ·subst c3
  have H1 : ((exactpplref19_Canon.f l0).bind fun t199 => ((exactpplref19_Fit.f t199).bind fun bt202 => (some (bt202.1, bt202.2)))) = some (r1, r2) := by rw [if_pos rfl] at H; exact H
  clear H
  have H := H1
  clear H1
  replace H := Option.bind_eq_some_iff.mp H
  obtain ⟨t199, A40, H⟩ := H
  replace H : ((exactpplref19_Fit.f t199).bind fun bt202 => (some (bt202.1, bt202.2))) = some (r1, r2) := H
  have A4 := Aside0.mk A40
  clear A40
  replace H := Option.bind_eq_some_iff.mp H
  obtain ⟨⟨t202, t205⟩, A50, H⟩ := H
  replace H : (some (t202, t205)) = some (r1, r2) := H
  have A5 := Aside0.mk A50
  clear A50
  simp only [Option.some.injEq, Prod.mk.injEq] at H
  obtain ⟨rfl, rfl⟩ := H
  go_enter Tryd.func43, Tryd.ntmps43
  go_wp2_with (first | ((with_reducible refine gate_dst (N := 2) rfl ?_); refine box_event ?hg (N := 2) ?hd (cs := #[.slice none 0 0]) (t := 31) ?hr ?_; (case hd => rfl); (case hg => rfl); (case hr => first | (go_simp; done) | (go_simp; rfl)); intro gb197 hg w6 hbox hb; have BK197 := Aside0.mk (hbox); have GW197 : Aside0 (w.heap.size ≤ gb197) := gw_ hg (below_size bl_); have GE197 := GW197; replace HB := Aside0.mk (below_step bl_ hb); clear hb hbox hg) | ((with_reducible refine gate_callee (f := 67) rfl ?_); refine goesL_ (some 5) rfl rfl Tryd.func67 (by kernel_rfl) rfl #[.slice A0 l0.length c0] rfl (by (try simp only [List.map_toArray, List.map_cons, List.map_nil]); first | done | rfl | (simp only [List.length_drop, List.length_take]; rfl)) ?_; (with_reducible refine (exactpplref19_Graph.calls k _ _ l0 true _ ?side1 ?side2 A2.out).mono ?_); (case side1 => repeat (first | exact (Kd.C_below HR0.out HB.out) | (with_reducible refine Kd.C_alloc ?_ _) | (with_reducible refine Kd.C_drewN ?_ _) | (with_reducible refine Kd.C_drew ?_))); (case side2 => exact HC0.out); rintro e w7 ⟨rfl, hb⟩; refine ⟨_, rfl, ?_⟩; replace BK197 := Aside0.mk (blk_below (g := gb197) (o := .cells #[.slice none 0 0] 31 (0, 0)) bk_ hb); replace HB := Aside0.mk (below_step bl_ hb); (try clear hb); (try clear hb2); (try clear hk); (try clear hi)) | ((with_reducible refine gate_callee (f := 68) rfl ?_); refine goesL_ (some 9) rfl rfl Tryd.func68 (by kernel_rfl) rfl #[.slice A0 l0.length c0] rfl (by (try simp only [List.map_toArray, List.map_cons, List.map_nil]); first | done | rfl | (simp only [List.length_drop, List.length_take]; rfl)) ?_; (with_reducible refine (exactpplref19_Canon.calls _ _ l0 t199 _ ?side1 ?side2 A4.out).mono ?_); (case side1 => repeat (first | exact (Kd.C_below HR0.out HB.out) | (with_reducible refine Kd.C_alloc ?_ _) | (with_reducible refine Kd.C_drewN ?_ _) | (with_reducible refine Kd.C_drew ?_))); (case side2 => exact HC0.out); rintro e w8 ⟨v200, rfl, ho0, hb⟩; refine ⟨_, rfl, ?_⟩; have HO201 := Aside0.mk (Kd.V_lower (Kd.V_mono (ok' := fun k_ => (w.heap.size ≤ k_) ∧ k_ ≠ gb197) ho0 (fun k_ hk_ => ⟨(Nat.le_trans (below_size bl_) hk_), (Kd.freshB (g := gb197) (o := .cells #[.slice none 0 0] 31 (0, 0)) bk_ k_ hk_)⟩)) (below_size bl_)); replace BK197 := Aside0.mk (blk_below (g := gb197) (o := .cells #[.slice none 0 0] 31 (0, 0)) bk_ hb); replace HB := Aside0.mk (below_step bl_ hb); (try clear hb); (try clear hb2); (try clear hk); (try clear hi); (try clear ho0); obtain ⟨Ao9, co9, eo9⟩ := Kd.V_slice HO201.out; subst eo9) | ((with_reducible refine gate_callee (f := 62) rfl ?_); refine goesL_ (some 10) rfl rfl Tryd.func62 (by kernel_rfl) rfl #[.agg #[.slice Ao9 t199.length co9]] rfl (by (try simp only [List.map_toArray, List.map_cons, List.map_nil]); first | done | rfl | (simp only [List.length_drop, List.length_take]; rfl)) ?_; (with_reducible refine (exactpplref19_Fit.calls (fun k_ => ((w.heap.size ≤ k_) ∧ k_ ≠ gb197)) _ _ t199 t202 t205 _ ?side1 A5.out).mono ?_); (case side1 => exact HO201.out); rintro e w10 ⟨v203, rfl, ho0, hb⟩; refine ⟨_, rfl, ?_⟩; have HO204 := Aside0.mk (Kd.V_lower (Kd.V_mono (ok' := fun k_ => (w.heap.size ≤ k_) ∧ k_ ≠ gb197) ho0 (fun k_ hk_ => ⟨Or.elim hk_ (fun hs_ => hs_.1) (fun hn_ => (Nat.le_trans (below_size bl_) hn_)), Or.elim hk_ (fun hs_ => hs_.2) (fun hn_ => (Kd.freshB (g := gb197) (o := .cells #[.slice none 0 0] 31 (0, 0)) bk_ k_ hn_))⟩)) (below_size bl_)); replace HO201 := Aside0.mk (Kd.V_below (pV_ HO201.out) hb); replace BK197 := Aside0.mk (blk_below (g := gb197) (o := .cells #[.slice none 0 0] 31 (0, 0)) bk_ hb); replace HB := Aside0.mk (below_step bl_ hb); (try clear hb); (try clear hb2); (try clear hk); (try clear hi); (try clear ho0); obtain ⟨Ao11, co11, eo11⟩ := Kd.V_slice HO204.out; subst eo11; obtain ⟨hcz12_0, hfz12_0⟩ := cf1_ BK197.out))
  refine bodyPost_ret (results_ct rfl _ _ gb197 31 #[.slice Ao11 t202.length co11] (0, 0) _ rfl (by (with_reducible repeat (first | refine blk_drewN ?_ _ | refine blk_drew ?_ | refine blk_alloc ?_ _)); refine blk_put (cs := #[.slice none 0 0]) ?_ 0 _ rfl; (with_reducible repeat (first | refine blk_drewN ?_ _ | refine blk_drew ?_ | refine blk_alloc ?_ _)); exact BK197.out) Tryd.underlying31 rfl (by kernel_rfl)) rfl ?_
  exact ⟨_, re_, by (with_reducible repeat (first | apply Kd.V_alloc | apply Kd.V_drewN | apply Kd.V_drew)); exact Kd.V_mono (Kd.V_far (p := ⟨gb197, 0, none⟩) (Kd.V_mono HO204.out (fun k_ hk => (⟨hk, by first | exact hk.2 | exact hk.1 | exact hk.2 | exact hk.1.1 | exact hk.1.2⟩ : _ ∧ k_ ≠ gb197))) (fun _ hk => hk.2) (.slice Ao11 t202.length co11)) (fun _ hk => hk.1.1), bl_⟩
 ·replace c3 := Bool.eq_false_iff.mpr c3
  subst c3
  have H1 : (some (([] : List (S60)), 2)) = some (r1, r2) := by rw [if_neg (show ¬ (false = true) by decide)] at H; exact H
  clear H
  have H := H1
  clear H1
  simp only [Option.some.injEq, Prod.mk.injEq] at H
  obtain ⟨rfl, rfl⟩ := H
  go_enter Tryd.func43, Tryd.ntmps43
  go_wp2_with (first | ((with_reducible refine gate_dst (N := 2) rfl ?_); refine box_event ?hg (N := 2) ?hd (cs := #[.slice none 0 0]) (t := 31) ?hr ?_; (case hd => rfl); (case hg => rfl); (case hr => first | (go_simp; done) | (go_simp; rfl)); intro gb197 hg w13 hbox hb; have BK197 := Aside0.mk (hbox); have GW197 : Aside0 (w.heap.size ≤ gb197) := gw_ hg (below_size bl_); have GE197 := GW197; replace HB := Aside0.mk (below_step bl_ hb); clear hb hbox hg) | ((with_reducible refine gate_callee (f := 67) rfl ?_); refine goesL_ (some 5) rfl rfl Tryd.func67 (by kernel_rfl) rfl #[.slice A0 l0.length c0] rfl (by (try simp only [List.map_toArray, List.map_cons, List.map_nil]); first | done | rfl | (simp only [List.length_drop, List.length_take]; rfl)) ?_; (with_reducible refine (exactpplref19_Graph.calls k _ _ l0 false _ ?side1 ?side2 A2.out).mono ?_); (case side1 => repeat (first | exact (Kd.C_below HR0.out HB.out) | (with_reducible refine Kd.C_alloc ?_ _) | (with_reducible refine Kd.C_drewN ?_ _) | (with_reducible refine Kd.C_drew ?_))); (case side2 => exact HC0.out); rintro e w14 ⟨rfl, hb⟩; refine ⟨_, rfl, ?_⟩; replace BK197 := Aside0.mk (blk_below (g := gb197) (o := .cells #[.slice none 0 0] 31 (0, 0)) bk_ hb); replace HB := Aside0.mk (below_step bl_ hb); (try clear hb); (try clear hb2); (try clear hk); (try clear hi); obtain ⟨hcz15_0, hfz15_0⟩ := cf1_ BK197.out))
  refine bodyPost_ret (results_ct rfl _ _ gb197 31 #[.slice none 0 0] (0, 0) _ rfl (by (with_reducible repeat (first | refine blk_drewN ?_ _ | refine blk_drew ?_ | refine blk_alloc ?_ _)); refine blk_put (cs := #[.slice none 0 0]) ?_ 0 _ rfl; (with_reducible repeat (first | refine blk_drewN ?_ _ | refine blk_drew ?_ | refine blk_alloc ?_ _)); exact BK197.out) Tryd.underlying31 rfl (by kernel_rfl)) rfl ?_
  exact ⟨_, re_, Kd.V_nil _ _ _ _ _, bl_⟩

end Go.Proofs.YtopbjginpmdebaaDoor.K
namespace Go.Proofs.YtopbjginpmdebaaDoor.K
open Go.RowKit Go.Proofs.YtopbjginpmdebaaDoorW.PrintWords Go.Proofs.YtopbjginpmdebaaDoorW.PrintLast Go.Proofs.YtopbjginpmdebaaDoorW.PrintMore
attribute [local go_sem] max2_int min2_int max_two min_two max_three min_three max_four min_four   -- for this text's walks alone
set_option linter.unusedVariables false
set_option linter.unusedSimpArgs false

/-! ### exactpplref19_Validate: function 44 -/
def exactpplref19_Validate.f (k : Nat) (l0_0 : List (S60)) : Option (Int) := (exactpplref19_Reduce.f k l0_0).bind fun bt207 => (if bt207.2 = 0 then ((exactpplref19_Same.f k bt207.1 l0_0).bind fun t212 => (if t212 = true then (some 0) else (some 2))) else (some bt207.2))
theorem exactpplref19_Validate.mono : ∀ a0 k, LeO (exactpplref19_Validate.f k a0) (exactpplref19_Validate.f (k + 1) a0) := by
 intro a0 k
 unfold exactpplref19_Validate.f
 repeat' first
   | (with_reducible exact exactpplref19_Reduce.mono _ _)
   | (with_reducible exact exactpplref19_Same.mono _ _ _)
   | (with_reducible exact LeO.refl _)
   | (with_reducible exact LeO.none _)
   | (with_reducible refine LeO.ite ?_ ?_)
   | (with_reducible refine LeO.bind ?_ (fun _ => ?_))
   | exact exactpplref19_Reduce.mono _ _
   | exact exactpplref19_Same.mono _ _ _
   | exact LeO.none _
   | refine LeO.ite ?_ ?_
   | refine LeO.bind ?_ (fun _ => ?_)
set_option maxHeartbeats 8000000 in
set_option maxRecDepth 100000 in
theorem exactpplref19_Validate.calls (k : Nat) (A0_0 : Option Addr) (c0_0 : Nat) (l0_0 : List (S60)) (r : Int) (w : World) (hr0_0 : Kd.C k60 w A0_0 l0_0.length l0_0) (hc0_0 : l0_0.length ≤ c0_0) (h : exactpplref19_Validate.f k l0_0 = some r) :
  Calls Tryd.prog 44 #[.agg #[.slice A0_0 l0_0.length c0_0]] w fun e w' => e = .returned (.int .i64 r) ∧ Below w.heap.size w w' := by
 have hu31 := Tryd.underlying31
 have HR0_0 := Aside0.mk hr0_0
 have HC0_0 := Aside0.mk hc0_0
 clear hr0_0 hc0_0
 have HB := Aside0.mk (Below.refl w.heap.size w)
 have H : ((exactpplref19_Reduce.f k l0_0).bind fun bt207 => (if bt207.2 = 0 then ((exactpplref19_Same.f k bt207.1 l0_0).bind fun t212 => (if t212 = true then (some 0) else (some 2))) else (some bt207.2))) = some r := h
 clear h
 replace H := Option.bind_eq_some_iff.mp H
 obtain ⟨⟨t207, t210⟩, A20, H⟩ := H
 replace H : (if t210 = 0 then ((exactpplref19_Same.f k t207 l0_0).bind fun t212 => (if t212 = true then (some 0) else (some 2))) else (some t210)) = some r := H
 have A2 := Aside0.mk A20
 clear A20
 by_cases c3 : t210 = 0
 ·rw [if_pos c3] at H
  have c3b0 : (t210 == 0) = true := beq_iff_eq.mpr c3
  have c3b1 : (t210 != 0) = false := bne_eq_false_iff_eq.mpr c3
  clear c3
  replace H := Option.bind_eq_some_iff.mp H
  obtain ⟨t212, A40, H⟩ := H
  replace H : (if t212 = true then (some 0) else (some 2)) = some r := H
  have A4 := Aside0.mk A40
  clear A40
  by_cases c5 : t212 = true
  ·subst c5
   have H1 : (some 0) = some r := by rw [if_pos rfl] at H; exact H
   clear H
   have H := H1
   clear H1
   obtain rfl := Option.some.inj H
   go_enter Tryd.func44, Tryd.ntmps44
   go_wp2_with (first | ((with_reducible refine gate_dst (N := 1) rfl ?_); refine box_event ?hg (N := 1) ?hd (cs := #[.slice A0_0 l0_0.length c0_0]) (t := 31) ?hr ?_; (case hd => rfl); (case hg => rfl); (case hr => first | (go_simp; done) | (go_simp; rfl)); intro gb206 hg w6 hbox hb; have BK206 := Aside0.mk (hbox); have GW206 : Aside0 (w.heap.size ≤ gb206) := gw_ hg (below_size bl_); have GE206 := GW206; replace HB := Aside0.mk (below_step bl_ hb); clear hb hbox hg; obtain ⟨hcz7_0, hfz7_0⟩ := cf1_ BK206.out) | ((with_reducible refine gate_callee (f := 43) rfl ?_); refine goesL_ (some 8) rfl rfl Tryd.func43 (by kernel_rfl) rfl #[.slice A0_0 l0_0.length c0_0] rfl (by (try simp only [List.map_toArray, List.map_cons, List.map_nil]); first | done | rfl | (simp only [List.length_drop, List.length_take]; rfl)) ?_; (with_reducible refine (exactpplref19_Reduce.calls k _ _ l0_0 t207 t210 _ ?side1 ?side2 A2.out).mono ?_); (case side1 => repeat (first | exact (Kd.C_below HR0_0.out HB.out) | (with_reducible refine Kd.C_alloc ?_ _) | (with_reducible refine Kd.C_drewN ?_ _) | (with_reducible refine Kd.C_drew ?_))); (case side2 => exact HC0_0.out); rintro e w8 ⟨v208, rfl, ho0, hb⟩; refine ⟨_, rfl, ?_⟩; have HO209 := Aside0.mk (Kd.V_lower (Kd.V_mono (ok' := fun k_ => k_ ≠ gb206) ho0 (fun k_ hk_ => (Kd.freshB (g := gb206) (o := .cells #[.slice A0_0 l0_0.length c0_0] 31 (0, 0)) bk_ k_ hk_))) (below_size bl_)); replace BK206 := Aside0.mk (blk_below (g := gb206) (o := .cells #[.slice A0_0 l0_0.length c0_0] 31 (0, 0)) bk_ hb); replace HB := Aside0.mk (below_step bl_ hb); (try clear hb); (try clear hb2); (try clear hk); (try clear hi); (try clear ho0)) | ((with_reducible refine gate_dst (N := 3) rfl ?_); refine box_event ?hg (N := 3) ?hd (cs := #[.slice none 0 0]) (t := 31) ?hr ?_; (case hd => rfl); (case hg => rfl); (case hr => first | (go_simp; done) | (go_simp; rfl)); intro gb211 hg w9 hbox hb; have BK211 := Aside0.mk (hbox); have GW211 : Aside0 (w.heap.size ≤ gb211) := gw_ hg (below_size bl_); have GE211 := GW211; have NB206_211 := Aside0.mk ((by rw [hg]; exact Nat.ne_of_lt (blk_lt (g := gb206) (o := .cells #[.slice A0_0 l0_0.length c0_0] 31 (0, 0)) bk_) : gb206 ≠ gb211)); have NB211_206 := Aside0.mk ((by rw [hg]; exact Nat.ne_of_gt (blk_lt (g := gb206) (o := .cells #[.slice A0_0 l0_0.length c0_0] 31 (0, 0)) bk_) : gb211 ≠ gb206)); replace HO209 := Aside0.mk (Kd.V_below (Kd.V_elderB (pV_ HO209.out) gb211 (Nat.le_of_eq hg.symm)) hb); replace BK206 := Aside0.mk (blk_below (g := gb206) (o := .cells #[.slice A0_0 l0_0.length c0_0] 31 (0, 0)) bk_ hb); replace HB := Aside0.mk (below_step bl_ hb); clear hb hbox hg; obtain ⟨Ao10, co10, eo10⟩ := Kd.V_slice HO209.out; subst eo10; have hnb11 := NB211_206.out; have hnc11 := NB206_211.out; obtain ⟨hcz12_0, hfz12_0⟩ := cf1_ BK211.out; obtain ⟨hcz13_0, hfz13_0⟩ := cf1_ BK206.out) | ((with_reducible refine gate_callee (f := 20) rfl ?_); refine goesL_ (some 16) rfl rfl Tryd.func20 (by kernel_rfl) rfl #[.agg #[.slice Ao10 t207.length co10], .agg #[.slice A0_0 l0_0.length c0_0]] rfl (by (try simp only [List.map_toArray, List.map_cons, List.map_nil]); first | done | rfl | (simp only [List.length_drop, List.length_take]; rfl)) ?_; (with_reducible refine (exactpplref19_Same.calls k _ _ t207 _ _ l0_0 true _ ?side1 ?side2 ?side3 ?side4 A4.out).mono ?_); (case side1 => refine (Kd.V_reads' (e := 60) (base := w.heap.size) (ok := fun k_ => (k_ ≠ gb206 ∧ k_ ≠ gb211)) (n := t207.length) (c := co10) ?_).2.2; exact (by (with_reducible repeat (first | apply Kd.V_alloc | apply Kd.V_drewN | apply Kd.V_drew)); exact (Kd.V_mono (Kd.V_far (p := ⟨gb211, 0, none⟩) (Kd.V_mono HO209.out (fun k_ hk => (⟨hk, by first | exact hk.2 | exact hk.1 | exact hk.2 | exact hk.1.1 | exact hk.1.2⟩ : _ ∧ k_ ≠ gb211))) (fun _ hk => hk.2) (.slice Ao10 t207.length co10)) (fun _ h_ => h_.1)))); (case side2 => exact (Kd.V_reads' HO209.out).2.1); (case side3 => exact Kd.C_below HR0_0.out bl_); (case side4 => exact HC0_0.out); rintro e w14 ⟨rfl, hb⟩; refine ⟨_, rfl, ?_⟩; replace HO209 := Aside0.mk (Kd.V_below (by (with_reducible repeat (first | apply Kd.V_alloc | apply Kd.V_drewN | apply Kd.V_drew)); exact (Kd.V_mono (Kd.V_far (p := ⟨gb211, 0, none⟩) (Kd.V_mono HO209.out (fun k_ hk => (⟨hk, by first | exact hk.2 | exact hk.1 | exact hk.2 | exact hk.1.1 | exact hk.1.2⟩ : _ ∧ k_ ≠ gb211))) (fun _ hk => hk.2) (.slice Ao10 t207.length co10)) (fun _ h_ => h_.1))) hb); replace BK206 := Aside0.mk (blk_below (g := gb206) (o := .cells #[.slice A0_0 l0_0.length c0_0] 31 (0, 0)) (by (with_reducible repeat (first | refine blk_drewN ?_ _ | refine blk_drew ?_ | refine blk_alloc ?_ _)); refine blk_far ?_ NB206_211.out _; (with_reducible repeat (first | refine blk_drewN ?_ _ | refine blk_drew ?_ | refine blk_alloc ?_ _)); exact BK206.out) hb); replace BK211 := Aside0.mk (blk_below (g := gb211) (o := .cells #[.slice Ao10 t207.length co10] 31 (0, 0)) (by (with_reducible repeat (first | refine blk_drewN ?_ _ | refine blk_drew ?_ | refine blk_alloc ?_ _)); refine blk_put (cs := #[.slice none 0 0]) ?_ 0 _ rfl; (with_reducible repeat (first | refine blk_drewN ?_ _ | refine blk_drew ?_ | refine blk_alloc ?_ _)); exact BK211.out) hb); replace HB := Aside0.mk (below_step bl_ hb); (try clear hb); (try clear hb2); (try clear hk); (try clear hi)))
   go_ret
   exact ⟨re_, bl_⟩
  ·replace c5 := Bool.eq_false_iff.mpr c5
   subst c5
   have H1 : (some 2) = some r := by rw [if_neg (show ¬ (false = true) by decide)] at H; exact H
   clear H
   have H := H1
   clear H1
   obtain rfl := Option.some.inj H
   go_enter Tryd.func44, Tryd.ntmps44
   go_wp2_with (first | ((with_reducible refine gate_dst (N := 1) rfl ?_); refine box_event ?hg (N := 1) ?hd (cs := #[.slice A0_0 l0_0.length c0_0]) (t := 31) ?hr ?_; (case hd => rfl); (case hg => rfl); (case hr => first | (go_simp; done) | (go_simp; rfl)); intro gb206 hg w15 hbox hb; have BK206 := Aside0.mk (hbox); have GW206 : Aside0 (w.heap.size ≤ gb206) := gw_ hg (below_size bl_); have GE206 := GW206; replace HB := Aside0.mk (below_step bl_ hb); clear hb hbox hg; obtain ⟨hcz16_0, hfz16_0⟩ := cf1_ BK206.out) | ((with_reducible refine gate_callee (f := 43) rfl ?_); refine goesL_ (some 8) rfl rfl Tryd.func43 (by kernel_rfl) rfl #[.slice A0_0 l0_0.length c0_0] rfl (by (try simp only [List.map_toArray, List.map_cons, List.map_nil]); first | done | rfl | (simp only [List.length_drop, List.length_take]; rfl)) ?_; (with_reducible refine (exactpplref19_Reduce.calls k _ _ l0_0 t207 t210 _ ?side1 ?side2 A2.out).mono ?_); (case side1 => repeat (first | exact (Kd.C_below HR0_0.out HB.out) | (with_reducible refine Kd.C_alloc ?_ _) | (with_reducible refine Kd.C_drewN ?_ _) | (with_reducible refine Kd.C_drew ?_))); (case side2 => exact HC0_0.out); rintro e w17 ⟨v208, rfl, ho0, hb⟩; refine ⟨_, rfl, ?_⟩; have HO209 := Aside0.mk (Kd.V_lower (Kd.V_mono (ok' := fun k_ => k_ ≠ gb206) ho0 (fun k_ hk_ => (Kd.freshB (g := gb206) (o := .cells #[.slice A0_0 l0_0.length c0_0] 31 (0, 0)) bk_ k_ hk_))) (below_size bl_)); replace BK206 := Aside0.mk (blk_below (g := gb206) (o := .cells #[.slice A0_0 l0_0.length c0_0] 31 (0, 0)) bk_ hb); replace HB := Aside0.mk (below_step bl_ hb); (try clear hb); (try clear hb2); (try clear hk); (try clear hi); (try clear ho0)) | ((with_reducible refine gate_dst (N := 3) rfl ?_); refine box_event ?hg (N := 3) ?hd (cs := #[.slice none 0 0]) (t := 31) ?hr ?_; (case hd => rfl); (case hg => rfl); (case hr => first | (go_simp; done) | (go_simp; rfl)); intro gb211 hg w18 hbox hb; have BK211 := Aside0.mk (hbox); have GW211 : Aside0 (w.heap.size ≤ gb211) := gw_ hg (below_size bl_); have GE211 := GW211; have NB206_211 := Aside0.mk ((by rw [hg]; exact Nat.ne_of_lt (blk_lt (g := gb206) (o := .cells #[.slice A0_0 l0_0.length c0_0] 31 (0, 0)) bk_) : gb206 ≠ gb211)); have NB211_206 := Aside0.mk ((by rw [hg]; exact Nat.ne_of_gt (blk_lt (g := gb206) (o := .cells #[.slice A0_0 l0_0.length c0_0] 31 (0, 0)) bk_) : gb211 ≠ gb206)); replace HO209 := Aside0.mk (Kd.V_below (Kd.V_elderB (pV_ HO209.out) gb211 (Nat.le_of_eq hg.symm)) hb); replace BK206 := Aside0.mk (blk_below (g := gb206) (o := .cells #[.slice A0_0 l0_0.length c0_0] 31 (0, 0)) bk_ hb); replace HB := Aside0.mk (below_step bl_ hb); clear hb hbox hg; obtain ⟨Ao19, co19, eo19⟩ := Kd.V_slice HO209.out; subst eo19; have hnb20 := NB211_206.out; have hnc20 := NB206_211.out; obtain ⟨hcz21_0, hfz21_0⟩ := cf1_ BK211.out; obtain ⟨hcz22_0, hfz22_0⟩ := cf1_ BK206.out) | ((with_reducible refine gate_callee (f := 20) rfl ?_); refine goesL_ (some 16) rfl rfl Tryd.func20 (by kernel_rfl) rfl #[.agg #[.slice Ao19 t207.length co19], .agg #[.slice A0_0 l0_0.length c0_0]] rfl (by (try simp only [List.map_toArray, List.map_cons, List.map_nil]); first | done | rfl | (simp only [List.length_drop, List.length_take]; rfl)) ?_; (with_reducible refine (exactpplref19_Same.calls k _ _ t207 _ _ l0_0 false _ ?side1 ?side2 ?side3 ?side4 A4.out).mono ?_); (case side1 => refine (Kd.V_reads' (e := 60) (base := w.heap.size) (ok := fun k_ => (k_ ≠ gb206 ∧ k_ ≠ gb211)) (n := t207.length) (c := co19) ?_).2.2; exact (by (with_reducible repeat (first | apply Kd.V_alloc | apply Kd.V_drewN | apply Kd.V_drew)); exact (Kd.V_mono (Kd.V_far (p := ⟨gb211, 0, none⟩) (Kd.V_mono HO209.out (fun k_ hk => (⟨hk, by first | exact hk.2 | exact hk.1 | exact hk.2 | exact hk.1.1 | exact hk.1.2⟩ : _ ∧ k_ ≠ gb211))) (fun _ hk => hk.2) (.slice Ao19 t207.length co19)) (fun _ h_ => h_.1)))); (case side2 => exact (Kd.V_reads' HO209.out).2.1); (case side3 => exact Kd.C_below HR0_0.out bl_); (case side4 => exact HC0_0.out); rintro e w23 ⟨rfl, hb⟩; refine ⟨_, rfl, ?_⟩; replace HO209 := Aside0.mk (Kd.V_below (by (with_reducible repeat (first | apply Kd.V_alloc | apply Kd.V_drewN | apply Kd.V_drew)); exact (Kd.V_mono (Kd.V_far (p := ⟨gb211, 0, none⟩) (Kd.V_mono HO209.out (fun k_ hk => (⟨hk, by first | exact hk.2 | exact hk.1 | exact hk.2 | exact hk.1.1 | exact hk.1.2⟩ : _ ∧ k_ ≠ gb211))) (fun _ hk => hk.2) (.slice Ao19 t207.length co19)) (fun _ h_ => h_.1))) hb); replace BK206 := Aside0.mk (blk_below (g := gb206) (o := .cells #[.slice A0_0 l0_0.length c0_0] 31 (0, 0)) (by (with_reducible repeat (first | refine blk_drewN ?_ _ | refine blk_drew ?_ | refine blk_alloc ?_ _)); refine blk_far ?_ NB206_211.out _; (with_reducible repeat (first | refine blk_drewN ?_ _ | refine blk_drew ?_ | refine blk_alloc ?_ _)); exact BK206.out) hb); replace BK211 := Aside0.mk (blk_below (g := gb211) (o := .cells #[.slice Ao19 t207.length co19] 31 (0, 0)) (by (with_reducible repeat (first | refine blk_drewN ?_ _ | refine blk_drew ?_ | refine blk_alloc ?_ _)); refine blk_put (cs := #[.slice none 0 0]) ?_ 0 _ rfl; (with_reducible repeat (first | refine blk_drewN ?_ _ | refine blk_drew ?_ | refine blk_alloc ?_ _)); exact BK211.out) hb); replace HB := Aside0.mk (below_step bl_ hb); (try clear hb); (try clear hb2); (try clear hk); (try clear hi)))
   go_ret
   exact ⟨re_, bl_⟩
 ·rw [if_neg c3] at H
  have c3b0 : (t210 == 0) = false := beq_eq_false_iff_ne.mpr c3
  have c3b1 : (t210 != 0) = true := bne_iff_ne.mpr c3
  obtain rfl := Option.some.inj H
  go_enter Tryd.func44, Tryd.ntmps44
  go_wp2_with (first | ((with_reducible refine gate_dst (N := 1) rfl ?_); refine box_event ?hg (N := 1) ?hd (cs := #[.slice A0_0 l0_0.length c0_0]) (t := 31) ?hr ?_; (case hd => rfl); (case hg => rfl); (case hr => first | (go_simp; done) | (go_simp; rfl)); intro gb206 hg w24 hbox hb; have BK206 := Aside0.mk (hbox); have GW206 : Aside0 (w.heap.size ≤ gb206) := gw_ hg (below_size bl_); have GE206 := GW206; replace HB := Aside0.mk (below_step bl_ hb); clear hb hbox hg; obtain ⟨hcz25_0, hfz25_0⟩ := cf1_ BK206.out) | ((with_reducible refine gate_callee (f := 43) rfl ?_); refine goesL_ (some 8) rfl rfl Tryd.func43 (by kernel_rfl) rfl #[.slice A0_0 l0_0.length c0_0] rfl (by (try simp only [List.map_toArray, List.map_cons, List.map_nil]); first | done | rfl | (simp only [List.length_drop, List.length_take]; rfl)) ?_; (with_reducible refine (exactpplref19_Reduce.calls k _ _ l0_0 t207 t210 _ ?side1 ?side2 A2.out).mono ?_); (case side1 => repeat (first | exact (Kd.C_below HR0_0.out HB.out) | (with_reducible refine Kd.C_alloc ?_ _) | (with_reducible refine Kd.C_drewN ?_ _) | (with_reducible refine Kd.C_drew ?_))); (case side2 => exact HC0_0.out); rintro e w26 ⟨v208, rfl, ho0, hb⟩; refine ⟨_, rfl, ?_⟩; have HO209 := Aside0.mk (Kd.V_lower (Kd.V_mono (ok' := fun k_ => k_ ≠ gb206) ho0 (fun k_ hk_ => (Kd.freshB (g := gb206) (o := .cells #[.slice A0_0 l0_0.length c0_0] 31 (0, 0)) bk_ k_ hk_))) (below_size bl_)); replace BK206 := Aside0.mk (blk_below (g := gb206) (o := .cells #[.slice A0_0 l0_0.length c0_0] 31 (0, 0)) bk_ hb); replace HB := Aside0.mk (below_step bl_ hb); (try clear hb); (try clear hb2); (try clear hk); (try clear hi); (try clear ho0)) | ((with_reducible refine gate_dst (N := 3) rfl ?_); refine box_event ?hg (N := 3) ?hd (cs := #[.slice none 0 0]) (t := 31) ?hr ?_; (case hd => rfl); (case hg => rfl); (case hr => first | (go_simp; done) | (go_simp; rfl)); intro gb211 hg w27 hbox hb; have BK211 := Aside0.mk (hbox); have GW211 : Aside0 (w.heap.size ≤ gb211) := gw_ hg (below_size bl_); have GE211 := GW211; have NB206_211 := Aside0.mk ((by rw [hg]; exact Nat.ne_of_lt (blk_lt (g := gb206) (o := .cells #[.slice A0_0 l0_0.length c0_0] 31 (0, 0)) bk_) : gb206 ≠ gb211)); have NB211_206 := Aside0.mk ((by rw [hg]; exact Nat.ne_of_gt (blk_lt (g := gb206) (o := .cells #[.slice A0_0 l0_0.length c0_0] 31 (0, 0)) bk_) : gb211 ≠ gb206)); replace HO209 := Aside0.mk (Kd.V_below (Kd.V_elderB (pV_ HO209.out) gb211 (Nat.le_of_eq hg.symm)) hb); replace BK206 := Aside0.mk (blk_below (g := gb206) (o := .cells #[.slice A0_0 l0_0.length c0_0] 31 (0, 0)) bk_ hb); replace HB := Aside0.mk (below_step bl_ hb); clear hb hbox hg; obtain ⟨Ao28, co28, eo28⟩ := Kd.V_slice HO209.out; subst eo28; have hnb29 := NB211_206.out; have hnc29 := NB206_211.out; obtain ⟨hcz30_0, hfz30_0⟩ := cf1_ BK211.out))
  go_ret
  exact ⟨re_, bl_⟩

end Go.Proofs.YtopbjginpmdebaaDoor.K
namespace Go.Proofs.YtopbjginpmdebaaDoor.K
open Go.RowKit Go.Proofs.YtopbjginpmdebaaDoorW.PrintWords Go.Proofs.YtopbjginpmdebaaDoorW.PrintLast Go.Proofs.YtopbjginpmdebaaDoorW.PrintMore
attribute [local go_sem] max2_int min2_int max_two min_two max_three min_three max_four min_four   -- for this text's walks alone
set_option linter.unusedVariables false
set_option linter.unusedSimpArgs false

/-! ### exactpplmake_Src_Pick: function 32 -/
def exactpplmake_Src_Pick.f (s0_0 : List Int) (s0_1 : Int) (s0_2 : Int) (l1 : List Int) : Option (Int × Int × Int) := (exactpplmake_Src_N.f s0_0 s0_1 s0_2 (l1.length : Int)).bind fun bt236 => (if 0 ≤ bt236.1 then (if bt236.1 < (l1.length : Int) then (some (rd l1 bt236.1, bt236.2.1, bt236.2.2)) else (none)) else (none))
set_option maxHeartbeats 8000000 in
set_option maxRecDepth 100000 in
theorem exactpplmake_Src_Pick.calls (g : Nat) (s0_0 : List Int) (s0_1 : Int) (s0_2 : Int) (A1 : Option Addr) (c1 : Nat) (l1 : List Int) (r1 : Int) (r2 : Int) (r3 : Int) (w0 w : World) (hI : IsS58 w0 w g s0_0 s0_1 s0_2) (hB : Below w0.heap.size w0 w) (hr1 : Kd.C (Kd.int .i64) w A1 l1.length l1) (hc1 : l1.length ≤ c1) (hf1 : ∀ ad, A1 = some ad → 0 < l1.length → ad.block ≠ g) (h : exactpplmake_Src_Pick.f s0_0 s0_1 s0_2 l1 = some (r1, r2, r3)) :
  Calls Tryd.prog 32 #[.pointer (some ⟨g, 0, none⟩), .slice A1 l1.length c1] w fun e w' => e = .returned (.int .i64 r1) ∧ IsS58 w0 w' g s0_0 r2 r3 ∧ Below w0.heap.size w0 w' ∧ KeepBut w w' g none := by
 have HR1 := Aside0.mk hr1
 have HC1 := Aside0.mk hc1
 clear hr1 hc1
 have HI0 := Aside0.mk hI
 have HK := Aside0.mk (KeepBut.refl w g none)
 have HL := Aside0.mk hB.size
 clear hI
 have HW0 := Aside0.mk hB.size
 have HB := Aside0.mk hB
 clear hB
 have H : ((exactpplmake_Src_N.f s0_0 s0_1 s0_2 (l1.length : Int)).bind fun bt236 => (if 0 ≤ bt236.1 then (if bt236.1 < (l1.length : Int) then (some (rd l1 bt236.1, bt236.2.1, bt236.2.2)) else (none)) else (none))) = some (r1, r2, r3) := h
 clear h
 replace H := Option.bind_eq_some_iff.mp H
 obtain ⟨⟨t236, t237, t238⟩, A30, H⟩ := H
 replace H : (if 0 ≤ t236 then (if t236 < (l1.length : Int) then (some (rd l1 t236, t237, t238)) else (none)) else (none)) = some (r1, r2, r3) := H
 have A3 := Aside0.mk A30
 clear A30
 by_cases c4 : 0 ≤ t236
 ·rw [if_pos c4] at H
  have c4b0 : decide (0 ≤ t236) = true := decide_eq_true c4
  clear c4
  by_cases c5 : t236 < (l1.length : Int)
  ·rw [if_pos c5] at H
   have c5b0 : decide (t236 < (l1.length : Int)) = true := decide_eq_true c5
   clear c5
   simp only [Option.some.injEq, Prod.mk.injEq] at H
   obtain ⟨rfl, rfl, rfl⟩ := H
   go_enter Tryd.func32, Tryd.ntmps32
   go_wp2_with (first | ((with_reducible refine gate_callee (f := 23) rfl ?_); refine goesL_ (some 9) rfl rfl Tryd.func23 (by kernel_rfl) rfl #[.pointer (some ⟨g, 0, none⟩), .int .i64 (l1.length : Int)] rfl (by (try simp only [List.map_toArray, List.map_cons, List.map_nil]); first | done | rfl | (simp only [List.length_drop, List.length_take]; rfl)) ?_; (with_reducible refine (exactpplmake_Src_N.calls g s0_0 s0_1 s0_2 (l1.length : Int) t236 t237 t238 w0 _ ?side1 ?side2 A3.out).mono ?_); (case side1 => repeat (first | (with_reducible first | exact HI0.out | apply IsS58.alloc | apply IsS58.drewN | apply IsS58.drew | apply IsS58.set_1 | apply IsS58.set_2) | exact HI0.out)); (case side2 => repeat (first | (with_reducible first | exact HB.out | apply below_alloc | apply pw_below_drewN | apply below_drew1 | refine below_set ?_ (IsS58.ge HI0.out)) | exact HB.out)); rintro e w6 ⟨rfl, hi, hb, hk⟩; refine ⟨_, rfl, ?_⟩; replace HK := Aside0.mk (KeepBut.trans (by repeat (first | (with_reducible first | exact HK.out | apply KeepBut.set_ | apply keep_drewN | apply keep_drew | apply keep_alloc) | exact HK.out)) hk (.inl rfl)); replace HB := Aside0.mk (hb); replace HI0 := Aside0.mk (hi); (try clear hb); (try clear hb2); (try clear hk); (try clear hi); have p239 : 0 ≤ (t236 : Int) := dt_; have q239 : t236 < (l1.length : Int) := dt_; obtain ⟨ad239, e239, hx239_0⟩ := Kd.at_int HR1.out t236 p239 q239; cases e239; replace hx239_0 := keep_cell HK.out hx239_0 (by first | (rw [add_block]; exact hf1 _ rfl (by omega)) | exact hf1 _ rfl (by omega) | exact hf1 ad239 rfl (by omega)); replace p239 := eq_true p239; replace q239 := eq_true q239))
   go_ret
   exact ⟨re_, si_, bl_, by repeat (first | (with_reducible first | exact HK.out | apply KeepBut.set_ | apply keep_drewN | apply keep_drew | apply keep_alloc) | exact HK.out)⟩
  ·rw [if_neg c5] at H
   exact absurd H (by simp)
 ·rw [if_neg c4] at H
  exact absurd H (by simp)

end Go.Proofs.YtopbjginpmdebaaDoor.K
-- the reference's Reduce, Validate; reduces; the numbers that are read
namespace Go.Proofs.YtopbjginpmdebaaDoor.K
open Go.RowKit Go.Maps Go.Proofs.YtopbjginpmdebaaDoorW.PrintWords Go.Proofs.YtopbjginpmdebaaDoorW.PrintLast Go.Proofs.YtopbjginpmdebaaDoorW.PrintMore
set_option linter.unusedVariables false
set_option linter.unusedSimpArgs false
/-- rounds enough for a list -/
def rnd (l : List Nd) : Nat := 1073741824 + l.length + l.length + 20006
theorem refReduce_f (l : List Nd) (h : ndOk l = true) (k : Nat) (hk : rnd l ≤ k) : exactpplref19_Reduce.f k l = some (redL l, redE l) := by
  have hr := ndOk_room h
  have hI := ndOk_I h
  unfold rnd at hk
  unfold exactpplref19_Reduce.f
  rw [graph_f l (by omega) 1073741824 (by decide) (fun n hn => (hI n hn).2.2) k (by omega), Option.bind_some]
  by_cases hg : grB l = true
  · rw [if_pos hg, exactpplref19_Canon.f, if_pos hg, if_pos h, Option.bind_some]
    unfold exactpplref19_Fit.f redL redE
    rw [if_pos hg]
    by_cases hl : (cn l).length ≤ 20000
    · rw [if_neg (by omega), if_pos hl]; rfl
    · rw [if_pos (by omega), if_neg hl]; rfl
  · rw [if_neg hg]
    unfold redL redE
    rw [if_neg hg]; rfl
theorem redL_len (l : List Nd) : (redL l).length ≤ 20000 := redL_kids
theorem refValidate_f (l : List Nd) (h : ndOk l = true) (k : Nat) (hk : rnd l ≤ k) : exactpplref19_Validate.f k l = some (valE l) := by
  unfold exactpplref19_Validate.f
  rw [refReduce_f l h k hk, Option.bind_some]
  have hl := redL_len l
  unfold rnd at hk
  unfold valE
  by_cases h0 : redE l = 0
  · rw [if_pos h0, if_pos h0, same_f (redL l) l (by omega) 1073741824 (by decide) (fun n hn => Nat.le_trans (redL_kids16 l n hn) (by decide)) k (by omega), Option.bind_some]
    have e : redL l = cn l := by unfold redL; rw [if_pos h0]
    rw [e]
    by_cases hq : cn l = l
    · rw [decide_eq_true hq, if_pos rfl, if_pos hq]
    · rw [decide_eq_false hq, if_neg (by decide), if_neg hq]
  · rw [if_neg h0, if_neg h0]
theorem mono_le {α : Type} {f : Nat → Option α} (h : ∀ k, LeO (f k) (f (k + 1))) {k k' : Nat} (hk : k ≤ k') {r : α} (e : f k = some r) : f k' = some r := by
  induction hk with
  | refl => exact e
  | step _ ih => exact h _ _ ih
/-- what a source is while it is read -/
structure Src (L : List Int) (at_ : Int) : Prop where
  len : L.length ≤ 1000
  i64 : ∀ x ∈ L, -9223372036854775808 ≤ x ∧ x ≤ 9223372036854775807
  lo : 0 ≤ at_
  hi : at_ ≤ (L.length : Int)
theorem new_f (l : List Int) (h : ∀ x ∈ l, -9223372036854775808 ≤ x ∧ x ≤ 9223372036854775807) : ∃ L, exactpplmake_New.f l = some (L, 0, 0) ∧ Src L 0 := by
  unfold exactpplmake_New.f
  by_cases h1 : (l.length : Int) > 1000
  · rw [if_pos h1, if_pos (by omega)]
    exact ⟨_, rfl, by simp; omega, fun x hx => h x (List.mem_of_mem_take hx), by omega, by omega⟩
  · rw [if_neg h1]
    exact ⟨_, rfl, by omega, h, by omega, by omega⟩
theorem w64_id {x : Int} (h : -9223372036854775808 ≤ x) (h2 : x ≤ 9223372036854775807) : wrap64 x = x := by unfold wrap64; omega
theorem raw_f {L : List Int} {a : Int} (h : Src L a) (st : Int) : ∃ x a', exactpplmake_Src_Raw.f L a st = some (x, a', st) ∧ (-9223372036854775808 ≤ x ∧ x ≤ 9223372036854775807) ∧ Src L a' := by
  have hl := h.len
  have h0 := h.lo
  have h1 := h.hi
  unfold exactpplmake_Src_Raw.f
  by_cases he : a ≥ (L.length : Int)
  · rw [if_pos he]
    exact ⟨0, a, rfl, by omega, h⟩
  · rw [if_neg he, w64_id (x := a + 1) (by omega) (by omega), w64_id (x := a + 1 - 1) (by omega) (by omega), if_pos (by omega), if_pos (by omega)]
    refine ⟨_, _, rfl, ?_, ⟨hl, h.i64, by omega, by omega⟩⟩
    refine h.i64 _ ?_
    have hj : a.toNat < L.length := by omega
    have e : rd L (a + 1 - 1) = L[a.toNat] := by rw [show a + 1 - 1 = ((a.toNat : Nat) : Int) by omega, rd_get hj]
    rw [e]; exact List.getElem_mem hj
theorem n_f {L : List Int} {a : Int} (h : Src L a) (st n : Int) (h1 : 1 ≤ n) (h2 : n ≤ 1000000000000) : ∃ x a', exactpplmake_Src_N.f L a st n = some (x, a', st) ∧ (0 ≤ x ∧ x < n) ∧ Src L a' := by
  unfold exactpplmake_Src_N.f
  obtain ⟨x, a', e, hx, h'⟩ := raw_f h st
  rw [if_neg (by omega), e, Option.bind_some, if_neg (by omega)]
  have ht1 := Int.lt_tmod_of_pos x (show 0 < n by omega)
  have ht2 := Int.tmod_lt_of_pos x (show 0 < n by omega)
  by_cases hn : Int.tmod x n < 0
  · simp only
    rw [if_pos hn, w64_id (by omega) (by omega)]
    exact ⟨_, _, rfl, by omega, h'⟩
  · simp only
    rw [if_neg hn]
    exact ⟨_, _, rfl, by omega, h'⟩
theorem n0_f {L : List Int} {a : Int} (h : Src L a) (st n : Int) (h1 : n < 1) : exactpplmake_Src_N.f L a st n = some (0, a, st) := by
  unfold exactpplmake_Src_N.f
  rw [if_pos h1]
theorem range_f {L : List Int} {a : Int} (h : Src L a) (st lo hi : Int) (h1 : lo ≤ hi) (h2 : -100000000000 ≤ lo) (h3 : hi ≤ 100000000000) : ∃ x a', exactpplmake_Src_Range.f L a st lo hi = some (x, a', st) ∧ (lo ≤ x ∧ x ≤ hi) ∧ Src L a' := by
  unfold exactpplmake_Src_Range.f
  rw [w64_id (x := hi - lo) (by omega) (by omega), w64_id (x := hi - lo + 1) (by omega) (by omega)]
  obtain ⟨x, a', e, hx, h'⟩ := n_f h st (hi - lo + 1) (by omega) (by omega)
  rw [e, Option.bind_some]
  simp only
  rw [w64_id (by omega) (by omega)]
  exact ⟨_, _, rfl, by omega, h'⟩
theorem pick_f {L : List Int} {a : Int} (h : Src L a) (st : Int) (l : List Int) (h1 : l ≠ []) (h2 : l.length ≤ 1000) : ∃ x a', exactpplmake_Src_Pick.f L a st l = some (x, a', st) ∧ x ∈ l ∧ Src L a' := by
  have hp := List.length_pos_iff.2 h1
  unfold exactpplmake_Src_Pick.f
  obtain ⟨x, a', e, hx, h'⟩ := n_f h st (l.length : Int) (by omega) (by omega)
  rw [e, Option.bind_some]
  simp only
  rw [if_pos (by omega), if_pos (by omega)]
  refine ⟨_, _, rfl, ?_, h'⟩
  have hj : x.toNat < l.length := by omega
  rw [show x = ((x.toNat : Nat) : Int) by omega, rd_get hj]
  exact List.getElem_mem hj
theorem width_f (s : Int) (h1 : 0 ≤ s) (h2 : s ≤ 1000000) : exactpplmake_Width.f s = some (2 + s % 2) := by
  unfold exactpplmake_Width.f
  rw [Int.tmod_eq_emod_of_nonneg h1, w64_id (by omega) (by omega)]
end Go.Proofs.YtopbjginpmdebaaDoor.K
