/- sP -/
import Derived.Test.YtggelekooacmnaaDoorRows
import Derived.ChangeSlices
import Derived.LaidLaws
import Derived.LaidHandle
import Derived.LaidSub
import Derived.Lib.LaidTab
import Derived.WalkKit
import Derived.ProofKit
import Derived.OpenShut
import Derived.ShutString
import Derived.ChangeOld
import Derived.Below
import Derived.Handed
import Derived.SevenTiedAt
import Derived.Deep.DeepHandedRow
import Derived.Test.YtggelekooacmnaaDoorTie
import Derived.Test.YtggelekooacmnaaDoorCards
import Derived.Test.YtggelekooacmnaaDoorTr2
import Derived.Test.YtggelekooacmnaaDoorTr5
import Derived.Test.YtggelekooacmnaaDoorTr7
-- an api.Type parameter, opened: a tree that is read, its levels and lists bounded by its bulk
namespace Go.Proofs.YtggelekooacmnaaDoor.Q
open Go.RowKit Go.ChangeShapes Go.Proofs.YtggelekooacmnaaDoorW.aU Go.Proofs.YtggelekooacmnaaDoorW.bD Go.Proofs.YtggelekooacmnaaDoorW.bH
set_option linter.unusedVariables false
theorem DX {H : Type} (d : DataW H) : 1 ≤ Rows.uptoBulk d := by
  unfold Rows.uptoBulk
  split <;> omega
theorem bulk_mem {H : Type} {d : DataW H} {l : List (DataW H)} (h : d ∈ l) : Rows.uptoBulk d ≤ Rows.uptoBulkAll l := by
  induction l with
  | nil => cases h
  | cons x l ih =>
    simp only [Rows.uptoBulkAll]
    rcases List.mem_cons.1 h with rfl | h
    · omega
    · have := ih h; omega
theorem bulk_len {H : Type} (l : List (DataW H)) : l.length ≤ Rows.uptoBulkAll l := by
  induction l with
  | nil => simp
  | cons x l ih => have := DX x; simp only [Rows.uptoBulkAll, List.length_cons]; omega
theorem Tg (a : Addr) (i j : Nat) : (a.add i).add j = a.add (i + j) := by
  by_cases h0 : i = 0 <;> by_cases h1 : j = 0 <;> simp [Addr.add, h0, h1, Nat.add_assoc]
set_option maxRecDepth 100000 in
theorem Ob {H : Type} {enc : TypeId × Value → H} {w : World} {base : Nat} {spare : Nat → Bool} {held : Bool} (fuel : Nat) : ∀ {cs : List Value} {x : DataW H × List MemPlace}, DataW.trod enc Tryd.prog w base spare held fuel 24 cs = some x →
    ∃ (s : S24) (A : Option Addr) (c : Nat), cs = [.int .i64 s.f0, .int .i64 s.f1, .int .i64 s.f2, .int .i64 s.f3, .slice A s.f4.length c] ∧ s.f4.length ≤ c ∧ Kd.C k24 w A s.f4.length s.f4 ∧ Pure.Bg (Rows.uptoBulk x.1) s := by
  induction fuel using Nat.strongRecOn with
  | _ fuel ih =>
  intro cs x h
  obtain ⟨xs, m, hm, hx, hl, hlen, hf⟩ := DataW.trod_struct Tryd.underlying24 h
  subst hm hx
  have h5 : Tryd.prog.cellsOf 24 = 5 := by kernel_rfl
  have c3 : Tryd.prog.cellsOf 3 = 1 := by kernel_rfl
  have c22 : Tryd.prog.cellsOf 22 = 1 := by kernel_rfl
  rw [h5] at hl
  match cs, hl with
  | [u0, u1, u2, u3, u4], _ =>
  replace hlen : xs.length = 5 := hlen
  match xs, hlen with
  | [y0, y1, y2, y3, y4], _ =>
  have f0 : DataW.trod enc Tryd.prog w base spare held m 3 (([u0, u1, u2, u3, u4].drop 0).take (Tryd.prog.cellsOf 3)) = some y0 := hf 0 _ rfl
  have f1 : DataW.trod enc Tryd.prog w base spare held m 3 (([u0, u1, u2, u3, u4].drop 1).take (Tryd.prog.cellsOf 3)) = some y1 := hf 1 _ rfl
  have f2 : DataW.trod enc Tryd.prog w base spare held m 3 (([u0, u1, u2, u3, u4].drop 2).take (Tryd.prog.cellsOf 3)) = some y2 := hf 2 _ rfl
  have f3 : DataW.trod enc Tryd.prog w base spare held m 3 (([u0, u1, u2, u3, u4].drop 3).take (Tryd.prog.cellsOf 3)) = some y3 := hf 3 _ rfl
  have f4 : DataW.trod enc Tryd.prog w base spare held m 22 (([u0, u1, u2, u3, u4].drop 4).take (Tryd.prog.cellsOf 22)) = some y4 := hf 4 _ rfl
  rw [c3] at f0 f1 f2 f3
  rw [c22] at f4
  obtain ⟨n0, e0, _, w0⟩ := DataW.trod_int Tryd.underlying3 f0
  obtain ⟨n1, e1, _, w1⟩ := DataW.trod_int Tryd.underlying3 f1
  obtain ⟨n2, e2, _, w2⟩ := DataW.trod_int Tryd.underlying3 f2
  obtain ⟨n3, e3, _, w3⟩ := DataW.trod_int Tryd.underlying3 f3
  obtain rfl : u0 = .int .i64 n0 := by simpa using e0
  obtain rfl : u1 = .int .i64 n1 := by simpa using e1
  obtain rfl : u2 = .int .i64 n2 := by simpa using e2
  obtain rfl : u3 = .int .i64 n3 := by simpa using e3
  have hbk : Rows.uptoBulk y4.1 + 5 ≤ Rows.uptoBulk (DataW.agg ([y0, y1, y2, y3, y4].map (·.1))) := by
    have b0 := DX y0.1; have b1 := DX y1.1; have b2 := DX y2.1; have b3 := DX y3.1
    simp only [List.map_cons, List.map_nil, Rows.uptoBulk, Rows.uptoBulkAll]; omega
  rcases DataW.trod_slice Tryd.underlying22 f4 with ⟨e4, _⟩ | ⟨a, len, cap, elems, rest, n, hn, e4, hx4, hb, hlc, hm, hel, hee, _, _⟩
  · obtain rfl : u4 = .slice none 0 0 := by simpa using e4
    refine ⟨⟨n0, n1, n2, n3, []⟩, none, 0, rfl, Nat.le_refl _, Kd.C_nil _ w, ?_⟩
    exact Pure.Bg.mono (n := 1) (by show _ ≤ Rows.uptoBulk (DataW.agg ([y0, y1, y2, y3, y4].map (·.1))); omega) ⟨by simp, by simp⟩
  · obtain rfl : u4 = .slice (some a) len cap := by simpa using e4
    have each : ∀ i, ∃ s : S24, i < len → (∃ c, c.length = 5 ∧ k24.K w s c ∧ ∀ j u, c[j]? = some u → w.cell? (a.add (i * 5 + j)) = some u) ∧ Pure.Bg (Rows.uptoBulkAll (elems.map (·.1))) s := by
      intro i
      by_cases hi : i < len
      · have he := hee i hi
        rw [List.getElem?_eq_getElem (by omega), h5, Option.bind_eq_some_iff] at he
        obtain ⟨c, hc, hy⟩ := he
        obtain ⟨s, A, cc, hcs, hsl, hC, hB⟩ := ih n (by omega) hy
        obtain ⟨_, _, hcc⟩ := World.cells?_some hc
        refine ⟨s, fun _ => ⟨⟨c, by rw [hcs]; rfl, by rw [hcs]; exact k24_mk w s hsl hC, fun j u hj => ?_⟩, Pure.Bg.mono (bulk_mem (List.mem_map_of_mem (List.getElem_mem _))) hB⟩⟩
        have hj5 : j < 5 := by have := (List.getElem?_eq_some_iff.1 hj).1; rw [hcs] at this; exact this
        rw [← Tg, hcc j hj5, hj]
      · exact ⟨z24, fun hh => absurd hh hi⟩
    obtain ⟨g, hg⟩ := Classical.axiomOfChoice each
    have hz : ((List.range len).map g).length = len := by simp
    have hml : cap ≤ 9223372036854775807 := hm
    have hbe : Rows.uptoBulkAll (elems.map (·.1)) + 1 ≤ Rows.uptoBulk y4.1 := by rw [hx4]; simp only [Rows.uptoBulk]; omega
    have hle : len ≤ Rows.uptoBulkAll (elems.map (·.1)) := by have := bulk_len (elems.map (·.1)); rw [List.length_map] at this; omega
    refine ⟨⟨n0, n1, n2, n3, (List.range len).map g⟩, some a, cap, ?_, ?_, ⟨rfl, ?_, fun _ => ⟨a, rfl, fun j p hj => ?_⟩⟩, ?_⟩
    · show [Value.int .i64 n0, .int .i64 n1, .int .i64 n2, .int .i64 n3, .slice (some a) len cap] = [.int .i64 n0, .int .i64 n1, .int .i64 n2, .int .i64 n3, .slice (some a) ((List.range len).map g).length cap]
      rw [hz]
    · show ((List.range len).map g).length ≤ cap; omega
    · show ((List.range len).map g).length ≤ _; omega
    · have hj2 : ((List.range len).map g)[j]? = some p := hj
      have hjl : j < len := by have := (List.getElem?_eq_some_iff.1 hj2).1; omega
      obtain rfl : g j = p := by simpa [hjl] using hj2
      exact (hg j hjl).1
    · refine Pure.Bg.mono (n := Rows.uptoBulkAll (elems.map (·.1)) + 1) (by show _ ≤ Rows.uptoBulk (DataW.agg ([y0, y1, y2, y3, y4].map (·.1))); omega) ⟨?_, fun s hs => ?_⟩
      · show ((List.range len).map g).length ≤ _; omega
      · have hs : s ∈ (List.range len).map g := hs
        obtain ⟨j, hj, rfl⟩ := List.mem_map.1 hs
        exact (hg j (by simpa using hj)).2
end Go.Proofs.YtggelekooacmnaaDoor.Q
namespace Go.Proofs.YtggelekooacmnaaDoor
open Go
/-- cells laid into a block that stands -/
def Jz (cs : Array Value) : Obj → Obj
  | .cells _ t frozen => .cells cs t frozen
  | o => o
/-- the settled world, the three listed variables laid as the rows list them -/
noncomputable def Oc (os : Os) : World :=
  let w0 := World.holding Tryd.prog os ⟨#[], #[], []⟩
  { w0 with heap := ((w0.heap.modify 0 (Jz #[.int .u64 1, .int .u64 10, .int .u64 100, .int .u64 1000, .int .u64 10000, .int .u64 100000, .int .u64 1000000, .int .u64 10000000, .int .u64 100000000, .int .u64 1000000000, .int .u64 10000000000, .int .u64 100000000000, .int .u64 1000000000000, .int .u64 10000000000000, .int .u64 100000000000000, .int .u64 1000000000000000, .int .u64 10000000000000000, .int .u64 100000000000000000, .int .u64 1000000000000000000, .int .u64 10000000000000000000])).modify 2 (Jz #[.int .u8 0, .int .u8 1, .int .u8 28, .int .u8 2, .int .u8 29, .int .u8 14, .int .u8 24, .int .u8 3, .int .u8 30, .int .u8 22, .int .u8 20, .int .u8 15, .int .u8 25, .int .u8 17, .int .u8 4, .int .u8 8, .int .u8 31, .int .u8 27, .int .u8 13, .int .u8 23, .int .u8 21, .int .u8 19, .int .u8 16, .int .u8 7, .int .u8 26, .int .u8 12, .int .u8 18, .int .u8 6, .int .u8 11, .int .u8 5, .int .u8 10, .int .u8 9])).modify 3 (Jz #[.int .u8 0, .int .u8 1, .int .u8 56, .int .u8 2, .int .u8 57, .int .u8 49, .int .u8 28, .int .u8 3, .int .u8 61, .int .u8 58, .int .u8 42, .int .u8 50, .int .u8 38, .int .u8 29, .int .u8 17, .int .u8 4, .int .u8 62, .int .u8 47, .int .u8 59, .int .u8 36, .int .u8 45, .int .u8 43, .int .u8 51, .int .u8 22, .int .u8 53, .int .u8 39, .int .u8 33, .int .u8 30, .int .u8 24, .int .u8 18, .int .u8 12, .int .u8 5, .int .u8 63, .int .u8 55, .int .u8 48, .int .u8 27, .int .u8 60, .int .u8 41, .int .u8 37, .int .u8 16, .int .u8 46, .int .u8 35, .int .u8 44, .int .u8 21, .int .u8 52, .int .u8 32, .int .u8 23, .int .u8 11, .int .u8 54, .int .u8 26, .int .u8 40, .int .u8 15, .int .u8 34, .int .u8 20, .int .u8 31, .int .u8 10, .int .u8 25, .int .u8 14, .int .u8 19, .int .u8 9, .int .u8 13, .int .u8 8, .int .u8 7, .int .u8 6]) }
theorem gn : Tryd.prog.globalNamed "internal/strconv.uint64pow10" = some 0 := by kernel_rfl
theorem tab_of {W : World} (h : laidMetH Tryd.prog Rows.typesTextsRow.laid W) : Q.qO W.heap.size W := by
  refine Lib.tabBelow_of_tabIs ?_
  have h2 := laidMetH.filter (fun x => x.1 == "internal/strconv.uint64pow10") h
  have h3 : laidMet Tryd.prog [("internal/strconv.uint64pow10", Lib.tabData .u64 Lib.pow10Tab)] W := h2
  exact Lib.tabIs_of_head gn (t := 122) (e := 107) (n := 20) (by kernel_rfl) (by kernel_rfl) (by kernel_rfl) (by kernel_rfl) (by kernel_rfl) h3
end Go.Proofs.YtggelekooacmnaaDoor
-- sP, where what it reads is of bulk at most 1048576: the row and its tied card
namespace Go.Proofs.YtggelekooacmnaaDoor.OP
open Go.ChangeShapes Go.WideShapes Go.ChangeAt Go.RowKit
open Go.ChangeMaps (open_string shut_string)
set_option linter.unusedVariables false
theorem own : ownKnob Tryd.prog.godebug = none := by kernel_rfl
theorem laidOut : laidOutB Tryd.prog = true := by kernel_rfl
set_option maxRecDepth 100000 in
theorem bulks {H : Type} {d0 d1 : DataW H} (h : Rows.uptoSmall H [d0, d1] = true) : Rows.uptoBulk d0 ≤ 1048576 ∧ Rows.uptoBulk d1 ≤ 1048576 := by
  have h2 : Rows.uptoBulkAll [d0, d1] ≤ 1048576 := of_decide_eq_true h
  simp only [Rows.uptoBulkAll] at h2
  omega
set_option maxRecDepth 100000 in
theorem contract (H : Type) (enc : TypeId × Value → H) (W : World) (base : Nat) (args : Array Value) (ds gs : List (DataW H)) (before : List MemPlace)
    (hval0 : ∀ (j : Nat) t v, Tryd.f7.params[j]? = some t → args[j]? = some v → Value.okWide Tryd.prog W .any base t v)
    (hW : DataW.Whole enc Tryd.prog Tryd.f7.params.toList Rows.typesRawSpec.vars false W args.toList ds gs before) (hL : laidMetH Tryd.prog Rows.typesRawUptoRow.laid W) (hk : Rows.uptoSmall H (ds ++ gs) = true) :
    Calls Tryd.prog 7 args W fun e W' => ∃ v, e = .returned v ∧ Rows.typesRawSpec.post enc Tryd.prog Tryd.f7 false true false false W args v W' := by
  have hval := hval0
  have hW' := hW
  obtain ⟨p, q, hA0, hV, rfl, hfz, hnd⟩ := hW
  have hA : DataW.TrodAll enc Tryd.prog W 0 (fun _ => true) true Tryd.f7.params.toList args.toList ds p := hA0
  rw [Tryd.params7] at hA hval
  obtain ⟨v0, vs0, d0, ds0, p0, q0, hargs, rfl, rfl, h0, r0⟩ := trodAll_cons hA
  obtain ⟨v1, vs1, d1, ds1, p1, q1, hargs1, rfl, rfl, h1, r1⟩ := trodAll_cons r0
  obtain ⟨rfl, rfl, rfl⟩ := trodAll_nil r1
  subst hargs1
  obtain rfl : args = #[v0, v1] := by cases args; simp_all
  obtain ⟨rfl, rfl⟩ := trodVars_none hV
  obtain ⟨cs0, rfl, _⟩ := okWide_struct Tryd.underlying24 (hval 0 24 v0 rfl rfl)
  obtain ⟨cs1, rfl, _⟩ := okWide_struct Tryd.underlying24 (hval 1 24 v1 rfl rfl)
  have k0 := h0
  have k1 := h1
  have lt0 : ∀ x ∈ p0, x.block < W.heap.size := by obtain ⟨m, hm⟩ := k0; exact DataW.trod_lt m _ _ _ hm
  have lt1 : ∀ x ∈ p1, x.block < W.heap.size := by obtain ⟨m, hm⟩ := k1; exact DataW.trod_lt m _ _ _ hm
  simp only [List.append_nil] at hW' hk
  obtain ⟨b0, b1⟩ := bulks hk
  obtain ⟨m0, g0⟩ := h0
  obtain ⟨m1, g1⟩ := h1
  obtain ⟨s, A, c, e0, l0, C0, B0⟩ := Q.Ob m0 g0
  obtain ⟨u, A2, c2, e1, l1, C1, B1⟩ := Q.Ob m1 g1
  obtain rfl : cs0 = #[.int .i64 s.f0, .int .i64 s.f1, .int .i64 s.f2, .int .i64 s.f3, .slice A s.f4.length c] := by
    have e : cs0.toList = _ := e0
    cases cs0; simpa using e
  obtain rfl : cs1 = #[.int .i64 u.f0, .int .i64 u.f1, .int .i64 u.f2, .int .i64 u.f3, .slice A2 u.f4.length c2] := by
    have e : cs1.toList = _ := e1
    cases cs1; simpa using e
  obtain ⟨k, hr⟩ := Pure.raw_ev (n := Rows.uptoBulk d0) (m := Rows.uptoBulk d1) (by omega) (by omega) B0 B1
  clear hA0 hval0
  refine (Q.bB.calls k _ _ _ _ _ _ _ _ _ _ _ _ _ _ true W C0 l0 C1 l1 hr (tab_of hL)).mono fun e W' ⟨he, bel⟩ => ?_
  subst he
  exact ⟨_, rfl, _, _, _, [], _, [], hW', trodAll_mk1 (shut_bool Tryd.underlying4 _), (trodAll_cons_mk (Below.trod laidOut (by kernel_rfl) (of_decide_eq_true (by kernel_rfl)) k0 bel lt0) (trodAll_cons_mk (Below.trod laidOut (by kernel_rfl) (of_decide_eq_true (by kernel_rfl)) k1 bel lt1) trodAll_mk0)), rfl, bel.frame _, fun h => by cases h⟩
abbrev Z : Value := .agg #[.int .i64 0, .int .i64 0, .int .i64 0, .int .i64 0, .slice none 0 0]
theorem reads (os : Os) {H : Type} (enc : TypeId × Value → H) : ∃ places, DataW.whole enc Tryd.prog ((Oc os).forCall (fun _ _ => 0) ⟨#[], #[Z, Z], []⟩).memory Tryd.f7.params.toList Rows.typesRawSpec.vars false #[Z, Z].toList 8 = some ([.agg [.lit (.int .i64 0), .lit (.int .i64 0), .lit (.int .i64 0), .lit (.int .i64 0), .nil], .agg [.lit (.int .i64 0), .lit (.int .i64 0), .lit (.int .i64 0), .lit (.int .i64 0), .nil]], [], places) :=
  ⟨[], by kernel_rfl⟩
set_option maxRecDepth 100000 in
theorem lifted (os : Os) (started : os.Started) (H : Type) (enc : TypeId × Value → H) (F : Stop.Interp) :
    ReturnsInHanded {} Tryd.checked os 7 .any ((Rows.OpenSpec.upto Rows.typesRawSpec).preRow enc Tryd.prog Tryd.f7 Rows.typesRawUptoRow.domain false Rows.typesRawUptoRow.laid) (((Rows.OpenSpec.upto Rows.typesRawSpec).at F).post enc Tryd.prog Tryd.f7 false true false false) := by
  obtain ⟨places, hx⟩ := reads os enc
  refine returnsInHanded_of_row (C := Tryd.checked) (s := Rows.OpenSpec.upto Rows.typesRawSpec) own started (by kernel_rfl) Tryd.func7
    (witness_row_at (enc := enc) (C := Tryd.checked) false (Oc os) #[Z, Z] rfl (by kernel_rfl) (by kernel_rfl) (by kernel_rfl)
      (OpenSpec.preRow_of_cond 8 hx (by kernel_rfl) (fun k hk => by cases hk; kernel_rfl) (by kernel_rfl) (laidMet_of_run' 8 (by kernel_rfl) (by kernel_rfl)))) ?_
  intro W base args ds gs before hval hW _ hcond _ hL _ _
  exact contract H enc W base args ds gs before hval hW hL (hcond _ rfl)
theorem proved : Rows.TypesRawUptoSaid :=
  OpenClaim.holds_of_cond 7 Tryd.f7 rfl rfl rfl rfl rfl rfl rfl ⟨rfl, rfl, rfl, rfl, rfl⟩ rfl rfl rfl rfl rfl (by kernel_rfl) Tryd.func7 (by kernel_rfl)
    (of_decide_eq_true (by kernel_rfl)) (by unfold Func.isWrapper; first | (rw [if_pos (by decide +kernel)]; kernel_rfl) | (rw [if_neg (by decide +kernel)]; exact ⟨rfl, rfl⟩))
    (fun os started H enc _ F => by rw [OpenClaim.pre_eq_preRow]; exact lifted os started H enc F)
/-- ████ THE TIED CARD. -/
theorem card : Rows.TypesRawUptoCardSaid :=
  Claim7.holds_tied_plain_at .later [] [.data, .data, .data] true (true, "4e8de8695c59d13636a767760eaef530e180d2755aa88612d97a0a3957423fd2") false
    proved (fun _ h => by cases h) (by kernel_rfl) (fun _ h => by cases h) typesRawUpto_row_tie rfl ⟨rfl, rfl⟩ (by kernel_rfl) rfl
    (fun f fn hf hfn => by
      obtain rfl : f = 7 := Option.some.inj ((show Tryd.prog.funcNamed "exactppl/exactppllaw06.TypesRaw" = some 7 by kernel_rfl).symm.trans hf) |>.symm
      obtain rfl : fn = Tryd.f7 := (Option.some.inj (Tryd.func7.symm.trans hfn)).symm
      exact ⟨by kernel_rfl, fun j t ht => by
        rw [Tryd.params7] at ht
        rcases j with _ | _ | j
        · obtain rfl : t = 24 := by simpa using ht.symm
          exact (show Tryd.prog.wantsStandIn 24 = false by kernel_rfl)
        · obtain rfl : t = 24 := by simpa using ht.symm
          exact (show Tryd.prog.wantsStandIn 24 = false by kernel_rfl)
        · simp at ht⟩)
    (by kernel_rfl)
end Go.Proofs.YtggelekooacmnaaDoor.OP
namespace Go.Proofs.YtggelekooacmnaaDoor
/-- The card, under a short name, for the claim. -/
theorem typesRawUptoCard_holds : Rows.TypesRawUptoCardSaid := OP.card
end Go.Proofs.YtggelekooacmnaaDoor
