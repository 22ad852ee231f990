-- core.within and its closure: what they hand back
import Derived.Test.YtdijehgibejflaaEv
import Derived.OneCell
import Derived.Laws.EntriesVeiled
namespace Go.Proofs.Ytdijehgibejflaa.K
open Go.RowKit Go.Shelf Go.Proofs.YtdijehgibejflaaW.PrintWords Go.Proofs.YtdijehgibejflaaW.PrintLast
attribute [local go_sem] Oper.semAt_some
set_option linter.unusedVariables false
set_option maxRecDepth 100000 in
set_option maxHeartbeats 4000000 in
theorem seq_in (F : Fence) (hd : F.depth = none) (h34 : F.fn 34) (h35 : F.fn 35) (hro : F.round = none) (n l E : Nat) (w : World) (Lv Fb : Nat) (hLE : Lv ≠ E) (x : S32) (hsm : sml 200 x)
    (A3 : Option Addr) (c3 : Nat) (A4 : Option Addr) (c4 : Nat) (A5 : Option Addr) (c5 : Nat) (hc5 : x.f3.length ≤ c5) (hK : k32.C w A5 x.f3.length x.f3) (J Jx : List Al → World → Prop)
    (hJ : ∀ s A B, J s A → A.grownBy B none → J s B)
    (hY : ∀ pre (x' : Al) W, J pre W → pre.length < (wk 200 x).length → YieldAt F (n - 1) Try.prog l #[x'.1.2] W fun e W' =>
      (e = .returned (.bool true) ∧ J (pre ++ [x']) W' ∧ Kp w.heap.size E W W') ∨ (e = .returned (.bool false) ∧ Jx (pre ++ [x']) W'))
    (W : World) (hw : Below w.heap.size w W) (hEW : E < W.heap.size) (hl : W.heap[Lv]? = some (.cells #[.int .i64 200] 3 (0, 0)))
    (hf : W.heap[Fb]? = some (.cells #[.int .i64 x.f0, .int .i64 x.f1, .bool x.f2.f0, .slice A3 x.f2.f1.length c3, .slice A4 x.f2.f2.length c4, .slice A5 x.f3.length c5] 32 (0, 0))) (h0 : J [] W) :
    CallsIn F n Try.prog 34 #[.func (.yield l) #[] #[], .pointer (some ⟨Lv, 0, none⟩), .pointer (some ⟨Fb, 0, none⟩)] W fun e W' => (∃ v, e = .returned v) ∧
      ((∃ ys : List Al, ys.map (·.1.1) = wk 200 x ∧ J ys W') ∨ (∃ pre : List Al, pre.map (·.1.1) <+: wk 200 x ∧ Jx pre W')) := by
  have hdd : ∀ k : Nat, (F.depth.isSome = true → 1 ≤ k) := fun k h => by rw [hd] at h; cases h
  have hLW : Lv < W.heap.size := (Array.getElem?_eq_some_iff.1 hl).1
  obtain ⟨list, hlist, hcall⟩ := walk_in F hd h35 hro l E (wk 200 x).length w Lv W.heap.size (W.heap.size + 1) ⟨hLE, by omega, by omega⟩ J Jx hJ (fun m pre x' W h1 h2 => ev_yieldAny hd m (hY pre x' W h1 h2)) 200 x _ hsm ⟨A3, c3, A4, c4, A5, c5, rfl, hc5, hK⟩
  have hlen : list.length = (wk 200 x).length := by rw [← hlist, List.length_map]
  obtain ⟨o1, ho1⟩ : ∃ o1, o1 = (Obj.cells #[.func (.yield l) #[] #[]] 60) := ⟨_, rfl⟩
  obtain ⟨o2, ho2⟩ : ∃ o2, o2 = (Obj.cells #[.func (.func 35) #[] #[.pointer (some ⟨Lv, 0, none⟩), .pointer (some ⟨W.heap.size, 0, none⟩), .pointer (some ⟨W.heap.size + 1, 0, none⟩)]] 70) := ⟨_, rfl⟩
  obtain ⟨W2, hW2⟩ : ∃ W2, W2 = (W.alloc o1).alloc o2 := ⟨_, rfl⟩
  have hB : Below W.heap.size W W2 := by rw [hW2]; exact ((Below.refl _ W).alloc (Nat.le_refl _) _).alloc (by simp) _
  have hB2 : Below (W.heap.size + 1) (W.alloc o1) W2 := by rw [hW2]; exact (Below.refl _ _).alloc (by simp) _
  have hn1 : W2.heap[W.heap.size + 1]? = some (.cells #[.func (.func 35) #[] #[.pointer (some ⟨Lv, 0, none⟩), .pointer (some ⟨W.heap.size, 0, none⟩), .pointer (some ⟨W.heap.size + 1, 0, none⟩)]] 70 (0, 0)) := by
    have := World.alloc_heap_new (W.alloc o1) o2
    rw [World.size_alloc] at this
    rw [hW2, this, ho2]
  have hfw : ∀ j u, (#[Value.int .i64 x.f0, .int .i64 x.f1, .bool x.f2.f0, .slice A3 x.f2.f1.length c3, .slice A4 x.f2.f2.length c4, .slice A5 x.f3.length c5] : Array Value)[j]? = some u → W2.cell? ⟨Fb, j, none⟩ = some u := by
    intro j u hj
    have := (hB.block Fb (Array.getElem?_eq_some_iff.1 hf).1).trans hf
    simp [World.cell?, this, hj]
  have q0 := hfw 0 _ rfl
  have q1 := hfw 1 _ rfl
  have q2 := hfw 2 _ rfl
  have q3 := hfw 3 _ rfl
  have q4 := hfw 4 _ rfl
  have q5 := hfw 5 _ rfl
  clear hfw
  have hp := hcall (n - 1) 1 [] W2 (by omega) (by omega) (hw.trans (hB.mono hw.size)) (Nat.lt_of_lt_of_le hEW hB.size)
    ⟨(hB.block Lv hLW).trans hl, (hB2.block W.heap.size (by omega)).trans ((World.alloc_heap_new W o1).trans (by rw [ho1])), hn1⟩ (hJ _ _ _ h0 (grown_of_below hB)) (by simp [hlen])
  clear hcall
  subst hW2 ho1 ho2
  refine callsIn_of_wp Try.func34 rfl h34 ?_ hro
  simp only [Try.ntmps34, List.size_toArray, List.length_cons, List.length_nil, Nat.reduceAdd, Nat.reduceSub, Array.replicate_succ, Array.replicate_zero, List.push_toArray, List.append_toArray, List.nil_append, List.cons_append]
  gi_wp2_with ((try refine ⟨hdd _, ?_⟩); gi_at_call 35; refine hp.mono ?_; clear hp; rintro e W1 (⟨rfl, hJ1, _⟩ | ⟨rfl, q, hq, hx⟩))
  · go_end0
    exact ⟨⟨_, rfl⟩, .inl ⟨_, hlist, by simpa using hJ1⟩⟩
  · go_end0
    exact ⟨⟨_, rfl⟩, .inr ⟨q, by rw [← hlist]; exact hq.map _, by simpa using hx⟩⟩
/-- core.within: the form and the level are boxed; the function value captures the boxes. -/
theorem within_in (F : Fence) (n : Nat) (h23 : F.fn 23) (hro : F.round = none) (a0 a1 : Int) (b : Bool) (v3 v4 v5 : Value) (w : World) :
    CallsIn F n Try.prog 23 #[.agg #[.int .i64 a0, .int .i64 a1, .bool b, v3, v4, v5], .int .i64 200] w fun e w' => e = .returned (.func (.func 34) #[] #[.pointer (some ⟨w.heap.size + 1, 0, none⟩), .pointer (some ⟨w.heap.size, 0, none⟩)]) ∧
      w' = (w.alloc (.cells #[.int .i64 a0, .int .i64 a1, .bool b, v3, v4, v5] 32)).alloc (.cells #[.int .i64 200] 3) := by
  refine callsIn_of_wp Try.func23 rfl h23 ?_ hro
  simp only [Try.ntmps23, List.size_toArray, List.length_cons, List.length_nil, Nat.reduceAdd, Nat.reduceSub, Array.replicate_succ, Array.replicate_zero, List.push_toArray, List.append_toArray, List.nil_append, List.cons_append]
  gi_wp2
  go_ret
  exact ⟨rfl, rfl⟩
end Go.Proofs.Ytdijehgibejflaa.K
