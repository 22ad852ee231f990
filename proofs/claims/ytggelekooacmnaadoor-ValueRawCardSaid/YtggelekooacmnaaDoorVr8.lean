/- Lemmas for: rf -/
import Derived.Test.YtggelekooacmnaaDoorRows
import Derived.ChangeSlices
import Derived.SizedLaws
import Derived.Test.YtggelekooacmnaaDoorVr2
-- api.Type and api.Value parameters, opened: trees that are read
namespace Go.Proofs.YtggelekooacmnaaDoor.Q
open Go.RowKit Go.ChangeShapes Go.Proofs.YtggelekooacmnaaDoorW.aQ Go.Proofs.YtggelekooacmnaaDoorW.bH Go.Proofs.YtggelekooacmnaaDoorW.bL
set_option linter.unusedVariables false
theorem Pn (a : Addr) (i j : Nat) : (a.add i).add j = a.add (i + j) := by
  by_cases h0 : i = 0 <;> by_cases h1 : j = 0 <;> simp [Addr.add, h0, h1, Nat.add_assoc]
set_option maxRecDepth 100000 in
theorem Vw {H : Type} {enc : TypeId × Value → H} {w : World} {base : Nat} {spare : Nat → Bool} {held : Bool} (fuel : Nat) : ∀ {cs : List Value} {x : DataW H × List MemPlace}, DataW.trod enc Tryd.prog w base spare held fuel 24 cs = some x →
    ∃ (s : S24) (A : Option Addr) (c : Nat), cs = [.int .i64 s.f0, .int .i64 s.f1, .int .i64 s.f2, .int .i64 s.f3, .slice A s.f4.length c] ∧ s.f4.length ≤ c ∧ Kd.C k24 w A s.f4.length s.f4 := by
  induction fuel using Nat.strongRecOn with
  | _ fuel ih =>
  intro cs x h
  obtain ⟨xs, m, hm, hx, hl, hlen, hf⟩ := DataW.trod_struct Tryd.underlying24 h
  subst hm hx
  have h5 : Tryd.prog.cellsOf 24 = 5 := by kernel_rfl
  have c3 : Tryd.prog.cellsOf 3 = 1 := by kernel_rfl
  have c22 : Tryd.prog.cellsOf 22 = 1 := by kernel_rfl
  rw [h5] at hl
  match cs, hl with
  | [u0, u1, u2, u3, u4], _ =>
  replace hlen : xs.length = 5 := hlen
  match xs, hlen with
  | [y0, y1, y2, y3, y4], _ =>
  have f0 : DataW.trod enc Tryd.prog w base spare held m 3 (([u0, u1, u2, u3, u4].drop 0).take (Tryd.prog.cellsOf 3)) = some y0 := hf 0 _ rfl
  have f1 : DataW.trod enc Tryd.prog w base spare held m 3 (([u0, u1, u2, u3, u4].drop 1).take (Tryd.prog.cellsOf 3)) = some y1 := hf 1 _ rfl
  have f2 : DataW.trod enc Tryd.prog w base spare held m 3 (([u0, u1, u2, u3, u4].drop 2).take (Tryd.prog.cellsOf 3)) = some y2 := hf 2 _ rfl
  have f3 : DataW.trod enc Tryd.prog w base spare held m 3 (([u0, u1, u2, u3, u4].drop 3).take (Tryd.prog.cellsOf 3)) = some y3 := hf 3 _ rfl
  have f4 : DataW.trod enc Tryd.prog w base spare held m 22 (([u0, u1, u2, u3, u4].drop 4).take (Tryd.prog.cellsOf 22)) = some y4 := hf 4 _ rfl
  rw [c3] at f0 f1 f2 f3
  rw [c22] at f4
  obtain ⟨n0, e0, _, w0⟩ := DataW.trod_int Tryd.underlying3 f0
  obtain ⟨n1, e1, _, w1⟩ := DataW.trod_int Tryd.underlying3 f1
  obtain ⟨n2, e2, _, w2⟩ := DataW.trod_int Tryd.underlying3 f2
  obtain ⟨n3, e3, _, w3⟩ := DataW.trod_int Tryd.underlying3 f3
  obtain rfl : u0 = .int .i64 n0 := by simpa using e0
  obtain rfl : u1 = .int .i64 n1 := by simpa using e1
  obtain rfl : u2 = .int .i64 n2 := by simpa using e2
  obtain rfl : u3 = .int .i64 n3 := by simpa using e3
  rcases DataW.trod_slice Tryd.underlying22 f4 with ⟨e4, _⟩ | ⟨a, len, cap, elems, rest, n, hn, e4, hx4, hb, hlc, hm, hel, hee, _, _⟩
  · obtain rfl : u4 = .slice none 0 0 := by simpa using e4
    refine ⟨⟨n0, n1, n2, n3, []⟩, none, 0, rfl, Nat.le_refl _, Kd.C_nil _ w⟩
  · obtain rfl : u4 = .slice (some a) len cap := by simpa using e4
    have each : ∀ i, ∃ s : S24, i < len → (∃ c, c.length = 5 ∧ k24.K w s c ∧ ∀ j u, c[j]? = some u → w.cell? (a.add (i * 5 + j)) = some u) := by
      intro i
      by_cases hi : i < len
      · have he := hee i hi
        rw [List.getElem?_eq_getElem (by omega), h5, Option.bind_eq_some_iff] at he
        obtain ⟨c, hc, hy⟩ := he
        obtain ⟨s, A, cc, hcs, hsl, hC⟩ := ih n (by omega) hy
        obtain ⟨_, _, hcc⟩ := World.cells?_some hc
        refine ⟨s, fun _ => ⟨c, by rw [hcs]; rfl, by rw [hcs]; exact k24_mk w s hsl hC, fun j u hj => ?_⟩⟩
        have hj5 : j < 5 := by have := (List.getElem?_eq_some_iff.1 hj).1; rw [hcs] at this; exact this
        rw [← Pn, hcc j hj5, hj]
      · exact ⟨z24, fun hh => absurd hh hi⟩
    obtain ⟨g, hg⟩ := Classical.axiomOfChoice each
    have hz : ((List.range len).map g).length = len := by simp
    have hml : cap ≤ 9223372036854775807 := hm
    refine ⟨⟨n0, n1, n2, n3, (List.range len).map g⟩, some a, cap, ?_, ?_, ⟨rfl, ?_, fun _ => ⟨a, rfl, fun j p hj => ?_⟩⟩⟩
    · show [Value.int .i64 n0, .int .i64 n1, .int .i64 n2, .int .i64 n3, .slice (some a) len cap] = [.int .i64 n0, .int .i64 n1, .int .i64 n2, .int .i64 n3, .slice (some a) ((List.range len).map g).length cap]
      rw [hz]
    · show ((List.range len).map g).length ≤ cap; omega
    · show ((List.range len).map g).length ≤ _; omega
    · have hj2 : ((List.range len).map g)[j]? = some p := hj
      have hjl : j < len := by have := (List.getElem?_eq_some_iff.1 hj2).1; omega
      obtain rfl : g j = p := by simpa [hjl] using hj2
      exact hg j hjl
set_option maxRecDepth 100000 in
theorem QX {H : Type} {enc : TypeId × Value → H} {w : World} {base : Nat} {spare : Nat → Bool} {held : Bool} (fuel : Nat) : ∀ {cs : List Value} {x : DataW H × List MemPlace}, DataW.trod enc Tryd.prog w base spare held fuel 51 cs = some x →
    ∃ (s : S51) (A : Option Addr) (c : Nat), cs = [.int .i64 s.f0, .slice A s.f1.length c] ∧ s.f1.length ≤ c ∧ Kd.C k51 w A s.f1.length s.f1 ∧ s.f0 ≤ 9223372036854775807 := by
  induction fuel using Nat.strongRecOn with
  | _ fuel ih =>
  intro cs x h
  obtain ⟨xs, m, hm, hx, hl, hlen, hf⟩ := DataW.trod_struct Tryd.underlying51 h
  subst hm hx
  have h5 : Tryd.prog.cellsOf 51 = 2 := by kernel_rfl
  have c3 : Tryd.prog.cellsOf 3 = 1 := by kernel_rfl
  have c49 : Tryd.prog.cellsOf 49 = 1 := by kernel_rfl
  rw [h5] at hl
  match cs, hl with
  | [u0, u1], _ =>
  replace hlen : xs.length = 2 := hlen
  match xs, hlen with
  | [y0, y1], _ =>
  have f0 : DataW.trod enc Tryd.prog w base spare held m 3 (([u0, u1].drop 0).take (Tryd.prog.cellsOf 3)) = some y0 := hf 0 _ rfl
  have f4 : DataW.trod enc Tryd.prog w base spare held m 49 (([u0, u1].drop 1).take (Tryd.prog.cellsOf 49)) = some y1 := hf 1 _ rfl
  rw [c3] at f0
  rw [c49] at f4
  obtain ⟨n0, e0, _, w0⟩ := DataW.trod_int Tryd.underlying3 f0
  obtain rfl : u0 = .int .i64 n0 := by simpa using e0
  have hn0 : n0 ≤ 9223372036854775807 := by
    have h9 := w0
    simp [Lit.wf, IntKind.max, IntKind.min, IntKind.signed, IntKind.bits] at h9
    omega
  rcases DataW.trod_slice Tryd.underlying49 f4 with ⟨e4, _⟩ | ⟨a, len, cap, elems, rest, n, hn, e4, hx1, hb, hlc, hm, hel, hee, _, _⟩
  · obtain rfl : u1 = .slice none 0 0 := by simpa using e4
    refine ⟨⟨n0, []⟩, none, 0, rfl, Nat.le_refl _, Kd.C_nil _ w, hn0⟩
  · obtain rfl : u1 = .slice (some a) len cap := by simpa using e4
    have each : ∀ i, ∃ s : S51, i < len → (∃ c, c.length = 2 ∧ k51.K w s c ∧ ∀ j u, c[j]? = some u → w.cell? (a.add (i * 2 + j)) = some u) := by
      intro i
      by_cases hi : i < len
      · have he := hee i hi
        rw [List.getElem?_eq_getElem (by omega), h5, Option.bind_eq_some_iff] at he
        obtain ⟨c, hc, hy⟩ := he
        obtain ⟨s, A, cc, hcs, hsl, hC, _⟩ := ih n (by omega) hy
        obtain ⟨_, _, hcc⟩ := World.cells?_some hc
        refine ⟨s, fun _ => ⟨c, by rw [hcs]; rfl, by rw [hcs]; exact k51_mk w s hsl hC, fun j u hj => ?_⟩⟩
        have hj5 : j < 2 := by have := (List.getElem?_eq_some_iff.1 hj).1; rw [hcs] at this; exact this
        rw [← Pn, hcc j hj5, hj]
      · exact ⟨z51, fun hh => absurd hh hi⟩
    obtain ⟨g, hg⟩ := Classical.axiomOfChoice each
    have hz : ((List.range len).map g).length = len := by simp
    have hml : cap ≤ 9223372036854775807 := hm
    refine ⟨⟨n0, (List.range len).map g⟩, some a, cap, ?_, ?_, ⟨rfl, ?_, fun _ => ⟨a, rfl, fun j p hj => ?_⟩⟩, hn0⟩
    · show [Value.int .i64 n0, .slice (some a) len cap] = [.int .i64 n0, .slice (some a) ((List.range len).map g).length cap]
      rw [hz]
    · show ((List.range len).map g).length ≤ cap; omega
    · show ((List.range len).map g).length ≤ _; omega
    · have hj2 : ((List.range len).map g)[j]? = some p := hj
      have hjl : j < len := by have := (List.getElem?_eq_some_iff.1 hj2).1; omega
      obtain rfl : g j = p := by simpa [hjl] using hj2
      exact hg j hjl
theorem open_row {a0 : Option Addr} {len0 cap0 : Nat} {z0 : List Int} {w : World} (w0 : (a0 = none ∧ len0 = 0 ∧ cap0 = 0 ∧ z0 = []) ∨ ∃ x, a0 = some x ∧ len0 ≤ cap0 ∧ cap0 ≤ maxLen ∧ z0.length = cap0 ∧ (∀ i, i < z0.length → w.cell? (x.add i) = some (.int .i64 (z0.getD i 0))) ∧ ∀ n ∈ z0, (Lit.int .i64 n).wf = true) : ∃ l : List Int, len0 = l.length ∧ l.length ≤ cap0 ∧ Kd.C (Kd.int .i64) w a0 l.length l := by
  obtain ⟨l0, rfl, hr0, hm0, hw0, hc0⟩ := lH.ofRowC w0
  exact ⟨l0, rfl, hc0, Kd.Gc (d := (0 : Int)) (h1 := fun _ => rfl) hr0⟩
end Go.Proofs.YtggelekooacmnaaDoor.Q
namespace Go.Proofs.YtggelekooacmnaaDoorW.aQ
open Go.ChangeShapes Go.WideShapes
end Go.Proofs.YtggelekooacmnaaDoorW.aQ
