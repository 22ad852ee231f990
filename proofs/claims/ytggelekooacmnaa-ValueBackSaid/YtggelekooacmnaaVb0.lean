import Derived.Test.YtggelekooacmnaaProg
import Derived.Below
import Derived.Deep.Draws
import Derived.Deep.AppendLies
import Derived.Maps.AppendAt
import Derived.OwnWalk
import Derived.Laws.BytesArg
import Derived.Laws.MakeOwn
import Derived.Laws.OwnMore
import Derived.Deep.OwnRows
import Derived.Tactics
import Derived.Lib.ConvBytes
import Derived.Laws.Slices
import Derived.WalkKit
import Derived.KernelRfl
import Derived.RowKit3
import Derived.Deep.LoopGhost
import Derived.Deep.QuietTactic
import Derived.BigQuiet
import Derived.WideLaws
import Derived.Deep.DeepCutAuto
import Derived.Deep.CutBlock
import Derived.Deep.RegionHeld3
import Derived.Laws.Rows
import Derived.Lib.AppendStr
import Derived.ArgAppend
import Derived.Laws.IdiomCopy
import Derived.OrdersHeld
import Derived.Laws.BitsLemmas
import Derived.RowKit
import Derived.Test.YtggelekooacmnaaVbw
namespace Go.Proofs.Ytggelekooacmnaa.Q
open Go.RowKit Go.Proofs.YtggelekooacmnaaW.bS Go.Proofs.YtggelekooacmnaaW.eQ Go.Proofs.YtggelekooacmnaaW.jY
attribute [local go_sem] lN lQ nz nA kE kF lS lT   -- for this text's walks alone
set_option linter.unusedVariables false
set_option linter.unusedSimpArgs false
def errW : Option Int → Value
  | none => .nilIface
  | some c => .iface 0 (.int .i64 c)
theorem lC : errW none = .nilIface := rfl
theorem lD (c : Int) : errW (some c) = .iface 0 (.int .i64 c) := rfl
theorem info3 : (Try.prog.info? 3).map (fun i => (i.zero, i.size, i.bytes)) = some (some (.int .i64 0), 1, 8) := by kernel_rfl
theorem info27 : (Try.prog.info? 27).map (fun i => (i.zero, i.size, i.bytes)) = some (some (.agg #[(.int .i64 0), (.int .i64 0), (.int .i64 0), (.int .i64 0), (.slice none 0 0)]), 5, 56) := by kernel_rfl
theorem Ll : (Try.prog.info? 31).map (fun i => (i.zero, i.size, i.bytes)) = some (some (.agg #[(.int .i64 0), (.slice none 0 0)]), 2, 32) := by kernel_rfl
theorem info44 : (Try.prog.info? 44).map (fun i => (i.zero, i.size, i.bytes)) = some (some (.agg #[(.int .i64 0), (.int .i64 0), (.int .i64 0)]), 3, 24) := by kernel_rfl
structure S27 where
  f0 : Int
  f1 : Int
  f2 : Int
  f3 : Int
  f4 : (List S27)
def z27 : S27 := ⟨(0 : Int), (0 : Int), (0 : Int), (0 : Int), ([] : List S27)⟩
def F27 (d : Kd S27) : Kd S27 := Kd.iso (Kd.pair (Kd.int .i64) (Kd.pair (Kd.int .i64) (Kd.pair (Kd.int .i64) (Kd.pair (Kd.int .i64) (Kd.slice 27 d))))) (fun x : S27 => (x.f0, x.f1, x.f2, x.f3, x.f4))
theorem Q0 : Kd.yZ F27 := Kd.WM _ (Kd.H6 (Kd.E9 _) (Kd.H6 (Kd.E9 _) (Kd.H6 (Kd.E9 _) (Kd.H6 (Kd.E9 _) (Kd.Q3 27 Kd.XB)))))
theorem sub27 : Kd.Sub F27 [27] := Kd.XC _ (Kd.Ka (Kd.sub_const _ (by decide)) (Kd.Ka (Kd.sub_const _ (by decide)) (Kd.Ka (Kd.sub_const _ (by decide)) (Kd.Ka (Kd.sub_const _ (by decide)) (Kd.Wo 27 (by decide) Kd.sub_id)))))
theorem sz27 : ∀ n, (Kd.upto F27 5 [27] n).sz = 5 := Kd.XD (fun _ => rfl)
def k27 : Kd S27 := Kd.fix F27 5 [27] sz27 (Kd.WN sub27)
theorem Dw : Kd.Heap k27 := Kd.heap_fix (fun _ h_ => Kd.heap_iso _ (Kd.KS (Kd.za .i64) (Kd.KS (Kd.za .i64) (Kd.KS (Kd.za .i64) (Kd.KS (Kd.za .i64) (Kd.ZW 27 h_))))))
theorem QJ {w : World} {x : S27} {cs : List Value} (h : k27.K w x cs) : ∃ A4 c4, cs = [.int .i64 x.f0, .int .i64 x.f1, .int .i64 x.f2, .int .i64 x.f3, .slice A4 x.f4.length c4] ∧ x.f4.length ≤ c4 ∧ k27.C w A4 x.f4.length x.f4 := by
  obtain ⟨n, h⟩ := h; cases n with
  | zero => exact h.elim
  | succ n =>
    obtain ⟨_, _, rfl, rfl, ⟨_, _, rfl, rfl, ⟨_, _, rfl, rfl, ⟨_, _, rfl, rfl, ⟨A4, c4, rfl, l4, g4⟩⟩⟩⟩⟩ := h; exact ⟨A4, c4, rfl, l4, Kd.fix_C g4⟩
theorem k27_mk (w : World) (x : S27) {A4 : Option Addr} {c4 : Nat} (l4 : x.f4.length ≤ c4) (g4 : k27.C w A4 x.f4.length x.f4) : k27.K w x [.int .i64 x.f0, .int .i64 x.f1, .int .i64 x.f2, .int .i64 x.f3, .slice A4 x.f4.length c4] := by
  obtain ⟨n4, q4⟩ := Kd.ZX Q0 g4; have r4 := Kd.aad Q0 sz27 (show n4 ≤ n4 by omega) q4; exact ⟨n4 + 1, ⟨[.int .i64 x.f0], [.int .i64 x.f1, .int .i64 x.f2, .int .i64 x.f3, .slice A4 x.f4.length c4], rfl, rfl, ⟨[.int .i64 x.f1], [.int .i64 x.f2, .int .i64 x.f3, .slice A4 x.f4.length c4], rfl, rfl, ⟨[.int .i64 x.f2], [.int .i64 x.f3, .slice A4 x.f4.length c4], rfl, rfl, ⟨[.int .i64 x.f3], [.slice A4 x.f4.length c4], rfl, rfl, ⟨A4, c4, rfl, l4, r4⟩⟩⟩⟩⟩⟩
theorem Tv (w : World) (base : Nat) (ok : Nat → Prop) (x : S27) {v4 : Value} (g4 : k27.R 27 w base ok v4 x.f4) : k27.M w base ok x [.int .i64 x.f0, .int .i64 x.f1, .int .i64 x.f2, .int .i64 x.f3, v4] := by
  obtain ⟨n4, q4⟩ := Kd.Q4 Q0 g4; have r4 := Kd.Wp Q0 sz27 (show n4 ≤ n4 by omega) q4; exact ⟨n4 + 1, ⟨[.int .i64 x.f0], [.int .i64 x.f1, .int .i64 x.f2, .int .i64 x.f3, v4], rfl, rfl, ⟨[.int .i64 x.f1], [.int .i64 x.f2, .int .i64 x.f3, v4], rfl, rfl, ⟨[.int .i64 x.f2], [.int .i64 x.f3, v4], rfl, rfl, ⟨[.int .i64 x.f3], [v4], rfl, rfl, ⟨v4, rfl, r4⟩⟩⟩⟩⟩⟩
theorem Wq {W : World} {ok : Nat → Prop} {x : S27} {cs : List Value} (h : Kd.FK k27 W ok x cs) : ∃ A4 c4, cs = [.int .i64 x.f0, .int .i64 x.f1, .int .i64 x.f2, .int .i64 x.f3, .slice A4 x.f4.length c4] ∧ x.f4.length ≤ c4 ∧ Kd.F k27 W ok A4 x.f4.length x.f4 := by
  obtain ⟨A4, c4, rfl, l4, _⟩ := QJ (Kd.Lm h); exact ⟨A4, c4, rfl, l4, (fun W' hW => by obtain ⟨A4_, c4_, he, l4_, g4_⟩ := QJ (h W' hW); injection (Option.some.inj (show some (Value.slice A4 x.f4.length c4) = some (Value.slice A4_ x.f4.length c4_) from congrArg (fun l => l[4]?) he)) with ha_ _ _; rw [ha_]; exact g4_)⟩
theorem XE (W : World) (ok : Nat → Prop) (x : S27) {A4 : Option Addr} {c4 : Nat} (l4 : x.f4.length ≤ c4) (g4 : Kd.F k27 W ok A4 x.f4.length x.f4) : Kd.FK k27 W ok x [.int .i64 x.f0, .int .i64 x.f1, .int .i64 x.f2, .int .i64 x.f3, .slice A4 x.f4.length c4] := fun W2 hW => k27_mk W2 x l4 (g4 W2 hW)
def af (xs : List S27) (i : Int) : S27 := xs.getD i.toNat z27
theorem gp {w : World} {A : Option Addr} {n : Nat} {xs : List S27} (h : Kd.C k27 w A n xs) (i : Int) (h0 : 0 ≤ i) (h1 : i < n) : ∃ ad A4 c4, A = some ad ∧ w.cell? (ad.add (i.toNat * 5)) = some (.int .i64 (af xs i).f0) ∧ w.cell? ⟨(ad.add (i.toNat * 5)).block, (ad.add (i.toNat * 5)).off + 1, none⟩ = some (.int .i64 (af xs i).f1) ∧ w.cell? ⟨(ad.add (i.toNat * 5)).block, (ad.add (i.toNat * 5)).off + 2, none⟩ = some (.int .i64 (af xs i).f2) ∧ w.cell? ⟨(ad.add (i.toNat * 5)).block, (ad.add (i.toNat * 5)).off + 3, none⟩ = some (.int .i64 (af xs i).f3) ∧ w.cell? ⟨(ad.add (i.toNat * 5)).block, (ad.add (i.toNat * 5)).off + 4, none⟩ = some (.slice A4 (af xs i).f4.length c4) ∧ (af xs i).f4.length ≤ c4 ∧ k27.C w A4 (af xs i).f4.length (af xs i).f4 := by
  obtain ⟨ad, c, e, _, hK, hc0⟩ := Kd.Oi h z27 i h0 h1; have hc : ∀ j u, c[j]? = some u → w.cell? (ad.add (i.toNat * 5 + j)) = some u := hc0; obtain ⟨A4, c4, rfl, l4, g4⟩ := QJ hK; exact ⟨ad, A4, c4, e, hc 0 _ rfl, by rw [← wR _ _ 1 (by omega)]; exact hc 1 _ rfl, by rw [← wR _ _ 2 (by omega)]; exact hc 2 _ rfl, by rw [← wR _ _ 3 (by omega)]; exact hc 3 _ rfl, by rw [← wR _ _ 4 (by omega)]; exact hc 4 _ rfl, l4, g4⟩
structure S31 where
  f0 : Int
  f1 : (List S31)
def z31 : S31 := ⟨(0 : Int), ([] : List S31)⟩
def F31 (d : Kd S31) : Kd S31 := Kd.iso (Kd.pair (Kd.int .i64) (Kd.slice 31 d)) (fun x : S31 => (x.f0, x.f1))
theorem mono31 : Kd.yZ F31 := Kd.WM _ (Kd.H6 (Kd.E9 _) (Kd.Q3 31 Kd.XB))
theorem sub31 : Kd.Sub F31 [31] := Kd.XC _ (Kd.Ka (Kd.sub_const _ (by decide)) (Kd.Wo 31 (by decide) Kd.sub_id))
theorem sz31 : ∀ n, (Kd.upto F31 2 [31] n).sz = 2 := Kd.XD (fun _ => rfl)
def k31 : Kd S31 := Kd.fix F31 2 [31] sz31 (Kd.WN sub31)
theorem k31_open {w : World} {x : S31} {cs : List Value} (h : k31.K w x cs) : ∃ A1 c1, cs = [.int .i64 x.f0, .slice A1 x.f1.length c1] ∧ x.f1.length ≤ c1 ∧ k31.C w A1 x.f1.length x.f1 := by
  obtain ⟨n, h⟩ := h; cases n with
  | zero => exact h.elim
  | succ n =>
    obtain ⟨_, _, rfl, rfl, ⟨A1, c1, rfl, l1, g1⟩⟩ := h; exact ⟨A1, c1, rfl, l1, Kd.fix_C g1⟩
theorem DV (w : World) (base : Nat) (ok : Nat → Prop) (x : S31) {v1 : Value} (g1 : k31.R 31 w base ok v1 x.f1) : k31.M w base ok x [.int .i64 x.f0, v1] := by
  obtain ⟨n1, q1⟩ := Kd.Q4 mono31 g1; have r1 := Kd.Wp mono31 sz31 (show n1 ≤ n1 by omega) q1; exact ⟨n1 + 1, ⟨[.int .i64 x.f0], [v1], rfl, rfl, ⟨v1, rfl, r1⟩⟩⟩
def bG (xs : List S31) (i : Int) : S31 := xs.getD i.toNat z31
theorem zt {w : World} {A : Option Addr} {n : Nat} {xs : List S31} (h : Kd.C k31 w A n xs) (i : Int) (h0 : 0 ≤ i) (h1 : i < n) : ∃ ad A1 c1, A = some ad ∧ w.cell? (ad.add (i.toNat * 2)) = some (.int .i64 (bG xs i).f0) ∧ w.cell? ⟨(ad.add (i.toNat * 2)).block, (ad.add (i.toNat * 2)).off + 1, none⟩ = some (.slice A1 (bG xs i).f1.length c1) ∧ (bG xs i).f1.length ≤ c1 ∧ k31.C w A1 (bG xs i).f1.length (bG xs i).f1 := by
  obtain ⟨ad, c, e, _, hK, hc0⟩ := Kd.Oi h z31 i h0 h1; have hc : ∀ j u, c[j]? = some u → w.cell? (ad.add (i.toNat * 2 + j)) = some u := hc0; obtain ⟨A1, c1, rfl, l1, g1⟩ := k31_open hK; exact ⟨ad, A1, c1, e, hc 0 _ rfl, by rw [← wR _ _ 1 (by omega)]; exact hc 1 _ rfl, l1, g1⟩
structure S44 where
  f0 : Int
  f1 : Int
  f2 : Int
def z44 : S44 := ⟨(0 : Int), (0 : Int), (0 : Int)⟩
def k44 : Kd S44 := Kd.iso (Kd.pair (Kd.int .i64) (Kd.pair (Kd.int .i64) (Kd.int .i64))) (fun x : S44 => (x.f0, x.f1, x.f2))
theorem k44_open {w : World} {x : S44} {cs : List Value} (h : k44.K w x cs) : cs = [.int .i64 x.f0, .int .i64 x.f1, .int .i64 x.f2] := by
  obtain ⟨_, _, rfl, rfl, ⟨_, _, rfl, rfl, rfl⟩⟩ := h; exact rfl
theorem Oj (w : World) (base : Nat) (ok : Nat → Prop) (x : S44)  : k44.M w base ok x [.int .i64 x.f0, .int .i64 x.f1, .int .i64 x.f2] := ⟨[.int .i64 x.f0], [.int .i64 x.f1, .int .i64 x.f2], rfl, rfl, ⟨[.int .i64 x.f1], [.int .i64 x.f2], rfl, rfl, rfl⟩⟩
def xE (xs : List S44) (i : Int) : S44 := xs.getD i.toNat z44
theorem Nv {w : World} {A : Option Addr} {n : Nat} {xs : List S44} (h : Kd.C k44 w A n xs) (i : Int) (h0 : 0 ≤ i) (h1 : i < n) : ∃ ad , A = some ad ∧ w.cell? (ad.add (i.toNat * 3)) = some (.int .i64 (xE xs i).f0) ∧ w.cell? ⟨(ad.add (i.toNat * 3)).block, (ad.add (i.toNat * 3)).off + 1, none⟩ = some (.int .i64 (xE xs i).f1) ∧ w.cell? ⟨(ad.add (i.toNat * 3)).block, (ad.add (i.toNat * 3)).off + 2, none⟩ = some (.int .i64 (xE xs i).f2) := by
  obtain ⟨ad, c, e, _, hK, hc0⟩ := Kd.Oi h z44 i h0 h1; have hc : ∀ j u, c[j]? = some u → w.cell? (ad.add (i.toNat * 3 + j)) = some u := hc0; obtain rfl := k44_open hK; exact ⟨ad, e, hc 0 _ rfl, by rw [← wR _ _ 1 (by omega)]; exact hc 1 _ rfl, by rw [← wR _ _ 2 (by omega)]; exact hc 2 _ rfl⟩
theorem Kd.R_readsM {α : Type} {d : Kd α} {e : Nat} {W : World} {base : Nat} {ok : Nat → Prop} {A : Option Addr} {n c : Nat} {xs : List α} (h : Kd.R d e W base ok (.slice A n c) xs) :
    ng (d.M W base (fun k => ok k ∧ some k ≠ (Value.slice A n c).ownBlock)) d.sz W A n xs := by
  obtain ⟨_, inner, ho, hr⟩ := h; obtain ⟨A', c', he, hR⟩ := Ns ho hr rfl; injection he with h1 h2 h3
  subst h1; subst h2; exact hR
theorem Kd.H7 {α : Type} {d : Kd α} {e : Nat} {W : World} {base g : Nat} {ok : Nat → Prop} {v : Value} {xs : List α} (h : Kd.V d e W base ok v xs) (hok : ∀ k, ok k → k ≠ g) (hn : 0 < xs.length := by first | omega | (simp_all; omega)) (hs : 0 < d.sz := by decide) : some g ≠ v.ownBlock := by
  obtain ⟨A, c, rfl, _, hF⟩ := h; rcases A with _ | ad
  · simp [Value.ownBlock]
  · intro he
    have h1 := Kd.F_in hF rfl hn hs; simp only [Value.ownBlock, Option.some.injEq] at he; exact hok _ h1 he.symm
theorem Nw {w W : World} {g : Nat} {A : Option Addr} {n : Nat} {xs : List S27} {i : Int} {ad0 : Addr} {Ai : Option Addr} {m ci : Nat} (h : ∀ W_, aN w W_ g none → Kd.C k27 W_ A n xs) (hk : aN w W g none) (h0 : 0 ≤ i) (h1 : i < (n : Int)) (hA : A = some ad0)
    (hx : W.cell? ⟨(ad0.add (i.toNat * 5)).block, (ad0.add (i.toNat * 5)).off + 4, none⟩ = some (.slice Ai m ci)) : ∀ W_, aN w W_ g none → Kd.C k27 W_ Ai (af xs i).f4.length (af xs i).f4 := by
  intro W_ hk_; subst hA; obtain ⟨ad, A4, c4, e, x0, x1, x2, x3, x4, l0, g0⟩ := gp (h w (aN.refl w g none)) i h0 h1; have hne := Kd.gJ h (by omega) (by decide); injection e with e; subst e
  obtain ⟨ad2, A4_, c4_, e2, y0, y1, y2, y3, y4, m0, q0⟩ := gp (h W_ hk_) i h0 h1; injection e2 with e2; subst e2
  have z1 := oN hk x4 (by first | (rw [add_block]; exact hne) | (show (Addr.add _ _).block ≠ _; rw [add_block]; exact hne) | exact hne); have z2 := oN hk_ x4 (by first | (rw [add_block]; exact hne) | (show (Addr.add _ _).block ≠ _; rw [add_block]; exact hne) | exact hne); have z3 := Option.some.inj (z1.symm.trans hx); have z4 := Option.some.inj (z2.symm.trans y4); injection z3 with a1 _ _
  injection z4 with b1 _ _
  rw [← a1, b1]; exact q0
theorem bl_ {p : Prop} (h : p := by repeat (first | (with_reducible first | exact HB.out | apply dM | apply df | apply bU | refine bZ ?_ (aa.out (by assumption)) | refine bZ ?_ (aH.ge (aa.out (by assumption)))) | exact HB.out)) : p := h
theorem si_ {p : Prop} (h : p := by repeat (first | (with_reducible first | exact (aa.out (by assumption)) | apply aH.alloc | apply aH.drewN | apply aH.drew | apply aH.mh | apply aH.mW | refine aH.far ?_ (aa.out (by assumption)) _) | exact (aa.out (by assumption)))) : p := h
theorem bk_ {p : Prop} (h : p := by (with_reducible repeat (first | refine ai ?_ _ | refine aj ?_ | refine ag ?_ _)); exact (aa.out (by assumption))) : p := h
theorem pR_ {p q : Prop} (h : p) (k : p → q := by intro h_; (with_reducible repeat (first | apply Kd.fq | apply Kd.eY | apply Kd.fw)); exact h_) : q := k h
theorem pN_ {p q : Prop} (h : p) (k : p → q := by intro h_; (with_reducible repeat (first | apply Kd.gK | apply Kd.gF | apply Kd.iy)); exact h_) : q := k h
theorem pV_ {p q : Prop} (h : p) (k : p → q := by intro h_; (with_reducible repeat (first | apply Kd.jZ | apply Kd.jA | apply Kd.kG)); exact h_) : q := k h
theorem re_ {p : Prop} (h : p := by first | rfl | (simp [lC, lD] <;> rfl) | (simp [*, lC, lD] <;> rfl)) : p := h
theorem rs_ {p : Prop} (h : p := by first | rfl | (simp; done) | (simp [*]; done)) : p := h
theorem dt_ {p : Prop} [Decidable p] (h : decide p = true := by first | (with_reducible assumption) | assumption) : p := of_decide_eq_true h
theorem gw_ {n m g : Nat} (hg : g = m) (h : n ≤ m) : aa (n ≤ g) := ⟨by rw [hg]; exact h⟩
theorem cf1_ {W : World} {g : Nat} {a_ : Value} {t : TypeId} (h : W.heap[g]? = some (.cells #[a_] t (0, 0))) : W.cell? ⟨g, 0, none⟩ = some a_ ∧ W.frozen? ⟨g, 0, none⟩ = false :=
  ⟨(ax h 0).trans rfl, fM h 0⟩
theorem dm {W : World} {g : Nat} {a_ b_ : Value} {t : TypeId} (h : W.heap[g]? = some (.cells #[a_, b_] t (0, 0))) : W.cell? ⟨g, 0, none⟩ = some a_ ∧ W.cell? ⟨g, 1, none⟩ = some b_ ∧ W.frozen? ⟨g, 0, none⟩ = false ∧ W.frozen? ⟨g, 1, none⟩ = false :=
  ⟨(ax h 0).trans rfl, (ax h 1).trans rfl, fM h 0, fM h 1⟩
theorem cf3_ {W : World} {g : Nat} {a_ b_ c_ : Value} {t : TypeId} (h : W.heap[g]? = some (.cells #[a_, b_, c_] t (0, 0))) : W.cell? ⟨g, 0, none⟩ = some a_ ∧ W.cell? ⟨g, 1, none⟩ = some b_ ∧ W.cell? ⟨g, 2, none⟩ = some c_ ∧ W.frozen? ⟨g, 0, none⟩ = false ∧ W.frozen? ⟨g, 1, none⟩ = false ∧ W.frozen? ⟨g, 2, none⟩ = false :=
  ⟨(ax h 0).trans rfl, (ax h 1).trans rfl, (ax h 2).trans rfl, fM h 0, fM h 1, fM h 2⟩
theorem cf4_ {W : World} {g : Nat} {a_ b_ c_ d_ : Value} {t : TypeId} (h : W.heap[g]? = some (.cells #[a_, b_, c_, d_] t (0, 0))) : W.cell? ⟨g, 0, none⟩ = some a_ ∧ W.cell? ⟨g, 1, none⟩ = some b_ ∧ W.cell? ⟨g, 2, none⟩ = some c_ ∧ W.cell? ⟨g, 3, none⟩ = some d_ ∧ W.frozen? ⟨g, 0, none⟩ = false ∧ W.frozen? ⟨g, 1, none⟩ = false ∧ W.frozen? ⟨g, 2, none⟩ = false ∧ W.frozen? ⟨g, 3, none⟩ = false :=
  ⟨(ax h 0).trans rfl, (ax h 1).trans rfl, (ax h 2).trans rfl, (ax h 3).trans rfl, fM h 0, fM h 1, fM h 2, fM h 3⟩
theorem bF {W : World} {g : Nat} {a_ b_ c_ d_ e_ : Value} {t : TypeId} (h : W.heap[g]? = some (.cells #[a_, b_, c_, d_, e_] t (0, 0))) : W.cell? ⟨g, 0, none⟩ = some a_ ∧ W.cell? ⟨g, 1, none⟩ = some b_ ∧ W.cell? ⟨g, 2, none⟩ = some c_ ∧ W.cell? ⟨g, 3, none⟩ = some d_ ∧ W.cell? ⟨g, 4, none⟩ = some e_ ∧ W.frozen? ⟨g, 0, none⟩ = false ∧ W.frozen? ⟨g, 1, none⟩ = false ∧ W.frozen? ⟨g, 2, none⟩ = false ∧ W.frozen? ⟨g, 3, none⟩ = false ∧ W.frozen? ⟨g, 4, none⟩ = false :=
  ⟨(ax h 0).trans rfl, (ax h 1).trans rfl, (ax h 2).trans rfl, (ax h 3).trans rfl, (ax h 4).trans rfl, fM h 0, fM h 1, fM h 2, fM h 3, fM h 4⟩
theorem cf6_ {W : World} {g : Nat} {a_ b_ c_ d_ e_ f_ : Value} {t : TypeId} (h : W.heap[g]? = some (.cells #[a_, b_, c_, d_, e_, f_] t (0, 0))) : W.cell? ⟨g, 0, none⟩ = some a_ ∧ W.cell? ⟨g, 1, none⟩ = some b_ ∧ W.cell? ⟨g, 2, none⟩ = some c_ ∧ W.cell? ⟨g, 3, none⟩ = some d_ ∧ W.cell? ⟨g, 4, none⟩ = some e_ ∧ W.cell? ⟨g, 5, none⟩ = some f_ ∧ W.frozen? ⟨g, 0, none⟩ = false ∧ W.frozen? ⟨g, 1, none⟩ = false ∧ W.frozen? ⟨g, 2, none⟩ = false ∧ W.frozen? ⟨g, 3, none⟩ = false ∧ W.frozen? ⟨g, 4, none⟩ = false ∧ W.frozen? ⟨g, 5, none⟩ = false :=
  ⟨(ax h 0).trans rfl, (ax h 1).trans rfl, (ax h 2).trans rfl, (ax h 3).trans rfl, (ax h 4).trans rfl, (ax h 5).trans rfl, fM h 0, fM h 1, fM h 2, fM h 3, fM h 4, fM h 5⟩
end Go.Proofs.Ytggelekooacmnaa.Q
