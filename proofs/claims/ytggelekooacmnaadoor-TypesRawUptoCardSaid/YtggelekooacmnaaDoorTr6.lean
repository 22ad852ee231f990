/- Lemmas for: sP -/
import Derived.Lib.ItoaLen
import Derived.Lib.Join
import Derived.Lib.Strings
import Derived.Test.YtggelekooacmnaaDoorTr2
import Derived.Test.YtggelekooacmnaaDoorTr4
import Derived.Test.YtggelekooacmnaaDoorTr5
set_option linter.unusedVariables false
set_option linter.unusedSimpArgs false
namespace Go.Proofs.YtggelekooacmnaaDoor.Pure
open Go.RowKit Go.Proofs.YtggelekooacmnaaDoor.Q Go.Proofs.YtggelekooacmnaaDoorW.aU Go.Proofs.YtggelekooacmnaaDoorW.bD Go.Proofs.YtggelekooacmnaaDoorW.bH
-- texts of types: one text, one type
/-- texts with ', ' between them -/
def vB : List (List UInt8) → List UInt8
  | [] => []
  | [x] => x
  | x :: y :: l => x ++ 44 :: 32 :: vB (y :: l)
/-- a type's text -/
def txT : Nat → S24 → List UInt8
  | 0, _ => []
  | n + 1, t => if t.f0 = 1 then [98, 111, 111, 108] else if t.f0 = 2 then 105 :: 110 :: 116 :: 91 :: (Go.Lib.itoa t.f1 ++ 44 :: 32 :: (Go.Lib.itoa t.f2 ++ [93])) else if t.f0 = 3 then [110, 97, 116] else if t.f0 = 4 then [114, 101, 97, 108]
    else if t.f0 = 6 then 108 :: 105 :: 115 :: 116 :: 91 :: (Go.Lib.itoa t.f3 ++ 93 :: 32 :: txT n (ag t.f4 0)) else 40 :: (vB (t.f4.map (txT n)) ++ [41])
end Go.Proofs.YtggelekooacmnaaDoor.Pure
set_option linter.unusedVariables false
set_option linter.unusedSimpArgs false
namespace Go.Proofs.YtggelekooacmnaaDoor.Pure
open Go.RowKit Go.Proofs.YtggelekooacmnaaDoor.Q Go.Proofs.YtggelekooacmnaaDoorW.aU Go.Proofs.YtggelekooacmnaaDoorW.bD Go.Proofs.YtggelekooacmnaaDoorW.bH
-- what types.Format says of a valid type: its text
theorem Oa : ∀ xs : List (List UInt8), Lib.join xs [44, 32] = vB xs
  | [] => rfl
  | [x] => by rw [Lib.join_one]; rfl
  | x :: y :: l => by
    have ih := Oa (y :: l)
    rw [Lib.join_cons] at ih ⊢
    simp only [vB, Lib.joinTail, List.map_cons, List.flatten_cons] at ih ⊢
    rw [← ih]; simp
theorem ba_eq {a : ByteArray} {l : List UInt8} (h : a.data.toList = l) : a = ⟨l.toArray⟩ := by cases a; subst h; simp
theorem jU (l : List UInt8) : (⟨l.toArray⟩ : ByteArray).size = l.length := by show l.toArray.size = l.length; simp
theorem nS {a : Int} (h0 : -1000 ≤ a) (h1 : a ≤ 1000) : (Go.Lib.itoa a).length ≤ 21 := Lib.itoa_length_le a (by omega) (by omega)
theorem Jy {c : Nat} : ∀ xs : List (List UInt8), (∀ x ∈ xs, x.length ≤ c) → (vB xs).length ≤ xs.length * (c + 2)
  | [], _ => by simp [vB]
  | [x], h => by have := h x List.mem_cons_self; simp only [vB, List.length_cons, List.length_nil]; omega
  | x :: y :: l, h => by
    have h1 := h x List.mem_cons_self
    have ih := Jy (y :: l) (fun z hz => h z (List.mem_cons_of_mem _ hz))
    simp only [vB, List.length_append, List.length_cons] at ih ⊢
    rw [Nat.add_mul]
    omega
theorem txT_len (n : Nat) : ∀ {t : S24}, Vt n t → (txT n t).length ≤ 100 * 5 ^ n := by
  induction n with
  | zero => intro t h; cases h
  | succ n ih =>
    intro t h
    have hp : 1 ≤ 5 ^ n := Nat.pos_of_ne_zero (by simp)
    have h5 : 5 ^ (n + 1) = 5 ^ n * 5 := Nat.pow_succ ..
    cases h with
    | bool => simp only [txT]; rw [if_pos trivial]; simp only [List.length_cons, List.length_nil]; omega
    | nat => simp only [txT]; rw [if_neg (by omega), if_neg (by omega), if_pos trivial]; simp only [List.length_cons, List.length_nil]; omega
    | real => simp only [txT]; rw [if_neg (by omega), if_neg (by omega), if_neg (by omega), if_pos trivial]; simp only [List.length_cons, List.length_nil]; omega
    | int _ lo hi h1 h2 h3 =>
      have a1 := nS h1 (show lo ≤ 1000 by omega)
      have a2 := nS (show -1000 ≤ hi by omega) h3
      simp only [txT]; rw [if_neg (by omega), if_pos trivial]
      simp only [List.length_cons, List.length_append, List.length_nil]; omega
    | lst _ m x h1 h2 h3 h4 =>
      have a1 := nS (show -1000 ≤ m by omega) (show m ≤ 1000 by omega)
      have a2 := ih h3
      simp only [txT]; rw [if_neg (by omega), if_neg (by omega), if_neg (by omega), if_neg (by omega), if_pos trivial, rd1]
      simp only [List.length_cons, List.length_append, List.length_nil]; omega
    | tup _ l h1 h2 h3 h4 =>
      have a1 := Jy (c := 100 * 5 ^ n) (l.map (txT n)) (by intro x hx; obtain ⟨y, hy, rfl⟩ := List.mem_map.1 hx; exact ih (h3 y hy))
      rw [List.length_map] at a1
      have a2 : l.length * (100 * 5 ^ n + 2) ≤ 4 * (100 * 5 ^ n + 2) := Nat.mul_le_mul_right _ h2
      simp only [txT]; rw [if_neg (by omega), if_neg (by omega), if_neg (by omega), if_neg (by omega), if_neg (by omega)]
      simp only [List.length_cons, List.length_append, List.length_nil]; omega
theorem Bt {n : Nat} (hn : n ≤ 10) {t : S24} (h : Vt n t) : (txT n t).length ≤ 1000000000 :=
  Nat.le_trans (txT_len n h) (Nat.le_trans (Nat.mul_le_mul_left 100 (Nat.pow_le_pow_right (by omega) hn)) (by decide))
theorem OJ {a : Int} (h0 : -1000 ≤ a) (h1 : a ≤ 1000) : fB.f a = some ⟨(Go.Lib.itoa a).toArray⟩ := by
  unfold fB.f; rw [if_pos (by omega)]
def tB (n : Nat) (t : S24) : ByteArray := ⟨(txT n t).toArray⟩
theorem tB_list (n : Nat) (t : S24) : (tB n t).data.toList = txT n t := by simp [tB]
theorem join_f (xs : List ByteArray) (h : xs.length ≤ 1000) (hb : (vB (xs.map (·.data.toList))).length ≤ 100000000000) : strings_Join.f xs (⟨#[44, 32]⟩ : ByteArray) = some ⟨(vB (xs.map (·.data.toList))).toArray⟩ := by
  unfold strings_Join.f
  have e : (⟨#[44, 32]⟩ : ByteArray).data.toList = [44, 32] := rfl
  rw [e, Oa, if_pos (by omega)]
theorem map_tB (n : Nat) (l : List S24) : (l.map (tB n)).map (·.data.toList) = l.map (txT n) := by
  rw [List.map_map]; exact List.map_congr_left (fun x _ => tB_list n x)
theorem Ta (n : Nat) (hn : n ≤ 9) (l : List S24) (hl : l.length ≤ 4) (hv : ∀ x ∈ l, Vt n x) (ih : ∀ t ∈ l, Ev (at_ bz.f t) (tB n t)) :
    ∀ (d i : Nat), i + d = l.length → Ev (fun k => bz.l0 k ((l.take i).map (tB n)) l l.length i) ⟨(40 :: (vB (l.map (txT n)) ++ [41])).toArray⟩ := by
  intro d
  induction d with
  | zero =>
    intro i hi
    refine ⟨1, fun k hk => ?_⟩
    obtain ⟨k, rfl⟩ : ∃ j, k = j + 1 := ⟨k - 1, by omega⟩
    have hs : (vB (l.map (txT n))).length ≤ 10000000000 := by
      have a1 := Jy (c := 1000000000) (l.map (txT n)) (by intro x hx; obtain ⟨y, hy, rfl⟩ := List.mem_map.1 hx; exact Bt (by omega) (hv y hy))
      rw [List.length_map] at a1
      have a2 : l.length * (1000000000 + 2) ≤ 4 * (1000000000 + 2) := Nat.mul_le_mul_right _ hl
      omega
    have hj := join_f (l.map (tB n)) (by rw [List.length_map]; omega) (by rw [map_tB]; omega)
    rw [map_tB] at hj
    simp only [bz.l0]
    rw [if_neg (by omega), List.take_of_length_le (by omega), hj, Option.bind_some, jU, if_pos (by omega)]
    have e2 : ((⟨#[40]⟩ : ByteArray) ++ ⟨(vB (l.map (txT n))).toArray⟩).size = 1 + (vB (l.map (txT n))).length := by rw [ByteArray.size_append, jU]; rfl
    rw [if_pos (by rw [e2]; omega)]
    first | rfl | (refine congrArg some (ba_eq ?_); simp)
  | succ d IH =>
    intro i hi
    have hlt : i < l.length := by omega
    obtain ⟨K1, e1⟩ := ih l[i] (List.getElem_mem hlt)
    obtain ⟨K2, e2⟩ := IH (i + 1) (by omega)
    refine ⟨max K1 K2 + 1, fun k hk => ?_⟩
    obtain ⟨k, rfl⟩ : ∃ j, k = j + 1 := ⟨k - 1, by omega⟩
    have e1' := e1 k (by omega)
    have e2' := e2 k (by omega)
    unfold at_ at e1'
    dsimp only at e1' e2'
    have ht : (l.take i).map (tB n) ++ [tB n l[i]] = (l.take (i + 1)).map (tB n) := by rw [List.take_succ_eq_append_getElem hlt, List.map_append]; rfl
    simp only [bz.l0]
    rw [if_pos (by omega), if_pos (by omega), if_pos (by omega), rdT hlt, e1', Option.bind_some, if_pos (by rw [List.length_map, List.length_take]; omega), ht, iP (by omega), e2']
theorem Tc (n : Nat) : ∀ {t : S24}, n ≤ 10 → Vt n t → Ev (at_ bz.f t) (tB n t) := by
  induction n with
  | zero => intro t _ h; cases h
  | succ n ih =>
    intro t hn h
    cases h with
    | bool => refine ⟨1, fun k hk => ?_⟩; obtain ⟨k, rfl⟩ : ∃ j, k = j + 1 := ⟨k - 1, by omega⟩; simp only [at_, bz.f, tB, txT]; rfl
    | nat => refine ⟨1, fun k hk => ?_⟩; obtain ⟨k, rfl⟩ : ∃ j, k = j + 1 := ⟨k - 1, by omega⟩; simp only [at_, bz.f, tB, txT]; rfl
    | real => refine ⟨1, fun k hk => ?_⟩; obtain ⟨k, rfl⟩ : ∃ j, k = j + 1 := ⟨k - 1, by omega⟩; simp only [at_, bz.f, tB, txT]; rfl
    | int _ lo hi h1 h2 h3 =>
      refine ⟨1, fun k hk => ?_⟩
      obtain ⟨k, rfl⟩ : ∃ j, k = j + 1 := ⟨k - 1, by omega⟩
      have a1 := nS h1 (show lo ≤ 1000 by omega)
      have a2 := nS (show -1000 ≤ hi by omega) h3
      simp only [at_, bz.f]
      rw [if_neg (by omega), if_pos trivial, OJ h1 (by omega), Option.bind_some, OJ (by omega) h3, jU]
      simp only [ByteArray.size_append, jU, iW, List.size_toArray, List.length_cons, List.length_nil]
      rw [if_pos (by omega), if_pos (by omega), Option.bind_some]
      simp only [jU]
      rw [if_pos (by omega), if_pos (by omega)]
      refine congrArg some (ba_eq ?_)
      simp [txT]
    | lst _ m x h1 h2 h3 h4 =>
      obtain ⟨K, e⟩ := ih (by omega) h3
      refine ⟨K + 1, fun k hk => ?_⟩
      obtain ⟨k, rfl⟩ : ∃ j, k = j + 1 := ⟨k - 1, by omega⟩
      have e' := e k (by omega)
      unfold at_ at e'
      try dsimp only at e'
      have a1 := nS (show -1000 ≤ m by omega) (show m ≤ 1000 by omega)
      have a2 := Bt (by omega) h3
      simp only [at_, bz.f]
      rw [if_neg (by omega), if_neg (by omega), if_neg (by omega), if_neg (by omega), if_pos trivial, OJ (by omega) (by omega), Option.bind_some, rdT0 (by simp)]
      simp only [List.getElem_cons_zero]
      rw [e', Option.bind_some]
      have e3 : (tB n x).size = (txT n x).length := jU _
      simp only [ByteArray.size_append, jU, iW, List.size_toArray, List.length_cons, List.length_nil, e3]
      rw [if_pos (by omega), if_pos (by omega), if_pos (by omega), if_pos (by omega)]
      refine congrArg some (ba_eq ?_)
      simp [txT, rd1, tB]
    | tup _ l h1 h2 h3 h4 =>
      obtain ⟨K, e⟩ := Ta n (by omega) l h2 h3 (fun t ht => ih (by omega) (h3 t ht)) l.length 0 (by omega)
      refine ⟨K + 1, fun k hk => ?_⟩
      obtain ⟨k, rfl⟩ : ∃ j, k = j + 1 := ⟨k - 1, by omega⟩
      have e' := e k (by omega)
      try dsimp only at e'
      simp only [at_, bz.f]
      rw [if_neg (by omega), if_neg (by omega), if_neg (by omega), if_neg (by omega), if_neg (by omega)]
      simpa [tB, txT] using e'
theorem Td {t : S24} (hv : Vt 10 t) (hl : (prt 10 t).length ≤ 24) : Ev (at_ eG.f t) (tB 10 t, 0) := by
  obtain ⟨K1, e1⟩ := (Jr hv hl).1
  obtain ⟨K2, e2⟩ := Tc 10 (by omega) hv
  unfold at_ at e1 e2
  refine ⟨K1 + K2, fun k hk => ?_⟩
  simp only [at_, eG.f]
  rw [e1 k (by omega), Option.bind_some, if_pos rfl, e2 k (by omega), Option.bind_some]
end Go.Proofs.YtggelekooacmnaaDoor.Pure
set_option linter.unusedVariables false
set_option linter.unusedSimpArgs false
namespace Go.Proofs.YtggelekooacmnaaDoor.Pure
open Go.RowKit Go.Proofs.YtggelekooacmnaaDoor.Q Go.Proofs.YtggelekooacmnaaDoorW.aU Go.Proofs.YtggelekooacmnaaDoorW.bD Go.Proofs.YtggelekooacmnaaDoorW.bH
def d4 (u : Nat) : List UInt8 :=
  if u < 10 then [UInt8.ofNat (48 + u)] else if u < 100 then [UInt8.ofNat (48 + u / 10), UInt8.ofNat (48 + u % 10)]
  else if u < 1000 then [UInt8.ofNat (48 + u / 100), UInt8.ofNat (48 + u / 10 % 10), UInt8.ofNat (48 + u % 10)]
  else [UInt8.ofNat (48 + u / 1000), UInt8.ofNat (48 + u / 100 % 10), UInt8.ofNat (48 + u / 10 % 10), UInt8.ofNat (48 + u % 10)]
def i4 (a : Int) : List UInt8 := if a < 0 then 45 :: d4 a.natAbs else d4 a.toNat
theorem d4_eq {u : Nat} (h : u < 10000) : Go.Lib.decDigits u = d4 u := by
  have a (v : Nat) (hv : v < 10) : Go.Lib.decDigits v = [UInt8.ofNat (48 + v)] := by rw [Go.Lib.decDigits, dif_pos hv]
  have b (v : Nat) (hv : ¬ v < 10) : Go.Lib.decDigits v = Go.Lib.decDigits (v / 10) ++ [UInt8.ofNat (48 + v % 10)] := by rw [Go.Lib.decDigits, dif_neg hv]
  unfold d4
  by_cases h1 : u < 10
  · rw [if_pos h1, a u h1]
  · rw [if_neg h1, b u h1]
    by_cases h2 : u < 100
    · rw [if_pos h2, a _ (by omega)]; rfl
    · rw [if_neg h2, b (u / 10) (by omega)]
      by_cases h3 : u < 1000
      · rw [if_pos h3, a _ (by omega), show u / 10 / 10 = u / 100 by omega]; rfl
      · rw [if_neg h3, b (u / 10 / 10) (by omega), a _ (by omega), show u / 10 / 10 / 10 = u / 1000 by omega, show u / 10 / 10 = u / 100 by omega]; rfl
theorem i4_eq {a : Int} (h0 : -1000 ≤ a) (h1 : a ≤ 1000) : Go.Lib.itoa a = i4 a := by
  unfold Go.Lib.itoa i4
  split <;> rw [d4_eq (by omega)]
def nT (i : Int) : Bool := decide (((dx.f 20 i).map (·.data.toList)) = some (i4 i))
def nJ (g : Int → Bool) (a : Int) : Nat → Bool
  | 0 => true
  | n + 1 => g (a + n) && nJ g a n
theorem RZ {g : Int → Bool} {a : Int} : ∀ {n : Nat}, nJ g a n = true → ∀ i : Nat, i < n → g (a + i) = true
  | 0, _, i, hi => absurd hi (by omega)
  | n + 1, h, i, hi => by
    simp only [nJ, Bool.and_eq_true] at h
    by_cases e : i = n
    · subst e; exact h.1
    · exact RZ h.2 i (by omega)
set_option maxRecDepth 100000 in
theorem dec_0 : nJ nT (-1000) 100 = true := by kernel_rfl
set_option maxRecDepth 100000 in
theorem dec_1 : nJ nT (-900) 100 = true := by kernel_rfl
set_option maxRecDepth 100000 in
theorem dec_2 : nJ nT (-800) 100 = true := by kernel_rfl
set_option maxRecDepth 100000 in
theorem dec_3 : nJ nT (-700) 100 = true := by kernel_rfl
set_option maxRecDepth 100000 in
theorem dec_4 : nJ nT (-600) 100 = true := by kernel_rfl
set_option maxRecDepth 100000 in
theorem dec_5 : nJ nT (-500) 100 = true := by kernel_rfl
set_option maxRecDepth 100000 in
theorem dec_6 : nJ nT (-400) 100 = true := by kernel_rfl
set_option maxRecDepth 100000 in
theorem dec_7 : nJ nT (-300) 100 = true := by kernel_rfl
set_option maxRecDepth 100000 in
theorem dec_8 : nJ nT (-200) 100 = true := by kernel_rfl
set_option maxRecDepth 100000 in
theorem dec_9 : nJ nT (-100) 100 = true := by kernel_rfl
set_option maxRecDepth 100000 in
theorem dec_10 : nJ nT (0) 100 = true := by kernel_rfl
set_option maxRecDepth 100000 in
theorem dec_11 : nJ nT (100) 100 = true := by kernel_rfl
set_option maxRecDepth 100000 in
theorem dec_12 : nJ nT (200) 100 = true := by kernel_rfl
set_option maxRecDepth 100000 in
theorem dec_13 : nJ nT (300) 100 = true := by kernel_rfl
set_option maxRecDepth 100000 in
theorem dec_14 : nJ nT (400) 100 = true := by kernel_rfl
set_option maxRecDepth 100000 in
theorem dec_15 : nJ nT (500) 100 = true := by kernel_rfl
set_option maxRecDepth 100000 in
theorem dec_16 : nJ nT (600) 100 = true := by kernel_rfl
set_option maxRecDepth 100000 in
theorem dec_17 : nJ nT (700) 100 = true := by kernel_rfl
set_option maxRecDepth 100000 in
theorem dec_18 : nJ nT (800) 100 = true := by kernel_rfl
set_option maxRecDepth 100000 in
theorem dec_19 : nJ nT (900) 100 = true := by kernel_rfl
set_option maxRecDepth 100000 in
theorem dec_20 : nJ nT (1000) 1 = true := by kernel_rfl
theorem jJ {c : Int} {n : Nat} (h : nJ nT c n = true) (a : Int) (h0 : c ≤ a) (h1 : a < c + n) : nT a = true := by
  have h := RZ h (a - c).toNat (by omega)
  rwa [show c + ((a - c).toNat : Int) = a by omega] at h
theorem dec_all {a : Int} (h0 : -1000 ≤ a) (h1 : a ≤ 1000) : nT a = true := by
  by_cases c0 : a < -900
  · exact jJ dec_0 a (by omega) (by simp; omega)
  by_cases c1 : a < -800
  · exact jJ dec_1 a (by omega) (by simp; omega)
  by_cases c2 : a < -700
  · exact jJ dec_2 a (by omega) (by simp; omega)
  by_cases c3 : a < -600
  · exact jJ dec_3 a (by omega) (by simp; omega)
  by_cases c4 : a < -500
  · exact jJ dec_4 a (by omega) (by simp; omega)
  by_cases c5 : a < -400
  · exact jJ dec_5 a (by omega) (by simp; omega)
  by_cases c6 : a < -300
  · exact jJ dec_6 a (by omega) (by simp; omega)
  by_cases c7 : a < -200
  · exact jJ dec_7 a (by omega) (by simp; omega)
  by_cases c8 : a < -100
  · exact jJ dec_8 a (by omega) (by simp; omega)
  by_cases c9 : a < 0
  · exact jJ dec_9 a (by omega) (by simp; omega)
  by_cases c10 : a < 100
  · exact jJ dec_10 a (by omega) (by simp; omega)
  by_cases c11 : a < 200
  · exact jJ dec_11 a (by omega) (by simp; omega)
  by_cases c12 : a < 300
  · exact jJ dec_12 a (by omega) (by simp; omega)
  by_cases c13 : a < 400
  · exact jJ dec_13 a (by omega) (by simp; omega)
  by_cases c14 : a < 500
  · exact jJ dec_14 a (by omega) (by simp; omega)
  by_cases c15 : a < 600
  · exact jJ dec_15 a (by omega) (by simp; omega)
  by_cases c16 : a < 700
  · exact jJ dec_16 a (by omega) (by simp; omega)
  by_cases c17 : a < 800
  · exact jJ dec_17 a (by omega) (by simp; omega)
  by_cases c18 : a < 900
  · exact jJ dec_18 a (by omega) (by simp; omega)
  by_cases c19 : a < 1000
  · exact jJ dec_19 a (by omega) (by simp; omega)
  exact jJ dec_20 a (by omega) (by simp; omega)
theorem Gu {a : Int} (h0 : -1000 ≤ a) (h1 : a ≤ 1000) : Ev (fun k => dx.f k a) ⟨(Go.Lib.itoa a).toArray⟩ := by
  have h2 := of_decide_eq_true (dec_all h0 h1)
  cases e : dx.f 20 a with
  | none => rw [e] at h2; cases h2
  | some r =>
    rw [e] at h2
    have h3 : r.data.toList = i4 a := by injection h2
    rw [i4_eq h0 h1, ← h3]
    refine Ev.of (fun k => dx.mono _ _) (k := 20) ?_
    rw [e]
end Go.Proofs.YtggelekooacmnaaDoor.Pure
set_option linter.unusedVariables false
set_option linter.unusedSimpArgs false
namespace Go.Proofs.YtggelekooacmnaaDoor.Pure
open Go.RowKit Go.Proofs.YtggelekooacmnaaDoor.Q Go.Proofs.YtggelekooacmnaaDoorW.aU Go.Proofs.YtggelekooacmnaaDoorW.bD Go.Proofs.YtggelekooacmnaaDoorW.bH
def tlT (n : Nat) (l : List S24) : List UInt8 := (l.map (fun x => 44 :: 32 :: txT n x)).flatten
theorem tlT_cons (n : Nat) (x : S24) (l : List S24) : tlT n (x :: l) = 44 :: 32 :: (txT n x ++ tlT n l) := by simp [tlT]
theorem R3 (n : Nat) : ∀ (x : S24) (l : List S24), vB ((x :: l).map (txT n)) = txT n x ++ tlT n l
  | x, [] => by simp [vB, tlT]
  | x, y :: l => by
    have ih := R3 n y l
    simp only [List.map_cons, vB] at ih ⊢
    rw [ih]
    simp [tlT]
theorem Text_l0 (n : Nat) (hn : n ≤ 9) (l : List S24) (hl : l.length ≤ 4) (hv : ∀ x ∈ l, Vt n x) (a0 a1 a2 a3 : Int) (ih : ∀ t ∈ l, Ev (at_ bn.f t) (tB n t)) :
    ∀ (d i : Nat) (p : List UInt8), 1 ≤ i → p.length ≤ i * 2000000000 → i + d = l.length → Ev (fun k => bn.l0 k ⟨p.toArray⟩ i a0 a1 a2 a3 l) ⟨(p ++ tlT n (l.drop i) ++ [41]).toArray⟩ := by
  intro d
  induction d with
  | zero =>
    intro i p h1 hp hi
    refine ⟨1, fun k hk => ?_⟩
    obtain ⟨k, rfl⟩ : ∃ j, k = j + 1 := ⟨k - 1, by omega⟩
    simp only [bn.l0]
    rw [if_neg (by omega), jU, if_pos (by omega), List.drop_eq_nil_of_le (by omega)]
    refine congrArg some (ba_eq ?_)
    simp [tlT]
  | succ d IH =>
    intro i p h1 hp hi
    have hlt : i < l.length := by omega
    obtain ⟨K1, e1⟩ := ih l[i] (List.getElem_mem hlt)
    have hx := Bt (by omega) (hv l[i] (List.getElem_mem hlt))
    obtain ⟨K2, e2⟩ := IH (i + 1) (p ++ 44 :: 32 :: txT n l[i]) (by omega) (by simp only [List.length_append, List.length_cons]; rw [Nat.add_mul]; omega) (by omega)
    refine ⟨max K1 K2 + 1, fun k hk => ?_⟩
    obtain ⟨k, rfl⟩ : ∃ j, k = j + 1 := ⟨k - 1, by omega⟩
    have e1' := e1 k (by omega)
    have e2' := e2 k (by omega)
    unfold at_ at e1'
    dsimp only at e1' e2'
    have hp2 : ((⟨p.toArray⟩ : ByteArray) ++ (⟨#[44, 32]⟩ : ByteArray)) ++ tB n l[i] = ⟨(p ++ 44 :: 32 :: txT n l[i]).toArray⟩ := ba_eq (by simp [tB])
    have hs : (tB n l[i]).size = (txT n l[i]).length := jU _
    have hs2 : ((⟨p.toArray⟩ : ByteArray) ++ (⟨#[44, 32]⟩ : ByteArray)).size = p.length + 2 := by rw [ByteArray.size_append, jU]; rfl
    simp only [bn.l0]
    rw [if_pos (by omega), if_pos (by omega), jU, if_pos (by omega), if_pos (by omega), rdT hlt, e1', Option.bind_some, hs, hs2, if_pos (by omega), iP (by omega), hp2, e2', List.drop_eq_getElem_cons hlt, tlT_cons]
    simp only [List.append_assoc, List.cons_append]
theorem Text_ev (n : Nat) : ∀ {t : S24}, n ≤ 10 → Vt n t → Ev (at_ bn.f t) (tB n t) := by
  induction n with
  | zero => intro t _ h; cases h
  | succ n ih =>
    intro t hn h
    cases h with
    | bool => refine ⟨1, fun k hk => ?_⟩; obtain ⟨k, rfl⟩ : ∃ j, k = j + 1 := ⟨k - 1, by omega⟩; simp only [at_, bn.f, tB, txT]; rfl
    | nat => refine ⟨1, fun k hk => ?_⟩; obtain ⟨k, rfl⟩ : ∃ j, k = j + 1 := ⟨k - 1, by omega⟩; simp only [at_, bn.f, tB, txT]; rfl
    | real => refine ⟨1, fun k hk => ?_⟩; obtain ⟨k, rfl⟩ : ∃ j, k = j + 1 := ⟨k - 1, by omega⟩; simp only [at_, bn.f, tB, txT]; rfl
    | int _ lo hi h1 h2 h3 =>
      obtain ⟨K1, e1⟩ := Gu h1 (show lo ≤ 1000 by omega)
      obtain ⟨K2, e2⟩ := Gu (show -1000 ≤ hi by omega) h3
      dsimp only at e1 e2
      refine ⟨K1 + K2 + 1, fun k hk => ?_⟩
      obtain ⟨k, rfl⟩ : ∃ j, k = j + 1 := ⟨k - 1, by omega⟩
      have a1 := nS h1 (show lo ≤ 1000 by omega)
      have a2 := nS (show -1000 ≤ hi by omega) h3
      simp only [at_, bn.f]
      rw [if_neg (by omega), if_pos trivial, e1 k (by omega), Option.bind_some, e2 k (by omega), jU]
      simp only [ByteArray.size_append, jU, iW, List.size_toArray, List.length_cons, List.length_nil]
      rw [if_pos (by omega), if_pos (by omega), Option.bind_some]
      simp only [jU]
      rw [if_pos (by omega), if_pos (by omega)]
      refine congrArg some (ba_eq ?_)
      simp [txT]
    | lst _ m x h1 h2 h3 h4 =>
      obtain ⟨K, e⟩ := ih (by omega) h3
      obtain ⟨K1, e1⟩ := Gu (show -1000 ≤ m by omega) (show m ≤ 1000 by omega)
      dsimp only at e1
      refine ⟨K + K1 + 1, fun k hk => ?_⟩
      obtain ⟨k, rfl⟩ : ∃ j, k = j + 1 := ⟨k - 1, by omega⟩
      have e' := e k (by omega)
      unfold at_ at e'
      try dsimp only at e'
      have a1 := nS (show -1000 ≤ m by omega) (show m ≤ 1000 by omega)
      have a2 := Bt (by omega) h3
      have e3 : (tB n x).size = (txT n x).length := jU _
      simp only [at_, bn.f]
      rw [if_neg (by omega), if_neg (by omega), if_neg (by omega), if_neg (by omega), if_pos trivial, e1 k (by omega), Option.bind_some]
      simp only [ByteArray.size_append, jU, iW, List.size_toArray, List.length_cons, List.length_nil]
      rw [if_pos (by omega), if_pos (by omega), if_pos (by simp), rdT0 (by simp)]
      simp only [List.getElem_cons_zero]
      rw [e', Option.bind_some, e3, if_pos (by omega)]
      refine congrArg some (ba_eq ?_)
      simp [txT, rd1, tB]
    | tup _ l h1 h2 h3 h4 =>
      cases l with
      | nil => simp at h1
      | cons x l =>
        have hx := Bt (by omega) (h3 x List.mem_cons_self)
        obtain ⟨K1, e1⟩ := ih (by omega) (h3 x List.mem_cons_self)
        obtain ⟨K, e⟩ := Text_l0 n (by omega) (x :: l) h2 h3 5 0 0 0 (fun t ht => ih (by omega) (h3 t ht)) l.length 1 (40 :: txT n x) (by omega) (by simp only [List.length_cons]; omega) (by simp only [List.length_cons]; omega)
        refine ⟨K + K1 + 2, fun k hk => ?_⟩
        obtain ⟨k, rfl⟩ : ∃ j, k = j + 2 := ⟨k - 2, by omega⟩
        have e' := e k (by omega)
        have e1' := e1 k (by omega)
        unfold at_ at e1'
        try dsimp only at e' e1'
        have hs : (tB n x).size = (txT n x).length := jU _
        have hp2 : (⟨#[40]⟩ : ByteArray) ++ tB n x = ⟨(40 :: txT n x).toArray⟩ := ba_eq (by simp [tB])
        simp only [at_, bn.f]
        rw [if_neg (by omega), if_neg (by omega), if_neg (by omega), if_neg (by omega), if_neg (by omega)]
        simp only [bn.l0]
        rw [if_pos (by simp only [List.length_cons]; omega), if_neg (by omega), if_pos (by omega), rdT0 (by simp)]
        simp only [List.getElem_cons_zero]
        rw [e1', Option.bind_some, hs]
        simp only [iW, List.size_toArray, List.length_cons, List.length_nil]
        rw [if_pos (by omega), hp2, show wrap64 (0 + 1) = ((1 : Nat) : Int) from by unfold wrap64; omega, e']
        refine congrArg some (ba_eq ?_)
        simp only [List.drop_succ_cons, List.drop_zero, tB, txT, R3]
        simp
theorem Text_ok {t : S24} (hv : Vt 10 t) (hl : (prt 10 t).length ≤ 24) : Ev (at_ fJ.f t) (tB 10 t, 0) := by
  obtain ⟨K1, e1⟩ := (Jr hv hl).2
  obtain ⟨K2, e2⟩ := Text_ev 10 (by omega) hv
  unfold at_ at e1 e2
  refine ⟨K1 + K2, fun k hk => ?_⟩
  simp only [at_, fJ.f]
  rw [e1 k (by omega), Option.bind_some, if_pos rfl, e2 k (by omega), Option.bind_some]
end Go.Proofs.YtggelekooacmnaaDoor.Pure
set_option linter.unusedVariables false
set_option linter.unusedSimpArgs false
namespace Go.Proofs.YtggelekooacmnaaDoor.Pure
open Go.RowKit Go.Proofs.YtggelekooacmnaaDoor.Q Go.Proofs.YtggelekooacmnaaDoorW.aU Go.Proofs.YtggelekooacmnaaDoorW.bD Go.Proofs.YtggelekooacmnaaDoorW.bH
theorem same_l0 (l : List S41) (hl : l.length ≤ 1000) : ∀ (d i : Nat), i + d = l.length → Ev (fun k => dh.l0 k l l i) true := by
  intro d
  induction d with
  | zero =>
    intro i hi
    refine ⟨1, fun k hk => ?_⟩
    obtain ⟨k, rfl⟩ : ∃ j, k = j + 1 := ⟨k - 1, by omega⟩
    simp only [dh.l0]
    rw [if_neg (by omega)]
  | succ d IH =>
    intro i hi
    obtain ⟨K2, e2⟩ := IH (i + 1) (by omega)
    refine ⟨K2 + 1, fun k hk => ?_⟩
    obtain ⟨k, rfl⟩ : ∃ j, k = j + 1 := ⟨k - 1, by omega⟩
    have e2' := e2 k (by omega)
    dsimp only at e2'
    simp only [dh.l0]
    rw [if_pos (by omega), if_pos (by omega), if_pos (by omega), if_neg (by simp), iP (by omega), e2']
theorem same_ev (l : List S41) (hl : l.length ≤ 1000) : Ev (fun k => dh.f k l l) true := by
  obtain ⟨K, e⟩ := same_l0 l hl l.length 0 (by omega)
  refine ⟨K, fun k hk => ?_⟩
  have e' := e k hk
  simp only [dh.f]
  rw [if_pos trivial]; exact e'
theorem all_ev {n : Nat} {t : S24} (hn : n ≤ 1000) (hb : Bd n t) : ∃ (e : Int) (c : List S41) (m z ze : Int) (s : ByteArray), c.length ≤ 1000 ∧
    Ev (at_ bO.f t) e ∧ Ev (at_ bE.f t) e ∧ Ev (at_ jX.f t) (c, e) ∧ Ev (at_ gp.f t) (c, e) ∧
    Ev (at_ jY.f t) (m, e) ∧ Ev (at_ gq.f t) (m, e) ∧ Ev (at_ dn.f t) (z, ze) ∧ Ev (at_ dw.f t) (z, ze) ∧
    Ev (at_ eG.f t) (s, e) ∧ Ev (at_ fJ.f t) (s, e) := by
  obtain ⟨e, v1, v2, hv⟩ := OZ hn hb
  by_cases he : e = 0
  · subst he
    obtain ⟨hv, hl⟩ := hv rfl
    have f1 := Td hv hl
    have f2 := Text_ok hv hl
    have c1 := cells_ev 10 (by omega) hv
    have c2 := Jw 10 (by omega) hv
    have C1 : Ev (at_ jX.f t) (prt 10 t, 0) := by
      obtain ⟨K1, e1⟩ := v1
      obtain ⟨K2, e2⟩ := c1
      unfold at_ at e1 e2
      refine ⟨K1 + K2, fun k hk => ?_⟩
      simp only [at_, jX.f]
      rw [e1 k (by omega), Option.bind_some, if_pos rfl, e2 k (by omega), Option.bind_some]
    have C2 : Ev (at_ gp.f t) (prt 10 t, 0) := by
      obtain ⟨K1, e1⟩ := v2
      obtain ⟨K2, e2⟩ := c2
      unfold at_ at e1 e2
      refine ⟨K1 + K2, fun k hk => ?_⟩
      simp only [at_, gp.f]
      rw [e1 k (by omega), Option.bind_some, if_pos rfl, e2 k (by omega), Option.bind_some]
    have M : ∃ m : Int, Ev (at_ jY.f t) (m, 0) ∧ Ev (at_ gq.f t) (m, 0) := by
      refine ⟨if t.f0 = 3 then 2 else if t.f0 = 4 then 3 else 1, ?_, ?_⟩
      · obtain ⟨K1, e1⟩ := v1
        unfold at_ at e1
        refine ⟨K1, fun k hk => ?_⟩
        simp only [at_, jY.f]
        rw [e1 k (by omega), Option.bind_some, if_pos rfl]
        (repeat' split) <;> rfl
      · obtain ⟨K1, e1⟩ := v2
        unfold at_ at e1
        refine ⟨K1, fun k hk => ?_⟩
        simp only [at_, gq.f]
        rw [e1 k (by omega), Option.bind_some, if_pos rfl]
        (repeat' split) <;> rfl
    have Z : ∃ z ze : Int, Ev (at_ dn.f t) (z, ze) ∧ Ev (at_ dw.f t) (z, ze) := by
      by_cases h3 : t.f0 = 3 ∨ t.f0 = 4
      · refine ⟨0, 8, ?_, ?_⟩
        · obtain ⟨K1, e1⟩ := v1
          unfold at_ at e1
          refine ⟨K1 + 1, fun k hk => ?_⟩
          have e1' := e1 k (by omega)
          obtain ⟨k, rfl⟩ : ∃ j, k = j + 1 := ⟨k - 1, by omega⟩
          simp only [at_, dn.f]
          rw [e1', Option.bind_some, if_pos rfl]
          rcases h3 with h3 | h3
          · rw [if_pos h3]; simp only [dn.j0]; rfl
          · rw [if_neg (by omega), show (t.f0 == 4) = true from by simp [h3]]; simp only [dn.j0]; rfl
        · obtain ⟨K1, e1⟩ := v2
          unfold at_ at e1
          refine ⟨K1 + 1, fun k hk => ?_⟩
          have e1' := e1 k (by omega)
          obtain ⟨k, rfl⟩ : ∃ j, k = j + 1 := ⟨k - 1, by omega⟩
          simp only [at_, dw.f]
          rw [e1', Option.bind_some, if_pos rfl]
          rcases h3 with h3 | h3
          · rw [if_pos h3]; simp only [dw.j0]; rfl
          · rw [if_neg (by omega), show (t.f0 == 4) = true from by simp [h3]]; simp only [dw.j0]; rfl
      · have h3a : t.f0 ≠ 3 := fun h => h3 (.inl h)
        have h4a : t.f0 ≠ 4 := fun h => h3 (.inr h)
        have hf : (t.f0 == 4) = false := by simp [h4a]
        obtain ⟨s1, s2⟩ := size_ev 10 (by omega) hv h3a h4a
        by_cases hz : siz 10 t ≤ 1073741824
        · refine ⟨siz 10 t, 0, ?_, ?_⟩
          · obtain ⟨K1, e1⟩ := v1
            obtain ⟨K2, e2⟩ := s1
            unfold at_ at e1 e2
            refine ⟨K1 + K2 + 1, fun k hk => ?_⟩
            have e1' := e1 k (by omega)
            obtain ⟨k, rfl⟩ : ∃ j, k = j + 1 := ⟨k - 1, by omega⟩
            have e2' := e2 k (by omega)
            simp only [at_, dn.f]
            rw [e1', Option.bind_some, if_pos rfl, if_neg h3a, hf]
            simp only [dn.j0]
            rw [if_neg (by decide), e2', Option.bind_some]
            split <;> first | rfl | omega
          · obtain ⟨K1, e1⟩ := v2
            obtain ⟨K2, e2⟩ := s2
            unfold at_ at e1 e2
            refine ⟨K1 + K2 + 1, fun k hk => ?_⟩
            have e1' := e1 k (by omega)
            obtain ⟨k, rfl⟩ : ∃ j, k = j + 1 := ⟨k - 1, by omega⟩
            have e2' := e2 k (by omega)
            simp only [at_, dw.f]
            rw [e1', Option.bind_some, if_pos rfl, if_neg h3a, hf]
            simp only [dw.j0]
            rw [if_neg (by decide), e2', Option.bind_some]
            split <;> first | rfl | omega
        · refine ⟨0, 9, ?_, ?_⟩
          · obtain ⟨K1, e1⟩ := v1
            obtain ⟨K2, e2⟩ := s1
            unfold at_ at e1 e2
            refine ⟨K1 + K2 + 1, fun k hk => ?_⟩
            have e1' := e1 k (by omega)
            obtain ⟨k, rfl⟩ : ∃ j, k = j + 1 := ⟨k - 1, by omega⟩
            have e2' := e2 k (by omega)
            simp only [at_, dn.f]
            rw [e1', Option.bind_some, if_pos rfl, if_neg h3a, hf]
            simp only [dn.j0]
            rw [if_neg (by decide), e2', Option.bind_some]
            split <;> first | rfl | omega
          · obtain ⟨K1, e1⟩ := v2
            obtain ⟨K2, e2⟩ := s2
            unfold at_ at e1 e2
            refine ⟨K1 + K2 + 1, fun k hk => ?_⟩
            have e1' := e1 k (by omega)
            obtain ⟨k, rfl⟩ : ∃ j, k = j + 1 := ⟨k - 1, by omega⟩
            have e2' := e2 k (by omega)
            simp only [at_, dw.f]
            rw [e1', Option.bind_some, if_pos rfl, if_neg h3a, hf]
            simp only [dw.j0]
            rw [if_neg (by decide), e2', Option.bind_some]
            split <;> first | rfl | omega
    obtain ⟨m, m1, m2⟩ := M
    obtain ⟨z, ze, z1, z2⟩ := Z
    exact ⟨0, prt 10 t, m, z, ze, tB 10 t, by omega, v1, v2, C1, C2, m1, m2, z1, z2, f1, f2⟩
  · obtain ⟨K1, e1⟩ := v1
    obtain ⟨K2, e2⟩ := v2
    refine ⟨e, [], 0, 0, e, ⟨#[]⟩, by simp, ⟨K1, e1⟩, ⟨K2, e2⟩, ?_⟩
    unfold at_ at e1 e2
    refine ⟨⟨K1, fun k hk => ?_⟩, ⟨K2, fun k hk => ?_⟩, ⟨K1, fun k hk => ?_⟩, ⟨K2, fun k hk => ?_⟩, ⟨K1, fun k hk => ?_⟩, ⟨K2, fun k hk => ?_⟩, ⟨K1, fun k hk => ?_⟩, ⟨K2, fun k hk => ?_⟩⟩
    · simp only [at_, jX.f]; rw [e1 k hk, Option.bind_some, if_neg he]
    · simp only [at_, gp.f]; rw [e2 k hk, Option.bind_some, if_neg he]
    · simp only [at_, jY.f]; rw [e1 k hk, Option.bind_some, if_neg he]
    · simp only [at_, gq.f]; rw [e2 k hk, Option.bind_some, if_neg he]
    · simp only [at_, dn.f]; rw [e1 k hk, Option.bind_some, if_neg he]
    · simp only [at_, dw.f]; rw [e2 k hk, Option.bind_some, if_neg he]
    · simp only [at_, eG.f]; rw [e1 k hk, Option.bind_some, if_neg he]
    · simp only [at_, fJ.f]; rw [e2 k hk, Option.bind_some, if_neg he]
theorem Te {n : Nat} {t : S24} (hn : n ≤ 1000) (hb : Bd n t) : Ev (at_ aV.f t) true := by
  obtain ⟨e, c, m, z, ze, s, hc, ⟨Ka, ea⟩, ⟨Kb, eb⟩, ⟨K1, e1⟩, ⟨K2, e2⟩, ⟨K3, e3⟩, ⟨K4, e4⟩, ⟨K5, e5⟩, ⟨K6, e6⟩, ⟨K7, e7⟩, ⟨K8, e8⟩⟩ := all_ev hn hb
  obtain ⟨K9, e9⟩ := same_ev c hc
  unfold at_ at ea eb e1 e2 e3 e4 e5 e6 e7 e8
  dsimp only at e9
  refine ⟨Ka + Kb + K1 + K2 + K3 + K4 + K5 + K6 + K7 + K8 + K9 + 3, fun k hk => ?_⟩
  obtain ⟨k, rfl⟩ : ∃ j, k = j + 3 := ⟨k - 3, by omega⟩
  simp only [at_, aV.f]
  rw [e1 (k + 3) (by omega), Option.bind_some, e2 (k + 3) (by omega), Option.bind_some]
  dsimp only
  rw [if_pos rfl, e9 (k + 3) (by omega), Option.bind_some, if_pos rfl, ea (k + 3) (by omega), Option.bind_some, eb (k + 3) (by omega), Option.bind_some]
  simp only [aV.j0]
  rw [if_neg (by simp), e3 (k + 2) (by omega), Option.bind_some, e4 (k + 2) (by omega), Option.bind_some]
  dsimp only
  rw [if_pos rfl]
  simp only [aV.j1]
  rw [if_neg (by simp), e5 (k + 1) (by omega), Option.bind_some, e6 (k + 1) (by omega), Option.bind_some]
  dsimp only
  rw [if_pos rfl]
  simp only [aV.j2]
  rw [if_neg (by simp), e7 k (by omega), Option.bind_some, e8 k (by omega), Option.bind_some]
  dsimp only
  rw [if_pos rfl]
  simp
end Go.Proofs.YtggelekooacmnaaDoor.Pure
