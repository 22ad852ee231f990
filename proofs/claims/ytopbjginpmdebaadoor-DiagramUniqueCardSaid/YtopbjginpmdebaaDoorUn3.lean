/- Lemmas for: Proved: the tied card of exactppllaw19.DiagramUnique (for every input the law returns true). Conditions: none beyond the given row. -/
import Derived.Shelf.Strconv.Itoa0
import Derived.Shelf.Strconv.Itoa1
import Derived.Shelf.LaysM
import Derived.Shelf.Strconv.Itoa2
import Derived.Shelf.Sort.Plain
import Derived.Shelf.Strconv.AppendUint10
import Derived.Shelf.Strconv.AppendInt10
import Derived.Shelf.Strconv.AppendIntPublic10
import Derived.Ground.Names2Prog
import Derived.Shelf.Slices.CompactI
import Derived.Test.YtopbjginpmdebaaDoorProg
import Derived.Maps.OwnSet
import Derived.Maps.Views
import Derived.Lib.AppendIntMem
import Derived.Lib.ItoaLen
import Derived.Lib.OthersKept
import Derived.Lib.Hide
import Derived.StillTailTactics
import Derived.StringKeys
import Derived.BigRegion
import Derived.Test.YtopbjginpmdebaaDoorUn2
namespace Go.Proofs.YtopbjginpmdebaaDoor.K
set_option linter.unusedVariables false
set_option linter.unusedSimpArgs false
/-- a reduced list: kids below, no node twice, no branch with equal kids, leaves and branches as they are to be -/
structure Red (u : List Nd) : Prop where
  down : Down u
  nodup : u.Nodup
  thin : ∀ n ∈ u, n.f2 ≠ [] → sameK n.f2 = false
  leafy : ∀ n ∈ u, n.f0 < 0 → n.f0 = -1 ∧ n.f2 = []
  full : ∀ n ∈ u, 0 ≤ n.f0 → n.f2 ≠ [] ∧ n.f1 = 0
theorem red_nil : Red [] := ⟨fun i hi => by simp at hi, by simp, by simp, by simp, by simp⟩
theorem Red.fit {u : List Nd} (h : Red u) : Fit u := ⟨h.down, fun n hn h0 => (h.full n hn h0).1⟩
theorem nth_mem {u : List Nd} {i : Int} (h0 : 0 ≤ i) (h : i < u.length) : nth u i ∈ u := by
  unfold nth
  have h' : i.toNat < u.length := by omega
  rw [List.getD_eq_getElem?_getD, List.getElem?_eq_getElem h']
  exact List.getElem_mem h'
theorem nodup_nth {u : List Nd} (h : u.Nodup) {i j : Int} (hi : 0 ≤ i ∧ i < u.length) (hj : 0 ≤ j ∧ j < u.length) (e : nth u i = nth u j) : i = j := by
  unfold nth at e
  have hi' : i.toNat < u.length := by omega
  have hj' : j.toNat < u.length := by omega
  rw [List.getD_eq_getElem?_getD, List.getD_eq_getElem?_getD, List.getElem?_eq_getElem hi', List.getElem?_eq_getElem hj'] at e
  have e : u[i.toNat] = u[j.toNat] := e
  rw [List.nodup_iff_pairwise_ne, List.pairwise_iff_getElem] at h
  rcases Nat.lt_trichotomy i.toNat j.toNat with hlt | heq | hlt
  · exact absurd e (h _ _ hi' hj' hlt)
  · omega
  · exact absurd e.symm (h _ _ hj' hi' hlt)
theorem sameK_map {f : Int → Int} {l : List Int} (hf : ∀ x ∈ l, ∀ y ∈ l, f x = f y → x = y) (h : sameK (l.map f) = true) : sameK l = true := by
  cases l with
  | nil => rfl
  | cons a l =>
    refine List.all_eq_true.2 fun k hk => ?_
    have h1 := sameK_head h (f k) (List.mem_map_of_mem hk)
    have : k = a := hf k hk a List.mem_cons_self (by simpa using h1)
    simpa using this
theorem sameK_map' {f : Int → Int} {l : List Int} (h : sameK l = true) : sameK (l.map f) = true := by
  cases l with
  | nil => rfl
  | cons a l =>
    refine List.all_eq_true.2 fun k hk => ?_
    obtain ⟨x, hx, rfl⟩ := List.mem_map.1 hk
    have := sameK_head h x hx
    have e : x = a := by simpa using this
    simp [e]
theorem place0_nth (u : List Nd) (n : Nd) : nth (place0 u n).1 (place0 u n).2 = n := by
  unfold place0; split
  · rename_i h
    have := List.idxOf_lt_length_of_mem h
    simp [nth, this]
  · simp [nth]
theorem nth_prefix {u v : List Nd} (h : u <+: v) {a : Int} (h0 : 0 ≤ a) (h1 : a < u.length) : nth v a = nth u a := by
  obtain ⟨t, rfl⟩ := h; exact nth_append_left h0 h1
theorem Red.place0 {u : List Nd} (h : Red u) {n : Nd} (hk : ∀ k ∈ n.f2, 0 ≤ k ∧ k < (u.length : Int)) (ht : n.f2 ≠ [] → sameK n.f2 = false) (hl : n.f0 < 0 → n.f0 = -1 ∧ n.f2 = []) (hf : 0 ≤ n.f0 → n.f2 ≠ [] ∧ n.f1 = 0) : Red (place0 u n).1 := by
  refine ⟨place0_down h.down hk, place0_nodup h.nodup, ?_, ?_, ?_⟩
  all_goals
    unfold K.place0
    split
  · exact h.thin
  · intro m hm
    rcases List.mem_append.1 hm with hm | hm
    · exact h.thin m hm
    · rw [List.mem_singleton.1 hm]; exact ht
  · exact h.leafy
  · intro m hm
    rcases List.mem_append.1 hm with hm | hm
    · exact h.leafy m hm
    · rw [List.mem_singleton.1 hm]; exact hl
  · exact h.full
  · intro m hm
    rcases List.mem_append.1 hm with hm | hm
    · exact h.full m hm
    · rw [List.mem_singleton.1 hm]; exact hf
theorem Red.placeB {u : List Nd} (h : Red u) {s : Int} {kids : List Int} (hs : 0 ≤ s) (hk : ∀ k ∈ kids, 0 ≤ k ∧ k < (u.length : Int)) (hne : kids ≠ []) : Red (placeB u s kids).1 := by
  unfold K.placeB
  split
  · exact h
  · rename_i ht
    exact h.place0 hk (fun _ => by simpa using ht) (fun h' => by simp only at h'; omega) (fun _ => ⟨hne, rfl⟩)
theorem Red.place1 {u : List Nd} {at_ : List Int} (h : Red u) (ha : ∀ a ∈ at_, 0 ≤ a ∧ a < (u.length : Int)) {n : Nd} (hl : ∀ c ∈ n.f2, 0 ≤ c ∧ c < (at_.length : Int)) (hne : 0 ≤ n.f0 → n.f2 ≠ []) : Red (place1 u at_ n).1 := by
  unfold K.place1
  split
  · exact h.place0 (by simp) (by simp) (fun _ => ⟨rfl, rfl⟩) (fun h' => by simp only at h'; omega)
  · exact h.placeB (by omega) ((Tbl.mk h.down h.nodup ha).kids hl) (by simpa using hne (by omega))
theorem imp_red {ns : List Nd} (hf : Fit ns) {u : List Nd} (hu : Red u) : ∀ k, k ≤ ns.length → Red (imp u [] (ns.take k)).1 := by
  intro k
  induction k with
  | zero => intro _; simpa [imp] using hu
  | succ k ih =>
    intro hk
    have h1 := (imp_tbl hf ⟨hu.down, hu.nodup, by simp⟩ k (by omega)).1
    rw [take_snoc' (by omega), imp_snoc]
    refine (ih (by omega)).place1 h1.at_lt (fun c hc => ?_) (hf.2 _ (by rw [nth_lt (by omega)]; exact List.getElem_mem _))
    have := hf.1 k (by omega) c hc
    rw [imp_len]; simp; omega
/-- what depth first search from a root leaves -/
theorem expo_pl {u : List Nd} (hu : Down u) {r : Nat} (hr : r < u.length) : ∃ g : PM, Pl u (g, expo u r) ∧ g r = some (((expo u r).length - 1 : Nat) : Int) ∧ 0 < (expo u r).length := by
  obtain ⟨h1, _, h3, _⟩ := dfs_pl hu (r + 1) r (fun _ => none, []) hr (by omega) (pl_nil u)
  refine ⟨(dfs u (r + 1) r (fun _ => none, [])).1, by unfold expo; rw [Int.toNat_natCast]; exact h1, ?_⟩
  unfold expo; rw [Int.toNat_natCast]
  simp [dfs, fin, upd]
theorem Pl.iso {u : List Nd} {s : St} (h : Pl u s) : Iso u s.2 s.1 :=
  ⟨h.inj, fun i a hi => by
    obtain ⟨h1, h2, h3, h4, h5, h6⟩ := h.node i a hi
    exact ⟨h1, h2, h3, h4, h5, fun k hk => by obtain ⟨b, hb, _⟩ := h6 k hk; rw [hb]; rfl⟩⟩
theorem Pl.down {u : List Nd} {s : St} (h : Pl u s) : Down s.2 := by
  intro a ha k hk
  obtain ⟨i, hi⟩ := h.all a ha
  obtain ⟨_, _, _, _, h5, h6⟩ := h.node i a hi
  rw [h5] at hk
  obtain ⟨c, hc, rfl⟩ := List.mem_map.1 hk
  obtain ⟨b, hb, hlt⟩ := h6 c hc
  rw [hb]
  exact ⟨(h.node c b hb).2.1, hlt⟩
theorem mp_inj {g : PM} (hg : ∀ i j a, g i = some a → g j = some a → i = j) : ∀ (l l' : List Int), (∀ k ∈ l, (g k).isSome) → (∀ k ∈ l', (g k).isSome) → mp g l = mp g l' → l = l'
  | [], [], _, _, _ => rfl
  | [], _ :: _, _, _, h => by simp [mp] at h
  | _ :: _, [], _, _, h => by simp [mp] at h
  | a :: l, b :: l', h1, h2, h => by
    simp only [mp, List.map_cons, List.cons.injEq] at h
    obtain ⟨x, hx⟩ := Option.isSome_iff_exists.1 (h1 a List.mem_cons_self)
    obtain ⟨y, hy⟩ := Option.isSome_iff_exists.1 (h2 b List.mem_cons_self)
    have : x = y := by simpa [hx, hy] using h.1
    subst this
    rw [hg a b x hx hy, mp_inj hg l l' (fun k hk => h1 k (List.mem_cons_of_mem _ hk)) (fun k hk => h2 k (List.mem_cons_of_mem _ hk)) h.2]
theorem Iso.nodup_of {u v : List Nd} {g : PM} (h : Iso u v g) (hu : u.Nodup) (hall : ∀ a : Nat, a < v.length → ∃ i, g i = some (a : Int)) : v.Nodup := by
  rw [List.nodup_iff_pairwise_ne, List.pairwise_iff_getElem]
  intro a b ha hb hab e
  obtain ⟨i, hi⟩ := hall a ha
  obtain ⟨j, hj⟩ := hall b hb
  obtain ⟨i1, _, i3, _, i5, i6⟩ := h.node i a hi
  obtain ⟨j1, _, j3, _, j5, j6⟩ := h.node j b hj
  rw [nth_lt ha] at i5
  rw [nth_lt hb] at j5
  rw [e, j5] at i5
  simp only [S60.mk.injEq] at i5
  obtain ⟨e0, e1, e2⟩ := i5
  have e3 := mp_inj h.inj _ _ j6 i6 e2
  have : nth u i = nth u j := by
    have p : ∀ n m : Nd, n.f0 = m.f0 → n.f1 = m.f1 → n.f2 = m.f2 → n = m := by rintro ⟨⟩ ⟨⟩ rfl rfl rfl; rfl
    exact p _ _ e0.symm e1.symm e3.symm
  have := nodup_nth hu ⟨i1, i3⟩ ⟨j1, j3⟩ this
  subst this
  rw [hi] at hj
  have := Option.some.inj hj
  omega
theorem Pl.red {u : List Nd} {s : St} (h : Pl u s) (hu : Red u) : Red s.2 := by
  have hiso := h.iso
  have hnode : ∀ n ∈ s.2, ∃ i a, s.1 i = some a ∧ 0 ≤ i ∧ i < u.length ∧ n = ⟨(nth u i).f0, (nth u i).f1, mp s.1 (nth u i).f2⟩ ∧ ∀ k ∈ (nth u i).f2, (s.1 k).isSome := by
    intro n hn
    obtain ⟨a, ha, rfl⟩ := List.getElem_of_mem hn
    obtain ⟨i, hi⟩ := h.all a ha
    obtain ⟨i1, _, i3, _, i5, i6⟩ := hiso.node i a hi
    rw [nth_lt ha] at i5
    exact ⟨i, a, hi, i1, i3, i5, i6⟩
  refine ⟨h.down, hiso.nodup_of hu.nodup h.all, ?_, ?_, ?_⟩
  · intro n hn hne
    obtain ⟨i, a, hi, i1, i3, rfl, i6⟩ := hnode n hn
    have hne' : (nth u i).f2 ≠ [] := by intro e; exact hne (by simp [e, mp])
    have := hu.thin _ (nth_mem i1 i3) hne'
    cases hs : sameK (mp s.1 (nth u i).f2) with
    | false => rfl
    | true =>
      rw [sameK_map (fun x hx y hy e => ?_) hs] at this
      · cases this
      · obtain ⟨p, hp⟩ := Option.isSome_iff_exists.1 (i6 x hx)
        obtain ⟨q, hq⟩ := Option.isSome_iff_exists.1 (i6 y hy)
        have : p = q := by simpa [hp, hq] using e
        exact h.inj x y p hp (by rw [this]; exact hq)
  · intro n hn h0
    obtain ⟨i, a, hi, i1, i3, rfl, i6⟩ := hnode n hn
    obtain ⟨l1, l2⟩ := hu.leafy _ (nth_mem i1 i3) h0
    exact ⟨l1, by simp [l2, mp]⟩
  · intro n hn h0
    obtain ⟨i, a, hi, i1, i3, rfl, i6⟩ := hnode n hn
    obtain ⟨l1, l2⟩ := hu.full _ (nth_mem i1 i3) h0
    exact ⟨by simpa [mp] using l1, l2⟩
/-- a canonical list -/
structure Can (d : List Nd) : Prop where
  red : Red d
  ne : 0 < d.length
  self : expo d ((d.length - 1 : Nat) : Int) = d
theorem expo_can {u : List Nd} (hu : Red u) {r : Nat} (hr : r < u.length) : Can (expo u r) := by
  obtain ⟨g, h1, h2, h3⟩ := expo_pl hu.down hr
  exact ⟨h1.red hu, h3, (expo_iso h1.iso hu.down h1.down h2).symm⟩
/-- a reduced list brought into a table: node for node -/
theorem imp_iso {d : List Nd} (hd : Red d) {v : List Nd} (hv : Red v) : ∀ k, k ≤ d.length → Iso (d.take k) (imp v [] (d.take k)).1 (fun i => if 0 ≤ i ∧ i < k then some (lk (imp v [] (d.take k)).2 i) else none) := by
  intro k
  induction k with
  | zero => intro _; exact ⟨fun i j a h => by simp at h; omega, fun i a h => by simp at h; omega⟩
  | succ k ih =>
    intro hk
    have h0 := ih (by omega)
    obtain ⟨t1, t2, t3⟩ := imp_tbl hd.fit (u := v) ⟨hv.down, hv.nodup, by simp⟩ k (by omega)
    have hlen := imp_len (d.take k) v []
    have e := take_snoc' (ns := d) (k := k) (by omega)
    have hdn := hd.down k (by omega)
    have hmem : nth d k ∈ d := by rw [nth_lt (by omega)]; exact List.getElem_mem _
    rw [e, imp_snoc]
    generalize hI : imp v [] (d.take k) = I at h0 t1 t2 t3 hlen
    obtain ⟨u, at_⟩ := I
    simp only at h0 t1 t2 t3 hlen ⊢
    have hlen' : at_.length = k := by rw [hlen]; simp; omega
    have hlk : ∀ i : Int, 0 ≤ i → i < k → lk (at_ ++ [(place1 u at_ (nth d k)).2]) i = lk at_ i := by
      intro i i0 i1
      unfold lk
      rw [List.getD_eq_getElem?_getD, List.getD_eq_getElem?_getD, List.getElem?_append_left (by omega)]
    have hlast : lk (at_ ++ [(place1 u at_ (nth d k)).2]) k = (place1 u at_ (nth d k)).2 := by
      unfold lk
      rw [List.getD_eq_getElem?_getD, Int.toNat_natCast, List.getElem?_append_right (by omega)]
      simp [hlen']
    have hinj : ∀ x : Int, (0 ≤ x ∧ x < (k : Int)) → ∀ y : Int, (0 ≤ y ∧ y < (k : Int)) → lk at_ x = lk at_ y → x = y := by
      intro x hx y hy hxy
      exact h0.inj x y (lk at_ x) (by rw [if_pos (by omega)]) (by rw [if_pos (by omega), hxy])
    -- the new node is stored as it is
    have hp : nth (place1 u at_ (nth d k)).1 (place1 u at_ (nth d k)).2 = ⟨(nth d k).f0, (nth d k).f1, (nth d k).f2.map (lk at_)⟩ ∧ u <+: (place1 u at_ (nth d k)).1 ∧ 0 ≤ (place1 u at_ (nth d k)).2 ∧ (place1 u at_ (nth d k)).2 < (place1 u at_ (nth d k)).1.length := by
      unfold place1
      split
      · rename_i hneg
        obtain ⟨l1, l2⟩ := hd.leafy _ hmem hneg
        refine ⟨?_, place0_pre _ _, place0_lt _ _⟩
        rw [place0_nth, l1, l2]; rfl
      · rename_i hneg
        obtain ⟨l1, l2⟩ := hd.full _ hmem (by omega)
        unfold placeB
        rw [if_neg]
        · refine ⟨?_, place0_pre _ _, place0_lt _ _⟩
          rw [place0_nth, l2]
        · intro hs
          have h1 := hd.thin _ hmem l1
          rw [sameK_map (fun x hx y hy e => hinj x ?_ y ?_ e) hs] at h1
          · cases h1
          · exact hdn x hx
          · exact hdn y hy
    obtain ⟨p1, p2, p3, p4⟩ := hp
    have hnode : ∀ i : Nat, i < k → nth (d.take k ++ [nth d k]) i = nth d i ∧ nth (d.take k) i = nth d i := by
      intro i hi
      have h1 : nth (d.take k) i = nth d i := by rw [nth_lt (by simp; omega), nth_lt (by omega)]; simp
      exact ⟨by rw [nth_append_left (by omega) (by simp; omega), h1], h1⟩
    have hnk : nth (d.take k ++ [nth d k]) k = nth d k := by
      rw [← e, nth_lt (by simp; omega)]
      simp [nth_lt (show k < d.length by omega)]
    have hmpk : ∀ (l : List Int), (∀ c ∈ l, 0 ≤ c ∧ c < (k : Int)) → mp (fun i => if 0 ≤ i ∧ i < ((k + 1 : Nat) : Int) then some (lk (at_ ++ [(place1 u at_ (nth d k)).2]) i) else none) l = l.map (lk at_) := by
      intro l hl
      refine List.map_congr_left fun c hc => ?_
      have := hl c hc
      simp only
      rw [if_pos (by omega), hlk c this.1 this.2]; rfl
    have hkid : ∀ i : Nat, i < k → ∀ c ∈ (nth d i).f2, 0 ≤ c ∧ c < (k : Int) := by
      intro i hi c hc
      have := hd.down i (by omega) c hc
      omega
    have hmp0 : ∀ (l : List Int), (∀ c ∈ l, 0 ≤ c ∧ c < (k : Int)) → mp (fun i => if 0 ≤ i ∧ i < (k : Int) then some (lk at_ i) else none) l = l.map (lk at_) := by
      intro l hl
      refine List.map_congr_left fun c hc => ?_
      have := hl c hc
      simp only
      rw [if_pos (by omega)]; rfl
    have hold : ∀ i : Nat, i < k → 0 ≤ lk at_ i ∧ lk at_ i < u.length ∧ nth u (lk at_ i) = ⟨(nth d i).f0, (nth d i).f1, (nth d i).f2.map (lk at_)⟩ := by
      intro i hi
      obtain ⟨_, a2, _, a4, a5, _⟩ := h0.node i (lk at_ i) (by rw [if_pos (by omega)])
      rw [(hnode i hi).2, hmp0 _ (hkid i hi)] at a5
      exact ⟨a2, a4, a5⟩
    have hmapinj : ∀ (l l' : List Int), (∀ c ∈ l, 0 ≤ c ∧ c < (k : Int)) → (∀ c ∈ l', 0 ≤ c ∧ c < (k : Int)) → l.map (lk at_) = l'.map (lk at_) → l = l' := by
      intro l
      induction l with
      | nil => intro l' _ _ h; cases l' with
        | nil => rfl
        | cons => simp at h
      | cons a l ihl =>
        intro l' h1 h2 h
        cases l' with
        | nil => simp at h
        | cons b l' =>
          simp only [List.map_cons, List.cons.injEq] at h
          rw [hinj a (h1 a List.mem_cons_self) b (h2 b List.mem_cons_self) h.1, ihl l' (fun c hc => h1 c (List.mem_cons_of_mem _ hc)) (fun c hc => h2 c (List.mem_cons_of_mem _ hc)) h.2]
    have hnew : ∀ i : Nat, i < k → lk at_ i ≠ (place1 u at_ (nth d k)).2 := by
      intro i hi he
      obtain ⟨b1, b2, b3⟩ := hold i hi
      have h5 := nth_prefix p2 b1 b2
      rw [b3, he, p1] at h5
      simp only [S60.mk.injEq] at h5
      obtain ⟨e0, e1, e2⟩ := h5
      have e3 := hmapinj _ _ (fun c hc => hdn c hc) (hkid i hi) e2
      have p : ∀ n m : Nd, n.f0 = m.f0 → n.f1 = m.f1 → n.f2 = m.f2 → n = m := by rintro ⟨⟩ ⟨⟩ rfl rfl rfl; rfl
      have := nodup_nth hd.nodup (i := k) (j := i) ⟨by omega, by omega⟩ ⟨by omega, by omega⟩ (p _ _ e0 e1 e3)
      omega
    refine ⟨?_, ?_⟩
    · intro i j a hi hj
      by_cases h1 : 0 ≤ i ∧ i < ((k + 1 : Nat) : Int)
      · by_cases h2 : 0 ≤ j ∧ j < ((k + 1 : Nat) : Int)
        · rw [if_pos h1] at hi
          rw [if_pos h2] at hj
          have hi := Option.some.inj hi
          have hj := Option.some.inj hj
          by_cases i1 : i < k <;> by_cases j1 : j < k
          · rw [hlk i h1.1 i1] at hi; rw [hlk j h2.1 j1] at hj
            exact hinj i ⟨h1.1, i1⟩ j ⟨h2.1, j1⟩ (hi.trans hj.symm)
          · have ej : j = k := by omega
            subst ej
            rw [hlk i h1.1 i1] at hi; rw [hlast] at hj
            obtain ⟨n, rfl⟩ : ∃ n : Nat, i = n := ⟨i.toNat, by omega⟩
            exact absurd (hi.trans hj.symm) (hnew n (by omega))
          · have ei : i = k := by omega
            subst ei
            rw [hlast] at hi; rw [hlk j h2.1 j1] at hj
            obtain ⟨n, rfl⟩ : ∃ n : Nat, j = n := ⟨j.toNat, by omega⟩
            exact absurd (hj.trans hi.symm) (hnew n (by omega))
          · omega
        · rw [if_neg h2] at hj; cases hj
      · rw [if_neg h1] at hi; cases hi
    · intro i a hi
      by_cases h1 : 0 ≤ i ∧ i < ((k + 1 : Nat) : Int)
      · rw [if_pos h1] at hi
        have hi := Option.some.inj hi
        obtain ⟨n, rfl⟩ : ∃ n : Nat, i = n := ⟨i.toNat, by omega⟩
        by_cases i1 : n < k
        · rw [hlk n h1.1 (by omega)] at hi
          subst hi
          obtain ⟨b1, b2, b3⟩ := hold n i1
          refine ⟨h1.1, b1, by simp; omega, by have := p2.length_le; omega, ?_, ?_⟩
          · rw [(hnode n i1).1, hmpk _ (hkid n i1), nth_prefix p2 b1 b2, b3]
          · rw [(hnode n i1).1]
            intro c hc
            have := hkid n i1 c hc
            rw [if_pos (by omega)]; rfl
        · have : n = k := by omega
          subst this
          rw [hlast] at hi
          subst hi
          refine ⟨h1.1, p3, by simp; omega, p4, ?_, ?_⟩
          · rw [hnk, hmpk _ (fun c hc => hdn c hc), p1]
          · rw [hnk]
            intro c hc
            have := hdn c hc
            rw [if_pos (by omega)]; rfl
      · rw [if_neg h1] at hi; cases hi
/-- storing a canonical list and taking it out again gives it back -/
theorem imp_expo {d : List Nd} (hd : Can d) {v : List Nd} (hv : Red v) : expo (imp v [] d).1 (lk (imp v [] d).2 ((d.length - 1 : Nat) : Int)) = d := by
  have h := imp_iso hd.red hv d.length (Nat.le_refl _)
  rw [List.take_length] at h
  have := hd.ne
  have hr := imp_red hd.red.fit hv d.length (Nat.le_refl _)
  rw [List.take_length] at hr
  have := expo_iso h hd.red.down hr.down (i := ((d.length - 1 : Nat) : Int)) (a := lk (imp v [] d).2 ((d.length - 1 : Nat) : Int)) (by rw [if_pos (by omega)])
  rw [← this, hd.self]
end Go.Proofs.YtopbjginpmdebaaDoor.K
/-
  DERIVED: THE SHELF's CONTRACTS AT THIS DUMP, IN PLAIN WORDS (tools/lay-plain.mjs out of 'TrydShelf.lean', which tools/lay-shelf.mjs wrote): THE SAME DECLARATIONS UNDER THE SAME NAMES: 'import', 'namespace', 'open', 'def', 'theorem' AND NOTHING ELSE: no command of the shelf's: FOR A HAND-IN. Each laying: the table of numbers ('.._ren') and one theorem, a field a fact of the dump's own or the kernel's comparison; each contract: ONE APPLICATION.
-/
namespace Go.Proofs
open Go.Shelf
def Tryd.lays129_ren : Go.Shelf.Ren := ⟨fun | 129 => 93 | n => n, fun | 53 => 114 | 3 => 3 | 4 => 4 | 46 => 103 | 5 => 5 | 9 => 9 | n => n, fun | n => n⟩
theorem Tryd.lays129 : Go.Proofs.Lays.n129 Tryd.prog Tryd.lays129_ren := {
  mixed := by kernel_rfl
  f129 := Tryd.func93.trans (congrArg some (by kernel_rfl))
  t3 := Tryd.underlying3
  a3 := Tryd.isAgg3
  z3 := Tryd.sizeOf3
  v3 := Tryd.zeroValue3
  t4 := Tryd.underlying4
  a4 := Tryd.isAgg4
  z4 := Tryd.sizeOf4
  v4 := Tryd.zeroValue4
  t5 := Tryd.underlying5
  a5 := Tryd.isAgg5
  z5 := Tryd.sizeOf5
  v5 := Tryd.zeroValue5
  t9 := Tryd.underlying9
  a9 := Tryd.isAgg9
  z9 := Tryd.sizeOf9
  v9 := Tryd.zeroValue9
  t46 := Tryd.underlying103
  a46 := Tryd.isAgg103
  z46 := Tryd.sizeOf103
  v46 := Tryd.zeroValue103
  t53 := Tryd.underlying114
  a53 := Tryd.isAgg114
  z53 := Tryd.sizeOf114
  v53 := Tryd.zeroValue114 }
/-- bits.Len64: "Len64 returns the minimum number of bits required to represent x; the result is 0 for x == 0.": IT RETURNS 'Lib.bitLen x'; the world is as it was. ('h0', 'h1': x is a uint64.) (LAID: no walk: one application.) -/
theorem Tryd.bits_Len64 (x : Int) (w : World) (h0 : 0 ≤ x) (h1 : x ≤ 18446744073709551615) :
    Calls Tryd.prog 93 #[.int .u64 x] w fun e w' => e = .returned (.int .i64 (Lib.bitLen x.toNat)) ∧ w' = w := Any.bits_Len64 Tryd.lays129 x w h0 h1
def Tryd.lays317_ren : Go.Shelf.Ren := ⟨fun | 317 => 106 | n => n, fun | 3 => 3 | 46 => 103 | n => n, fun | n => n⟩
theorem Tryd.lays317 : Go.Proofs.Lays.n317 Tryd.prog Tryd.lays317_ren := {
  mixed := by kernel_rfl
  f317 := Tryd.func106.trans (congrArg some (by kernel_rfl))
  t3 := Tryd.underlying3
  a3 := Tryd.isAgg3
  z3 := Tryd.sizeOf3
  v3 := Tryd.zeroValue3
  t46 := Tryd.underlying103
  a46 := Tryd.isAgg103
  z46 := Tryd.sizeOf103
  v46 := Tryd.zeroValue103 }
open Go.Lib in
/-- internal/strconv.log10Pow2: "log10Pow2(x) returns ⌊log₁₀ 2**x⌋ = ⌊x * log₁₀ 2⌋.": '(x * 78913) >> 18', at an x up to 64 (a length in bits). The world is as it was. (LAID: no walk: one application.) -/
theorem Tryd.internal_strconv_log10Pow2 (x : Nat) (h : x ≤ 64) (w : World) :
    Calls Tryd.prog 106 #[.int .i64 x] w fun e w' => e = .returned (.int .i64 (Lib.l10 x)) ∧ w' = w := Any.internal_strconv_log10Pow2 Tryd.lays317 x h w
def Tryd.lays318_ren : Go.Shelf.Ren := ⟨fun | 318 => 107 | n => n, fun | 3 => 3 | 4 => 4 | n => n, fun | n => n⟩
theorem Tryd.lays318 : Go.Proofs.Lays.n318 Tryd.prog Tryd.lays318_ren := {
  mixed := by kernel_rfl
  f318 := Tryd.func107.trans (congrArg some (by kernel_rfl))
  t3 := Tryd.underlying3
  a3 := Tryd.isAgg3
  z3 := Tryd.sizeOf3
  v3 := Tryd.zeroValue3
  t4 := Tryd.underlying4
  a4 := Tryd.isAgg4
  z4 := Tryd.sizeOf4
  v4 := Tryd.zeroValue4 }
open Go.Lib in
/-- internal/strconv.bool2: "bool2 converts b to an integer: 1 for true, 0 for false." The world is as it was. (LAID: no walk: one application.) -/
theorem Tryd.internal_strconv_bool2_int (b : Bool) (w : World) :
    Calls Tryd.prog 107 #[.bool b] w fun e w' => e = .returned (.int .i64 (if b then 1 else 0)) ∧ w' = w := Any.internal_strconv_bool2_int Tryd.lays318 b w
def Tryd.lays283_ren : Go.Shelf.Ren := ⟨fun | 283 => 101 | n => n, fun | 3 => 3 | 9 => 9 | 4 => 4 | n => n, fun | n => n⟩
theorem Tryd.lays283 : Go.Proofs.Lays.n283 Tryd.prog Tryd.lays283_ren := {
  mixed := by kernel_rfl
  f283 := Tryd.func101.trans (congrArg some (by kernel_rfl))
  t3 := Tryd.underlying3
  a3 := Tryd.isAgg3
  z3 := Tryd.sizeOf3
  v3 := Tryd.zeroValue3
  t4 := Tryd.underlying4
  a4 := Tryd.isAgg4
  z4 := Tryd.sizeOf4
  v4 := Tryd.zeroValue4
  t9 := Tryd.underlying9
  a9 := Tryd.isAgg9
  z9 := Tryd.sizeOf9
  v9 := Tryd.zeroValue9 }
open Go.Lib in
/-- internal/strconv.small: "small returns the string for an i with 0 <= i < nSmalls.": i's decimal numeral. The world is as it was. (LAID: no walk: one application.) -/
theorem Tryd.internal_strconv_small (i : Nat) (h : i < 100) (w : World) :
    Calls Tryd.prog 101 #[.int .i64 i] w fun e w' => e = .returned (.string ⟨(Lib.decDigits i).toArray⟩) ∧ w' = w := Any.internal_strconv_small Tryd.lays283 i h w
def Tryd.laysM284_ren : Go.Shelf.Ren := ⟨fun | 284 => 102 | 129 => 93 | 317 => 106 | 318 => 107 | n => n, fun | 53 => 114 | 3 => 3 | 212 => 131 | 0 => 0 | 4 => 4 | 46 => 103 | 5 => 5 | 9 => 9 | n => n, fun | 17 => 0 | n => n⟩
theorem Tryd.laysM284 : Go.Proofs.LaysM.n284 Tryd.prog Tryd.laysM284_ren := {
  mixed := by kernel_rfl
  f129 := Tryd.func93.trans (congrArg some (by kernel_rfl))
  f284 := Tryd.func102.trans (congrArg some (by kernel_rfl))
  f317 := Tryd.func106.trans (congrArg some (by kernel_rfl))
  f318 := Tryd.func107.trans (congrArg some (by kernel_rfl))
  t0 := Tryd.underlying0
  a0 := Tryd.isAgg0
  z0 := Tryd.sizeOf0
  v0 := Tryd.zeroValue0
  t3 := Tryd.underlying3
  a3 := Tryd.isAgg3
  z3 := Tryd.sizeOf3
  v3 := Tryd.zeroValue3
  t4 := Tryd.underlying4
  a4 := Tryd.isAgg4
  z4 := Tryd.sizeOf4
  v4 := Tryd.zeroValue4
  t5 := Tryd.underlying5
  a5 := Tryd.isAgg5
  z5 := Tryd.sizeOf5
  v5 := Tryd.zeroValue5
  t9 := Tryd.underlying9
  a9 := Tryd.isAgg9
  z9 := Tryd.sizeOf9
  v9 := Tryd.zeroValue9
  t46 := Tryd.underlying103
  a46 := Tryd.isAgg103
  z46 := Tryd.sizeOf103
  v46 := Tryd.zeroValue103
  t53 := Tryd.underlying114
  a53 := Tryd.isAgg114
  z53 := Tryd.sizeOf114
  v53 := Tryd.zeroValue114
  t212 := Tryd.underlying131
  a212 := Tryd.isAgg131
  z212 := Tryd.sizeOf131
  v212 := Tryd.zeroValue131
  g17 := by kernel_rfl
  i0 := by kernel_rfl
  i3 := by kernel_rfl
  i4 := by kernel_rfl
  i5 := by kernel_rfl
  i9 := by kernel_rfl
  i46 := by kernel_rfl
  i53 := by kernel_rfl
  i212 := by kernel_rfl
  m17 := by kernel_rfl }
open Go.Lib in
/-- internal/strconv.numDigits, at a d that is not 0: THE NUMBER OF d's DECIMAL DIGITS. The world is as it was. (LAID: no walk: one application.) -/
theorem Tryd.internal_strconv_numDigits (u : Nat) (h1 : 1 ≤ u) (h2 : u < 18446744073709551616) (w : World) (htab : Lib.TabIs Tryd.prog w "internal/strconv.uint64pow10" .u64 Lib.pow10Tab) :
    Calls Tryd.prog 102 #[.int .u64 u] w fun e w' => e = .returned (.int .i64 (Lib.nDigits u)) ∧ w' = w := Any.internal_strconv_numDigits Tryd.laysM284 u h1 h2 w htab
def Tryd.lays285_ren : Go.Shelf.Ren := ⟨fun | 285 => 103 | n => n, fun | 37 => 99 | 53 => 114 | 3 => 3 | 4 => 4 | 51 => 112 | 9 => 9 | 5 => 5 | 0 => 0 | n => n, fun | n => n⟩
theorem Tryd.lays285 : Go.Proofs.Lays.n285 Tryd.prog Tryd.lays285_ren := {
  mixed := by kernel_rfl
  f285 := Tryd.func103.trans (congrArg some (by kernel_rfl))
  t0 := Tryd.underlying0
  a0 := Tryd.isAgg0
  z0 := Tryd.sizeOf0
  v0 := Tryd.zeroValue0
  t3 := Tryd.underlying3
  a3 := Tryd.isAgg3
  z3 := Tryd.sizeOf3
  v3 := Tryd.zeroValue3
  t4 := Tryd.underlying4
  a4 := Tryd.isAgg4
  z4 := Tryd.sizeOf4
  v4 := Tryd.zeroValue4
  t5 := Tryd.underlying5
  a5 := Tryd.isAgg5
  z5 := Tryd.sizeOf5
  v5 := Tryd.zeroValue5
  t9 := Tryd.underlying9
  a9 := Tryd.isAgg9
  z9 := Tryd.sizeOf9
  v9 := Tryd.zeroValue9
  t37 := Tryd.underlying99
  a37 := Tryd.isAgg99
  z37 := Tryd.sizeOf99
  v37 := Tryd.zeroValue99
  t51 := Tryd.underlying112
  a51 := Tryd.isAgg112
  z51 := Tryd.sizeOf112
  v51 := Tryd.zeroValue112
  t53 := Tryd.underlying114
  a53 := Tryd.isAgg114
  z53 := Tryd.sizeOf114
  v53 := Tryd.zeroValue114 }
open Go.RowKit Go.Sort Go.Lib in
/-- internal/strconv.formatBase10: "formatBase10 formats the decimal representation of u into a. The caller is responsible for ensuring that a is big enough to hold u. If a is too big, leading zeros will be filled in as needed.": THE ROW HOLDS u's DIGITS ('FmtInv .. 0 ..': every place t holds 'dg u (len - 1 - t)'); all else is as it was but for the count of draws. (LAID: no walk: one application.) -/
theorem Tryd.internal_strconv_formatBase10 (blk off cap : Nat) (u : Nat) (d : Array UInt8) (w : World) (hH : Holds (fun (b : UInt8) => Value.int .u8 (b.toNat : Int)) w blk off d) (hu : u < 10 ^ d.size) (hu64 : u < 18446744073709551616) (hsz : d.size < 4611686018427387904) :
    Calls Tryd.prog 103 #[.slice (some ⟨blk, off, none⟩) d.size cap, .int .u64 u] w fun e w' =>
      e = .returned (.tuple #[]) ∧ ∃ (n v' : Nat) (dk : Array UInt8), w' = (putRow (fun (b : UInt8) => Value.int .u8 (b.toNat : Int)) w blk off dk).drewN n ∧ FmtInv d.size u 0 v' dk := Any.internal_strconv_formatBase10 Tryd.lays285 blk off cap u d w hH hu hu64 hsz
def Tryd.lays189_ren : Go.Shelf.Ren := ⟨fun | 189 => 75 | 125 => 81 | 257 => 80 | 128 => 92 | 129 => 93 | 294 => 83 | 295 => 84 | 296 => 85 | 297 => 86 | 298 => 87 | 299 => 88 | 216 => 89 | 300 => 90 | 301 => 91 | 328 => 95 | 329 => 96 | 330 => 97 | 331 => 98 | 332 => 99 | 215 => 100 | 343 => 105 | n => n, fun | 28 => 22 | 3 => 3 | 46 => 103 | 0 => 0 | 51 => 112 | 53 => 114 | 4 => 4 | 183 => 106 | 182 => 105 | 131 => 88 | 5 => 5 | 9 => 9 | 218 => 116 | 222 => 120 | 228 => 127 | 229 => 128 | n => n, fun | n => n⟩
theorem Tryd.lays189 : Go.Proofs.Lays.n189 Tryd.prog Tryd.lays189_ren := {
  mixed := by kernel_rfl
  f125 := Tryd.func81.trans (congrArg some (by kernel_rfl))
  f128 := Tryd.func92.trans (congrArg some (by kernel_rfl))
  f129 := Tryd.func93.trans (congrArg some (by kernel_rfl))
  f189 := Tryd.func75.trans (congrArg some (by kernel_rfl))
  f215 := Tryd.func100.trans (congrArg some (by kernel_rfl))
  f216 := Tryd.func89.trans (congrArg some (by kernel_rfl))
  f257 := Tryd.func80.trans (congrArg some (by kernel_rfl))
  f294 := Tryd.func83.trans (congrArg some (by kernel_rfl))
  f295 := Tryd.func84.trans (congrArg some (by kernel_rfl))
  f296 := Tryd.func85.trans (congrArg some (by kernel_rfl))
  f297 := Tryd.func86.trans (congrArg some (by kernel_rfl))
  f298 := Tryd.func87.trans (congrArg some (by kernel_rfl))
  f299 := Tryd.func88.trans (congrArg some (by kernel_rfl))
  f300 := Tryd.func90.trans (congrArg some (by kernel_rfl))
  f301 := Tryd.func91.trans (congrArg some (by kernel_rfl))
  f328 := Tryd.func95.trans (congrArg some (by kernel_rfl))
  f329 := Tryd.func96.trans (congrArg some (by kernel_rfl))
  f330 := Tryd.func97.trans (congrArg some (by kernel_rfl))
  f331 := Tryd.func98.trans (congrArg some (by kernel_rfl))
  f332 := Tryd.func99.trans (congrArg some (by kernel_rfl))
  f343 := Tryd.func105.trans (congrArg some (by kernel_rfl))
  t0 := Tryd.underlying0
  a0 := Tryd.isAgg0
  z0 := Tryd.sizeOf0
  v0 := Tryd.zeroValue0
  t3 := Tryd.underlying3
  a3 := Tryd.isAgg3
  z3 := Tryd.sizeOf3
  v3 := Tryd.zeroValue3
  t4 := Tryd.underlying4
  a4 := Tryd.isAgg4
  z4 := Tryd.sizeOf4
  v4 := Tryd.zeroValue4
  t5 := Tryd.underlying5
  a5 := Tryd.isAgg5
  z5 := Tryd.sizeOf5
  v5 := Tryd.zeroValue5
  t9 := Tryd.underlying9
  a9 := Tryd.isAgg9
  z9 := Tryd.sizeOf9
  v9 := Tryd.zeroValue9
  t28 := Tryd.underlying22
  a28 := Tryd.isAgg22
  z28 := Tryd.sizeOf22
  v28 := Tryd.zeroValue22
  t46 := Tryd.underlying103
  a46 := Tryd.isAgg103
  z46 := Tryd.sizeOf103
  v46 := Tryd.zeroValue103
  t51 := Tryd.underlying112
  a51 := Tryd.isAgg112
  z51 := Tryd.sizeOf112
  v51 := Tryd.zeroValue112
  t53 := Tryd.underlying114
  a53 := Tryd.isAgg114
  z53 := Tryd.sizeOf114
  v53 := Tryd.zeroValue114
  t131 := Tryd.underlying88
  a131 := Tryd.isAgg88
  z131 := Tryd.sizeOf88
  v131 := Tryd.zeroValue88
  t182 := Tryd.underlying105
  a182 := Tryd.isAgg105
  z182 := Tryd.sizeOf105
  v182 := Tryd.zeroValue105
  t183 := Tryd.underlying106
  a183 := Tryd.isAgg106
  z183 := Tryd.sizeOf106
  v183 := Tryd.zeroValue106
  t218 := Tryd.underlying116
  a218 := Tryd.isAgg116
  z218 := Tryd.sizeOf116
  v218 := Tryd.zeroValue116
  t222 := Tryd.underlying120
  a222 := Tryd.isAgg120
  z222 := Tryd.sizeOf120
  v222 := Tryd.zeroValue120
  t228 := Tryd.underlying127
  a228 := Tryd.isAgg127
  z228 := Tryd.sizeOf127
  v228 := Tryd.zeroValue127
  t229 := Tryd.underlying128
  a229 := Tryd.isAgg128
  z229 := Tryd.sizeOf128
  v229 := Tryd.zeroValue128 }
open Go.Sort Go.RowKit in
theorem Tryd.slices_Sort_int (blk off cap : Nat) (zs : List Int) (w : World) (hH : Holds (Value.int .i64) w blk off zs.toArray) (hblk : blk < w.heap.size) (hsz : zs.length < 4611686018427387904) :
    Calls Tryd.prog 75 #[.slice (some ⟨blk, off, none⟩) zs.length cap] w fun e w' =>
      e = .returned (.tuple #[]) ∧ ∃ n os, w' = grow (putRow (Value.int .i64) (Sort.ahead w n) blk off (zs.mergeSort fun x y => decide (x ≤ y)).toArray) os := Any.slices_Sort_int Tryd.lays189 blk off cap zs w hH hblk hsz
def Tryd.laysM288_ren : Go.Shelf.Ren := ⟨fun | 288 => 94 | 283 => 101 | 284 => 102 | 285 => 103 | 286 => 104 | 129 => 93 | 317 => 106 | 318 => 107 | 319 => 108 | 320 => 109 | 337 => 110 | 338 => 111 | n => n, fun | 37 => 99 | 53 => 114 | 3 => 3 | 4 => 4 | 9 => 9 | 171 => 123 | 0 => 0 | 173 => 125 | 212 => 131 | 51 => 112 | 5 => 5 | 20 => 20 | 213 => 132 | 46 => 103 | 232 => 133 | 233 => 134 | n => n, fun | 17 => 0 | 18 => 1 | 19 => 2 | n => n⟩
theorem Tryd.laysM288 : Go.Proofs.LaysM.n288 Tryd.prog Tryd.laysM288_ren := {
  mixed := by kernel_rfl
  f129 := Tryd.func93.trans (congrArg some (by kernel_rfl))
  f283 := Tryd.func101.trans (congrArg some (by kernel_rfl))
  f284 := Tryd.func102.trans (congrArg some (by kernel_rfl))
  f285 := Tryd.func103.trans (congrArg some (by kernel_rfl))
  f286 := Tryd.func104.trans (congrArg some (by kernel_rfl))
  f288 := Tryd.func94.trans (congrArg some (by kernel_rfl))
  f317 := Tryd.func106.trans (congrArg some (by kernel_rfl))
  f318 := Tryd.func107.trans (congrArg some (by kernel_rfl))
  f319 := Tryd.func108.trans (congrArg some (by kernel_rfl))
  f320 := Tryd.func109.trans (congrArg some (by kernel_rfl))
  f337 := Tryd.func110.trans (congrArg some (by kernel_rfl))
  f338 := Tryd.func111.trans (congrArg some (by kernel_rfl))
  t0 := Tryd.underlying0
  a0 := Tryd.isAgg0
  z0 := Tryd.sizeOf0
  v0 := Tryd.zeroValue0
  t3 := Tryd.underlying3
  a3 := Tryd.isAgg3
  z3 := Tryd.sizeOf3
  v3 := Tryd.zeroValue3
  t4 := Tryd.underlying4
  a4 := Tryd.isAgg4
  z4 := Tryd.sizeOf4
  v4 := Tryd.zeroValue4
  t5 := Tryd.underlying5
  a5 := Tryd.isAgg5
  z5 := Tryd.sizeOf5
  v5 := Tryd.zeroValue5
  t9 := Tryd.underlying9
  a9 := Tryd.isAgg9
  z9 := Tryd.sizeOf9
  v9 := Tryd.zeroValue9
  t20 := Tryd.underlying20
  a20 := Tryd.isAgg20
  z20 := Tryd.sizeOf20
  v20 := Tryd.zeroValue20
  t37 := Tryd.underlying99
  a37 := Tryd.isAgg99
  z37 := Tryd.sizeOf99
  v37 := Tryd.zeroValue99
  t46 := Tryd.underlying103
  a46 := Tryd.isAgg103
  z46 := Tryd.sizeOf103
  v46 := Tryd.zeroValue103
  t51 := Tryd.underlying112
  a51 := Tryd.isAgg112
  z51 := Tryd.sizeOf112
  v51 := Tryd.zeroValue112
  t53 := Tryd.underlying114
  a53 := Tryd.isAgg114
  z53 := Tryd.sizeOf114
  v53 := Tryd.zeroValue114
  t171 := Tryd.underlying123
  a171 := Tryd.isAgg123
  z171 := Tryd.sizeOf123
  v171 := Tryd.zeroValue123
  t173 := Tryd.underlying125
  a173 := Tryd.isAgg125
  z173 := Tryd.sizeOf125
  v173 := Tryd.zeroValue125
  t212 := Tryd.underlying131
  a212 := Tryd.isAgg131
  z212 := Tryd.sizeOf131
  v212 := Tryd.zeroValue131
  t213 := Tryd.underlying132
  a213 := Tryd.isAgg132
  z213 := Tryd.sizeOf132
  t232 := Tryd.underlying133
  a232 := Tryd.isAgg133
  z232 := Tryd.sizeOf133
  v232 := Tryd.zeroValue133
  t233 := Tryd.underlying134
  a233 := Tryd.isAgg134
  z233 := Tryd.sizeOf134
  v233 := Tryd.zeroValue134
  g17 := by kernel_rfl
  g18 := by kernel_rfl
  g19 := by kernel_rfl
  i0 := by kernel_rfl
  i3 := by kernel_rfl
  i4 := by kernel_rfl
  i5 := by kernel_rfl
  i9 := by kernel_rfl
  i20 := by kernel_rfl
  i37 := by kernel_rfl
  i46 := by kernel_rfl
  i51 := by kernel_rfl
  i53 := by kernel_rfl
  i171 := by kernel_rfl
  i173 := by kernel_rfl
  i212 := by kernel_rfl
  i232 := by kernel_rfl
  i233 := by kernel_rfl
  m17 := by kernel_rfl
  m18 := by kernel_rfl
  m19 := by kernel_rfl }
open Go.RowKit Go.Sort Go.Lib in
/-- internal/strconv.AppendUint(dst, i, 10), i BELOW 100: WHAT COMES BACK OWNS dst's CELLS AND, BEHIND THEM, i's DECIMAL NUMERAL. No table is read. Below the call's own blocks nothing has turned. (LAID: no walk: one application.) -/
theorem Tryd.internal_strconv_AppendUint_10_small (B n u : Nat) (hu : u < 100) (sv : Value) (xs : List Value) (w : World) (hown : w.ownsRow B 5 1 sv n xs) (hBw : B ≤ w.heap.size) (hlim : n + 20 ≤ 140737488355328) :
    Calls Tryd.prog 94 #[sv, .int .u64 u, .int .i64 10] w fun e w' => ∃ v', e = .returned v' ∧ w'.ownsRow B 5 1 v' (n + (Lib.decDigits u).length) (xs ++ Lib.byteCells (Lib.decDigits u)) ∧ Below B w w' ∧ Lib.OthersKept 5 none w w' := Any.internal_strconv_AppendUint_10_small Tryd.laysM288 B n u hu sv xs w hown hBw hlim
open Go.RowKit Go.Sort Go.Lib in
/-- internal/strconv.AppendUint(dst, i, 10), i FROM 100 ON: likewise; the digits are laid in an array of the call's own and appended. (LAID: no walk: one application.) -/
theorem Tryd.internal_strconv_AppendUint_10_big (B n u : Nat) (hu : 100 ≤ u) (hu64 : u < 18446744073709551616) (sv : Value) (xs : List Value) (w : World) (hown : w.ownsRow B 5 1 sv n xs) (hBw : B ≤ w.heap.size) (hlim : n + 20 ≤ 140737488355328) (htab : Lib.TabIs Tryd.prog w "internal/strconv.uint64pow10" .u64 Lib.pow10Tab) :
    Calls Tryd.prog 94 #[sv, .int .u64 u, .int .i64 10] w fun e w' => ∃ v', e = .returned v' ∧ w'.ownsRow B 5 1 v' (n + (Lib.decDigits u).length) (xs ++ Lib.byteCells (Lib.decDigits u)) ∧ Below B w w' ∧ Lib.OthersKept 5 none w w' := Any.internal_strconv_AppendUint_10_big Tryd.laysM288 B n u hu hu64 sv xs w hown hBw hlim htab
open Go.RowKit Go.Sort Go.Lib in
/-- internal/strconv.AppendUint(dst, i, 10): the two contracts as one. NO WALK. (LAID: no walk: one application.) -/
theorem Tryd.internal_strconv_AppendUint_10 (B n u : Nat) (hu64 : u < 18446744073709551616) (sv : Value) (xs : List Value) (w : World) (hown : w.ownsRow B 5 1 sv n xs) (hBw : B ≤ w.heap.size) (hlim : n + 20 ≤ 140737488355328) (htab : Lib.TabIs Tryd.prog w "internal/strconv.uint64pow10" .u64 Lib.pow10Tab) :
    Calls Tryd.prog 94 #[sv, .int .u64 u, .int .i64 10] w fun e w' => ∃ v', e = .returned v' ∧ w'.ownsRow B 5 1 v' (n + (Lib.decDigits u).length) (xs ++ Lib.byteCells (Lib.decDigits u)) ∧ Below B w w' ∧ Lib.OthersKept 5 none w w' := Any.internal_strconv_AppendUint_10 Tryd.laysM288 B n u hu64 sv xs w hown hBw hlim htab
def Tryd.laysM249_ren : Go.Shelf.Ren := ⟨fun | 249 => 82 | 288 => 94 | 283 => 101 | 284 => 102 | 285 => 103 | 286 => 104 | 129 => 93 | 317 => 106 | 318 => 107 | 319 => 108 | 320 => 109 | 337 => 110 | 338 => 111 | n => n, fun | 37 => 99 | 2 => 2 | 3 => 3 | 53 => 114 | 4 => 4 | 9 => 9 | 171 => 123 | 0 => 0 | 173 => 125 | 212 => 131 | 51 => 112 | 5 => 5 | 20 => 20 | 213 => 132 | 46 => 103 | 232 => 133 | 233 => 134 | n => n, fun | 17 => 0 | 18 => 1 | 19 => 2 | n => n⟩
theorem Tryd.laysM249 : Go.Proofs.LaysM.n249 Tryd.prog Tryd.laysM249_ren := {
  mixed := by kernel_rfl
  f129 := Tryd.func93.trans (congrArg some (by kernel_rfl))
  f249 := Tryd.func82.trans (congrArg some (by kernel_rfl))
  f283 := Tryd.func101.trans (congrArg some (by kernel_rfl))
  f284 := Tryd.func102.trans (congrArg some (by kernel_rfl))
  f285 := Tryd.func103.trans (congrArg some (by kernel_rfl))
  f286 := Tryd.func104.trans (congrArg some (by kernel_rfl))
  f288 := Tryd.func94.trans (congrArg some (by kernel_rfl))
  f317 := Tryd.func106.trans (congrArg some (by kernel_rfl))
  f318 := Tryd.func107.trans (congrArg some (by kernel_rfl))
  f319 := Tryd.func108.trans (congrArg some (by kernel_rfl))
  f320 := Tryd.func109.trans (congrArg some (by kernel_rfl))
  f337 := Tryd.func110.trans (congrArg some (by kernel_rfl))
  f338 := Tryd.func111.trans (congrArg some (by kernel_rfl))
  t0 := Tryd.underlying0
  a0 := Tryd.isAgg0
  z0 := Tryd.sizeOf0
  v0 := Tryd.zeroValue0
  t2 := Tryd.underlying2
  a2 := Tryd.isAgg2
  z2 := Tryd.sizeOf2
  v2 := Tryd.zeroValue2
  t3 := Tryd.underlying3
  a3 := Tryd.isAgg3
  z3 := Tryd.sizeOf3
  v3 := Tryd.zeroValue3
  t4 := Tryd.underlying4
  a4 := Tryd.isAgg4
  z4 := Tryd.sizeOf4
  v4 := Tryd.zeroValue4
  t5 := Tryd.underlying5
  a5 := Tryd.isAgg5
  z5 := Tryd.sizeOf5
  v5 := Tryd.zeroValue5
  t9 := Tryd.underlying9
  a9 := Tryd.isAgg9
  z9 := Tryd.sizeOf9
  v9 := Tryd.zeroValue9
  t20 := Tryd.underlying20
  a20 := Tryd.isAgg20
  z20 := Tryd.sizeOf20
  v20 := Tryd.zeroValue20
  t37 := Tryd.underlying99
  a37 := Tryd.isAgg99
  z37 := Tryd.sizeOf99
  v37 := Tryd.zeroValue99
  t46 := Tryd.underlying103
  a46 := Tryd.isAgg103
  z46 := Tryd.sizeOf103
  v46 := Tryd.zeroValue103
  t51 := Tryd.underlying112
  a51 := Tryd.isAgg112
  z51 := Tryd.sizeOf112
  v51 := Tryd.zeroValue112
  t53 := Tryd.underlying114
  a53 := Tryd.isAgg114
  z53 := Tryd.sizeOf114
  v53 := Tryd.zeroValue114
  t171 := Tryd.underlying123
  a171 := Tryd.isAgg123
  z171 := Tryd.sizeOf123
  v171 := Tryd.zeroValue123
  t173 := Tryd.underlying125
  a173 := Tryd.isAgg125
  z173 := Tryd.sizeOf125
  v173 := Tryd.zeroValue125
  t212 := Tryd.underlying131
  a212 := Tryd.isAgg131
  z212 := Tryd.sizeOf131
  v212 := Tryd.zeroValue131
  t213 := Tryd.underlying132
  a213 := Tryd.isAgg132
  z213 := Tryd.sizeOf132
  t232 := Tryd.underlying133
  a232 := Tryd.isAgg133
  z232 := Tryd.sizeOf133
  v232 := Tryd.zeroValue133
  t233 := Tryd.underlying134
  a233 := Tryd.isAgg134
  z233 := Tryd.sizeOf134
  v233 := Tryd.zeroValue134
  g17 := by kernel_rfl
  g18 := by kernel_rfl
  g19 := by kernel_rfl
  i0 := by kernel_rfl
  i2 := by kernel_rfl
  i3 := by kernel_rfl
  i4 := by kernel_rfl
  i5 := by kernel_rfl
  i9 := by kernel_rfl
  i20 := by kernel_rfl
  i37 := by kernel_rfl
  i46 := by kernel_rfl
  i51 := by kernel_rfl
  i53 := by kernel_rfl
  i171 := by kernel_rfl
  i173 := by kernel_rfl
  i212 := by kernel_rfl
  i232 := by kernel_rfl
  i233 := by kernel_rfl
  m17 := by kernel_rfl
  m18 := by kernel_rfl
  m19 := by kernel_rfl }
open Go.RowKit Go.Sort Go.Lib in
/-- internal/strconv.AppendInt: "AppendInt appends the string form of the integer i, as generated by FormatInt, to dst and returns the extended buffer.": AT BASE 10: WHAT COMES BACK OWNS dst's CELLS AND, BEHIND THEM, i's DECIMAL NUMERAL ('Lib.itoa i': at most 20 bytes), for every int64. Below the call's own blocks nothing has turned. (LAID: no walk: one application.) -/
theorem Tryd.internal_strconv_AppendInt_10 (B n : Nat) (i : Int) (h0 : -9223372036854775808 ≤ i) (h1 : i ≤ 9223372036854775807) (sv : Value) (xs : List Value) (w : World) (hown : w.ownsRow B 5 1 sv n xs) (hBw : B ≤ w.heap.size) (hlim : n + 21 ≤ 140737488355328) (htab : Lib.TabBelow Tryd.prog B w "internal/strconv.uint64pow10" .u64 Lib.pow10Tab) :
    Calls Tryd.prog 82 #[sv, .int .i64 i, .int .i64 10] w fun e w' => ∃ v', e = .returned v' ∧ w'.ownsRow B 5 1 v' (n + (Lib.itoa i).length) (xs ++ Lib.byteCells (Lib.itoa i)) ∧ Below B w w' ∧ Lib.OthersKept 5 none w w' := Any.internal_strconv_AppendInt_10 Tryd.laysM249 B n i h0 h1 sv xs w hown hBw hlim htab
def Tryd.laysM176_ren : Go.Shelf.Ren := ⟨fun | 176 => 79 | 249 => 82 | 288 => 94 | 283 => 101 | 284 => 102 | 285 => 103 | 286 => 104 | 129 => 93 | 317 => 106 | 318 => 107 | 319 => 108 | 320 => 109 | 337 => 110 | 338 => 111 | n => n, fun | 37 => 99 | 2 => 2 | 3 => 3 | 53 => 114 | 4 => 4 | 9 => 9 | 171 => 123 | 0 => 0 | 173 => 125 | 212 => 131 | 51 => 112 | 5 => 5 | 20 => 20 | 213 => 132 | 46 => 103 | 232 => 133 | 233 => 134 | n => n, fun | 17 => 0 | 18 => 1 | 19 => 2 | n => n⟩
theorem Tryd.laysM176 : Go.Proofs.LaysM.n176 Tryd.prog Tryd.laysM176_ren := {
  mixed := by kernel_rfl
  f129 := Tryd.func93.trans (congrArg some (by kernel_rfl))
  f176 := Tryd.func79.trans (congrArg some (by kernel_rfl))
  f249 := Tryd.func82.trans (congrArg some (by kernel_rfl))
  f283 := Tryd.func101.trans (congrArg some (by kernel_rfl))
  f284 := Tryd.func102.trans (congrArg some (by kernel_rfl))
  f285 := Tryd.func103.trans (congrArg some (by kernel_rfl))
  f286 := Tryd.func104.trans (congrArg some (by kernel_rfl))
  f288 := Tryd.func94.trans (congrArg some (by kernel_rfl))
  f317 := Tryd.func106.trans (congrArg some (by kernel_rfl))
  f318 := Tryd.func107.trans (congrArg some (by kernel_rfl))
  f319 := Tryd.func108.trans (congrArg some (by kernel_rfl))
  f320 := Tryd.func109.trans (congrArg some (by kernel_rfl))
  f337 := Tryd.func110.trans (congrArg some (by kernel_rfl))
  f338 := Tryd.func111.trans (congrArg some (by kernel_rfl))
  t0 := Tryd.underlying0
  a0 := Tryd.isAgg0
  z0 := Tryd.sizeOf0
  v0 := Tryd.zeroValue0
  t2 := Tryd.underlying2
  a2 := Tryd.isAgg2
  z2 := Tryd.sizeOf2
  v2 := Tryd.zeroValue2
  t3 := Tryd.underlying3
  a3 := Tryd.isAgg3
  z3 := Tryd.sizeOf3
  v3 := Tryd.zeroValue3
  t4 := Tryd.underlying4
  a4 := Tryd.isAgg4
  z4 := Tryd.sizeOf4
  v4 := Tryd.zeroValue4
  t5 := Tryd.underlying5
  a5 := Tryd.isAgg5
  z5 := Tryd.sizeOf5
  v5 := Tryd.zeroValue5
  t9 := Tryd.underlying9
  a9 := Tryd.isAgg9
  z9 := Tryd.sizeOf9
  v9 := Tryd.zeroValue9
  t20 := Tryd.underlying20
  a20 := Tryd.isAgg20
  z20 := Tryd.sizeOf20
  v20 := Tryd.zeroValue20
  t37 := Tryd.underlying99
  a37 := Tryd.isAgg99
  z37 := Tryd.sizeOf99
  v37 := Tryd.zeroValue99
  t46 := Tryd.underlying103
  a46 := Tryd.isAgg103
  z46 := Tryd.sizeOf103
  v46 := Tryd.zeroValue103
  t51 := Tryd.underlying112
  a51 := Tryd.isAgg112
  z51 := Tryd.sizeOf112
  v51 := Tryd.zeroValue112
  t53 := Tryd.underlying114
  a53 := Tryd.isAgg114
  z53 := Tryd.sizeOf114
  v53 := Tryd.zeroValue114
  t171 := Tryd.underlying123
  a171 := Tryd.isAgg123
  z171 := Tryd.sizeOf123
  v171 := Tryd.zeroValue123
  t173 := Tryd.underlying125
  a173 := Tryd.isAgg125
  z173 := Tryd.sizeOf125
  v173 := Tryd.zeroValue125
  t212 := Tryd.underlying131
  a212 := Tryd.isAgg131
  z212 := Tryd.sizeOf131
  v212 := Tryd.zeroValue131
  t213 := Tryd.underlying132
  a213 := Tryd.isAgg132
  z213 := Tryd.sizeOf132
  t232 := Tryd.underlying133
  a232 := Tryd.isAgg133
  z232 := Tryd.sizeOf133
  v232 := Tryd.zeroValue133
  t233 := Tryd.underlying134
  a233 := Tryd.isAgg134
  z233 := Tryd.sizeOf134
  v233 := Tryd.zeroValue134
  g17 := by kernel_rfl
  g18 := by kernel_rfl
  g19 := by kernel_rfl
  i0 := by kernel_rfl
  i2 := by kernel_rfl
  i3 := by kernel_rfl
  i4 := by kernel_rfl
  i5 := by kernel_rfl
  i9 := by kernel_rfl
  i20 := by kernel_rfl
  i37 := by kernel_rfl
  i46 := by kernel_rfl
  i51 := by kernel_rfl
  i53 := by kernel_rfl
  i171 := by kernel_rfl
  i173 := by kernel_rfl
  i212 := by kernel_rfl
  i232 := by kernel_rfl
  i233 := by kernel_rfl
  m17 := by kernel_rfl
  m18 := by kernel_rfl
  m19 := by kernel_rfl }
open Go.RowKit Go.Sort Go.Lib in
/-- strconv.AppendInt: "AppendInt appends the string form of the integer i, as generated by FormatInt, to dst and returns the extended buffer.": AT BASE 10: WHAT COMES BACK OWNS dst's CELLS AND, BEHIND THEM, i's DECIMAL NUMERAL ('Lib.itoa i': at most 20 bytes), for every int64. Below the call's own blocks nothing has turned. (LAID: no walk: one application.) -/
theorem Tryd.strconv_AppendInt_10 (B n : Nat) (i : Int) (h0 : -9223372036854775808 ≤ i) (h1 : i ≤ 9223372036854775807) (sv : Value) (xs : List Value) (w : World) (hown : w.ownsRow B 5 1 sv n xs) (hBw : B ≤ w.heap.size) (hlim : n + 21 ≤ 140737488355328) (htab : Lib.TabBelow Tryd.prog B w "internal/strconv.uint64pow10" .u64 Lib.pow10Tab) :
    Calls Tryd.prog 79 #[sv, .int .i64 i, .int .i64 10] w fun e w' => ∃ v', e = .returned v' ∧ w'.ownsRow B 5 1 v' (n + (Lib.itoa i).length) (xs ++ Lib.byteCells (Lib.itoa i)) ∧ Below B w w' ∧ Lib.OthersKept 5 none w w' := Any.strconv_AppendInt_10 Tryd.laysM176 B n i h0 h1 sv xs w hown hBw hlim htab
def Tryd.laysNm220_ren : Go.Shelf.Ren := ⟨fun | 20 => 76 | n => n, fun | 22 => 22 | 3 => 3 | 4 => 4 | 0 => 0 | n => n, fun | n => n⟩
theorem Tryd.laysNm220 : Go.Proofs.Lays2.n20 Tryd.prog Tryd.laysNm220_ren := {
  mixed := by kernel_rfl
  f20 := Tryd.func76.trans (congrArg some (by kernel_rfl))
  t0 := Tryd.underlying0
  a0 := Tryd.isAgg0
  z0 := Tryd.sizeOf0
  v0 := Tryd.zeroValue0
  t3 := Tryd.underlying3
  a3 := Tryd.isAgg3
  z3 := Tryd.sizeOf3
  v3 := Tryd.zeroValue3
  t4 := Tryd.underlying4
  a4 := Tryd.isAgg4
  z4 := Tryd.sizeOf4
  v4 := Tryd.zeroValue4
  t22 := Tryd.underlying22
  a22 := Tryd.isAgg22
  z22 := Tryd.sizeOf22
  v22 := Tryd.zeroValue22
  i3 := by kernel_rfl }
open Go.RowKit Go.Lib Go.Sort in
/-- slices.Compact at []int, over an array: the library's two loops are walked. (LAID: no walk: one application.) -/
theorem Tryd.slices_Compact_int_arr (blk off cap : Nat) (d : Array Int) (w : World) (hH : Holds encI w blk off d) (hsz : d.size ≤ 9223372036854775807) (hcap : d.size ≤ cap) :
    Calls Tryd.prog 76 #[.slice (some ⟨blk, off, none⟩) d.size cap] w fun e w' => e = .returned (.slice (some ⟨blk, off, none⟩) (compactUpTo d d.size).length cap) ∧ ∃ q, w' = putRow encI (Sort.ahead w q) blk off (compactUpTo d d.size ++ List.replicate (d.size - (compactUpTo d d.size).length) 0).toArray := Any.slices_Compact_int_arr Tryd.laysNm220 blk off cap d w hH hsz hcap
open Go.RowKit Go.Lib Go.Sort in
/-- slices.Compact at []int: "Compact replaces consecutive runs of equal elements with a single copy. This is like the uniq command found on Unix. Compact modifies the contents of the slice s and returns the modified slice, which may have a smaller length. Compact zeroes the elements between the new length and the original length. The result preserves the nilness of s.": IT RETURNS THE SLICE CUT TO 'Lib.compact zs'; ITS CELLS HOLD 'Lib.compact zs', THEN ZERO VALUES up to the old length; all else is as it was, but for the count of draws. IN THE WORDS OF slices.Sort's CONTRACT ('Holds', 'putRow'): so the everyday 'slices.Sort(xs); xs = slices.Compact(xs)' goes from the one contract to the other. It asks 'zs.length ≤ cap' (every slice's: the reslicing 's[:k]' looks at it). Length 0, nil: '.._empty'. (LAID: no walk: one application.) -/
theorem Tryd.slices_Compact_int (blk off cap : Nat) (zs : List Int) (w : World) (hH : Holds (Value.int .i64) w blk off zs.toArray) (hsz : zs.length ≤ 9223372036854775807) (hcap : zs.length ≤ cap) :
    Calls Tryd.prog 76 #[.slice (some ⟨blk, off, none⟩) zs.length cap] w fun e w' => e = .returned (.slice (some ⟨blk, off, none⟩) (Lib.compact zs).length cap) ∧ ∃ q, w' = putRow (Value.int .i64) (Sort.ahead w q) blk off (Lib.compact zs ++ List.replicate (zs.length - (Lib.compact zs).length) 0).toArray := Any.slices_Compact_int Tryd.laysNm220 blk off cap zs w hH hsz hcap
open Go.RowKit Go.Lib Go.Sort in
/-- The same at a slice of length 0, a nil one too: it comes back as it is. (LAID: no walk: one application.) -/
theorem Tryd.slices_Compact_int_empty (a : Option Addr) (cap : Nat) (w : World) :
    Calls Tryd.prog 76 #[.slice a 0 cap] w fun e w' => e = .returned (.slice a 0 cap) ∧ w' = w := Any.slices_Compact_int_empty Tryd.laysNm220 a cap w
end Go.Proofs
-- graph.Table: its word in memory, and what every step on it keeps
namespace Go.Proofs.YtopbjginpmdebaaDoor.K
open Go.RowKit Go.Maps Go.Proofs.YtopbjginpmdebaaDoorW.PrintWords Go.Proofs.YtopbjginpmdebaaDoorW.PrintLast Go.Proofs.YtopbjginpmdebaaDoorW.PrintMore
set_option linter.unusedVariables false
set_option linter.unusedSimpArgs false
/-- a node's key as a datum -/
def keyN (n : Nd) : Lit := .string (keyL n.f0 (n.f1 :: n.f2))
theorem keyN_inj {n m : Nd} (h : keyN n = keyN m) : n = m := by
  have h' : keyL n.f0 (n.f1 :: n.f2) = keyL m.f0 (m.f1 :: m.f2) := by
    unfold keyN at h; injection h
  obtain ⟨h1, h2⟩ := keyL_inj h'
  injection h2 with h2 h3
  exact nd_ext h1 h2 h3
theorem keyN_lit (n : Nd) : WideAt.IsKeyLit (keyN n) := trivial
/-- the index tells each node's first place -/
def SMap (w : World) (mb : Nat) (ns : List Nd) : Prop :=
  ∃ D : DataW Unit, w.ownsMap Tryd.prog 9 (plainElem Tryd.prog 3) mb ns.length D ∧
    (∀ n : Nd, Maps.has D (keyN n) = decide (n ∈ ns)) ∧ ∀ n : Nd, n ∈ ns → D.atKey (keyN n) (.lit (.int .i64 0)) = .lit (.int .i64 (ns.idxOf n : Nat))
/-- a table at block t: its nodes, its index at block mb -/
def TabS (w : World) (base t mb : Nat) (ok : Nat → Prop) (ns : List Nd) : Prop :=
  ∃ v, w.heap[t]? = some (.cells #[v, .map (some mb)] 83 (0, 0)) ∧ k60.R 60 w base ok v ns ∧ SMap w mb ns
/-- what may hold the nodes' rows -/
structure OkT (base t mb : Nat) (ok : Nat → Prop) (w : World) : Prop where
  old : ∀ k, ok k → base ≤ k ∧ k ≠ t ∧ k ≠ mb
  new : ∀ k, w.heap.size ≤ k → ok k
  ht : base ≤ t
  hmb : base ≤ mb
/-- a step on a table -/
structure Touch (w w' : World) (ok : Nat → Prop) (t mb : Nat) : Prop where
  os : w'.os = w.os
  tape : w'.tape = w.tape
  output : w'.output = w.output
  size : w.heap.size ≤ w'.heap.size
  same : ∀ k, k < w.heap.size → ¬ ok k → k ≠ t → k ≠ mb → w'.heap[k]? = w.heap[k]?
theorem Touch.refl (w : World) (ok : Nat → Prop) (t mb : Nat) : Touch w w ok t mb := ⟨rfl, rfl, rfl, Nat.le_refl _, fun _ _ _ _ _ => rfl⟩
theorem Touch.trans {a b c : World} {ok : Nat → Prop} {t mb : Nat} (h : Touch a b ok t mb) (k : Touch b c ok t mb) : Touch a c ok t mb :=
  ⟨k.os.trans h.os, k.tape.trans h.tape, k.output.trans h.output, Nat.le_trans h.size k.size, fun i hi ho ht hm => (k.same i (Nat.lt_of_lt_of_le hi h.size) ho ht hm).trans (h.same i hi ho ht hm)⟩
theorem Touch.of_below {w w' : World} (h : Below w.heap.size w w') (ok : Nat → Prop) (t mb : Nat) : Touch w w' ok t mb := ⟨h.os, h.tape, h.output, h.size, fun k hk _ _ _ => h.block k hk⟩
theorem Touch.below {base : Nat} {w w' : World} {ok : Nat → Prop} {t mb : Nat} {w0 : World} (h : Touch w w' ok t mb) (hb : base ≤ w.heap.size) (ho : OkT base t mb ok w0) : Below base w w' :=
  ⟨h.os, h.tape, h.output, h.size, fun k hk => h.same k (by omega) (fun e => by have := (ho.old k e).1; omega) (by have := ho.ht; omega) (by have := ho.hmb; omega)⟩
theorem Touch.drew {w w' : World} {ok : Nat → Prop} {t mb : Nat} (h : Touch w w' ok t mb) : Touch w w'.drew ok t mb := ⟨h.os, h.tape, h.output, h.size, h.same⟩
theorem Touch.grown {w w' : World} {row : Option Nat} {ok : Nat → Prop} {t mb : Nat} (hg : w.grownBy w' row) (hr : ∀ k, row = some k → ok k ∨ k = t ∨ k = mb) : Touch w w' ok t mb :=
  ⟨hg.os, hg.tape, hg.output, hg.size, fun k hk ho ht hm => hg.block k hk (fun e => (hr k e.symm).elim ho (fun h => h.elim ht hm))⟩
theorem Touch.set (w : World) (ok : Nat → Prop) (t mb j : Nat) (u : Value) : Touch w (w.setCell ⟨t, j, none⟩ u) ok t mb :=
  ⟨rfl, rfl, rfl, by simp [World.setCell], fun k _ _ ht _ => Below.heap_setCell w ⟨t, j, none⟩ u k ht⟩
theorem Touch.alloc {w w' : World} {ok : Nat → Prop} {t mb : Nat} (h : Touch w w' ok t mb) (o : Obj) : Touch w (w'.alloc o) ok t mb := h.trans (Touch.of_below ((Below.refl _ w').alloc (Nat.le_refl _) o) ok t mb)
theorem own_map_move {w w' : World} {mb n : Nat} {D : DataW Unit} (h : w.ownsMap Tryd.prog 9 (plainElem Tryd.prog 3) mb n D) (hm : w'.heap[mb]? = w.heap[mb]?) : w'.ownsMap Tryd.prog 9 (plainElem Tryd.prog 3) mb n D := by
  obtain ⟨es, c, h1, h2⟩ := h; exact ⟨es, c, hm.trans h1, h2⟩
theorem OkT.on {base t mb : Nat} {ok : Nat → Prop} {w w' : World} (h : OkT base t mb ok w) (hs : w.heap.size ≤ w'.heap.size) : OkT base t mb ok w' := ⟨h.old, fun k hk => h.new k (by omega), h.ht, h.hmb⟩
theorem SMap.lt {w : World} {mb : Nat} {ns : List Nd} (h : SMap w mb ns) : mb < w.heap.size := by
  obtain ⟨D, h, _⟩ := h; exact h.lt
theorem SMap.move {w w' : World} {mb : Nat} {ns : List Nd} (h : SMap w mb ns) (hm : w'.heap[mb]? = w.heap[mb]?) : SMap w' mb ns := by
  obtain ⟨D, ⟨es, c, h1, h2, h3, h4⟩, h5⟩ := h
  exact ⟨D, ⟨es, c, hm.trans h1, h2, h3, h4⟩, h5⟩
/-- a step that leaves the table's blocks alone -/
theorem TabS.move {w w' : World} {base t mb : Nat} {ok : Nat → Prop} {ns : List Nd} (h : TabS w base t mb ok ns) (hm : ∀ k, k < w.heap.size → (ok k ∨ k = t ∨ k = mb) → w'.heap[k]? = w.heap[k]?) : TabS w' base t mb ok ns := by
  obtain ⟨v, h1, h2, h3⟩ := h
  exact ⟨v, (hm t (blk_lt h1) (.inr (.inl rfl))).trans h1, Kd.R_step h2 (fun k hk hlt => hm k hlt (.inl hk)), h3.move (hm mb h3.lt (.inr (.inr rfl)))⟩
theorem TabS.below {w w' : World} {base t mb : Nat} {ok : Nat → Prop} {ns : List Nd} (h : TabS w base t mb ok ns) (hb : Below w.heap.size w w') : TabS w' base t mb ok ns := h.move fun k hk _ => hb.block k hk
/-- a new node at the end, told to the index -/
theorem SMap.put {w' : World} {mb : Nat} {ns : List Nd} {D : DataW Unit} (hD : (∀ n : Nd, Maps.has D (keyN n) = decide (n ∈ ns)) ∧ ∀ n : Nd, n ∈ ns → D.atKey (keyN n) (.lit (.int .i64 0)) = .lit (.int .i64 (ns.idxOf n : Nat)))
    (hm : IsMap D) {n : Nd} (hn : n ∉ ns) (h : w'.ownsMap Tryd.prog 9 (plainElem Tryd.prog 3) mb (ns.length + 1) (D.put (keyN n) (.lit (.int .i64 (ns.length : Nat))))) : SMap w' mb (ns ++ [n]) := by
  refine ⟨_, by rw [List.length_append]; exact h, fun m => ?_, fun m hmem => ?_⟩
  · by_cases e : m = n
    · subst e
      rw [has_put_same hm (keyN_lit m)]; simp
    · rw [has_put_other (fun h' => e (keyN_inj h')), hD.1]
      simp [e]
  · by_cases e : m = n
    · subst e
      rw [atKey_put_same hm (keyN_lit m), List.idxOf_append, if_neg hn]
      simp
    · have hm' : m ∈ ns := by
        rcases List.mem_append.1 hmem with h' | h'
        · exact h'
        · exact absurd (List.mem_singleton.1 h') e
      rw [atKey_put_other (fun h' => e (keyN_inj h')), hD.2 m hm', List.idxOf_append, if_pos hm']
end Go.Proofs.YtopbjginpmdebaaDoor.K
-- graph.Table.add
namespace Go.Proofs.YtopbjginpmdebaaDoor.K
open Go.RowKit Go.Maps Go.Proofs.YtopbjginpmdebaaDoorW.PrintWords Go.Proofs.YtopbjginpmdebaaDoorW.PrintLast Go.Proofs.YtopbjginpmdebaaDoorW.PrintMore
set_option linter.unusedVariables false
set_option linter.unusedSimpArgs false
def I64 (x : Int) : Prop := -9223372036854775808 ≤ x ∧ x ≤ 9223372036854775807
theorem info5 : (Tryd.prog.info? 5).map (fun i => (i.zero, i.size, i.bytes)) = some (some (.int .u8 0), 1, 1) := by kernel_rfl
abbrev PowTab (B : Nat) (w : World) : Prop := Lib.TabBelow Tryd.prog B w "internal/strconv.uint64pow10" .u64 Lib.pow10Tab
theorem PowTab.up {B B' : Nat} {w : World} (h : PowTab B w) (hB : B ≤ B') : PowTab B' w := fun w' hb => h w' (hb.mono hB)
/-- the key's text behind the first k numbers -/
def keyU (n : Nd) (k : Nat) : List UInt8 := Lib.itoa n.f0 ++ spaced ((n.f1 :: n.f2).take k)
theorem keyU_zero (n : Nd) : keyU n 0 = Lib.itoa n.f0 := by simp [keyU, spaced]
theorem keyU_succ (n : Nd) (k : Nat) (h : k < n.f2.length + 1) : keyU n (k + 1) = keyU n k ++ 32 :: Lib.itoa ((n.f1 :: n.f2).getD k 0) := by
  have hl : k < (n.f1 :: n.f2).length := by simpa using h
  unfold keyU
  rw [List.take_succ_eq_append_getElem hl, spaced_snoc, List.append_assoc, List.getD_eq_getElem?_getD, List.getElem?_eq_getElem hl]; rfl
theorem keyU_all (n : Nd) : keyU n (n.f2.length + 1) = keyL n.f0 (n.f1 :: n.f2) := by
  unfold keyU keyL; rw [List.take_of_length_le (by simp)]
theorem keyU_len (n : Nd) (hI : ∀ x ∈ n.f0 :: n.f1 :: n.f2, I64 x) : ∀ k, k ≤ n.f2.length + 1 → (keyU n k).length ≤ 22 * (k + 1) := by
  intro k
  induction k with
  | zero => intro _; rw [keyU_zero]; have := Lib.itoa_length_le n.f0 (hI _ (by simp)).1 (hI _ (by simp)).2; omega
  | succ k ih =>
    intro h
    have hl : k < (n.f1 :: n.f2).length := by simp; omega
    have hm : (n.f1 :: n.f2).getD k 0 ∈ n.f1 :: n.f2 := by rw [List.getD_eq_getElem?_getD, List.getElem?_eq_getElem hl]; exact List.getElem_mem hl
    have := Lib.itoa_length_le _ (hI _ (List.mem_cons_of_mem _ hm)).1 (hI _ (List.mem_cons_of_mem _ hm)).2
    rw [keyU_succ n k (by omega), List.length_append, List.length_cons]
    have := ih (by omega)
    omega
theorem byteCells_append (a b : List UInt8) : Lib.byteCells (a ++ b) = Lib.byteCells a ++ Lib.byteCells b := by simp [Lib.byteCells]
theorem own_obj {w : World} {base : Nat} {e : TypeId} {size n : Nat} {v : Value} {xs : List Value} (h : w.ownsRow base e size v n xs) (hn : 0 < n) : ∃ (g cap : Nat) (cur : Array Value), v = .slice (some ⟨g, 0, none⟩) n cap ∧ base ≤ g ∧ w.heap[g]? = some (.cells cur e (0, 0)) ∧ ∀ (j : Nat) (u : Value), xs[j]? = some u → cur[j]? = some u := by
  rcases h.2 with ⟨_, h0⟩ | ⟨g, cap, cur, rfl, hb, hh, r⟩
  · omega
  · refine ⟨g, cap, cur, rfl, hb, hh, fun j u hu => ?_⟩
    have := h.cells (g := g) rfl j u hu
    rwa [show (Addr.add ⟨g, 0, none⟩ j) = ⟨g, j, none⟩ by (unfold Addr.add; split <;> simp_all), blk_cell hh j] at this

theorem lit_R (W : World) (base : Nat) (x : Int) (hb : base ≤ W.heap.size) : (Kd.int .i64).R 3 (W.alloc (.cells #[.int .i64 x] 3)) base (fun _ => True) (.slice (some ⟨W.heap.size, 0, none⟩) 1 1) [x] :=
  Kd.R_of_own (by simpa [encs, nums] using own_lit W base 3 .i64 [x] hb (by simp)) (fun _ _ => trivial)
theorem C_now {w W : World} {A : Option Addr} {l : List Int} (h : (Kd.int .i64).C w A l.length l) (hb : Below w.heap.size w W) : ReadsRow ((Kd.int .i64).K w) 1 W A l.length l := Kd.C_below h hb
/-- an int row is no row of nodes -/
theorem okn_apart {w : World} {base : Nat} {okn : Nat → Prop} {v2 v : Value} {l : List Int} {ok : Nat → Prop} {ns : List Nd} (h : (Kd.int .i64).R 3 w base okn v2 l) (hv : k60.R 60 w base ok v ns) : (Kd.int .i64).R 3 w base (fun k => okn k ∧ some k ≠ v.ownBlock) v2 l := by
  refine Kd.R_mono (Kd.R_bound h) fun k hk => ⟨hk.1, fun e => ?_⟩
  obtain ⟨_, _, _, q, hq, cells, hc⟩ := hk
  obtain ⟨_, inner, ho, _⟩ := hv
  obtain ⟨cells', hc'⟩ := own_typed ho k e.symm
  rw [hc] at hc'
  injection hc' with hc'
  injection hc' with _ hc'
  have h3 : q = 3 := by simpa [Kd.int, Kd.scalar] using hq
  exact absurd (h3.symm.trans hc') (by decide)
theorem tab_after {w w' : World} {t : Nat} {o : Obj} {row : Option Nat} (h : w.heap[t]? = some o) (hg : w.drew.grownBy w' row) (hn : some t ≠ row) : w'.heap[t]? = some o := (hg.block t (blk_lt h) hn).trans h
theorem look_idx {D : DataW Unit} {kl : Lit} {i c : Int} (h : D.atKey kl (.lit (.int .i64 0)) = .lit (.int .i64 i)) (h' : D.atKey kl (.lit (.int .i64 0)) = .lit (.int .i64 c)) : i = c := by
  rw [h] at h'; injection h' with h'; injection h' 
theorem keyOf_N (n : Nd) {key : List UInt8} (h : key = keyL n.f0 (n.f1 :: n.f2)) (hl : key.length ≤ 60000000000) : keyOf Tryd.prog 9 (.string ⟨key.toArray⟩) = some (keyN n) := by
  rw [WideMaps.keyOf_string_mk Tryd.underlying9 (by show key.toArray.size ≤ maxLen; simp [maxLen]; omega)]
  simp [keyN, h]
theorem keyL_pos (s x : Int) (l : List Int) : 0 < (keyL s (x :: l)).length := by
  unfold keyL
  rw [List.length_append]
  have : 0 < (spaced (x :: l)).length := by simp [spaced]
  omega
set_option maxHeartbeats 8000000 in
set_option maxRecDepth 100000 in
theorem add_calls (base t mb : Nat) (ok okn : Nat → Prop) (ns : List Nd) (n : Nd) (v2 : Value) (w : World) (hT : TabS w base t mb ok ns) (hO : OkT base t mb ok w) (hbs : base ≤ w.heap.size)
    (hv2 : (Kd.int .i64).R 3 w base okn v2 n.f2) (hokn : ∀ k, okn k → ok k) (hI : ∀ x ∈ n.f0 :: n.f1 :: n.f2, I64 x) (hlen : n.f2.length ≤ 1073741824) (hroom : (ns.length + 1) * 40 ≤ 140737488355328) (htab : PowTab base w) :
    Calls Tryd.prog 74 #[.pointer (some ⟨t, 0, none⟩), .agg #[.int .i64 n.f0, .int .i64 n.f1, v2]] w fun e w' => e = .returned (.int .i64 (place0 ns n).2) ∧ TabS w' base t mb ok (place0 ns n).1 ∧ Touch w w' ok t mb := by
  obtain ⟨i0, hi, hz0, hz1, hz2⟩ := info_parts info5
  have hI0 := hI n.f0 (by simp)
  have l0 := Lib.itoa_length_le n.f0 hI0.1 hI0.2
  obtain ⟨A2, c2, rfl, hc2, hC2⟩ := Kd.R_reads hv2
  have hP : PowTab w.heap.size w := htab.up hbs
  -- the box of the node
  obtain ⟨ob, hob⟩ : ∃ ob, ob = Obj.cells #[.int .i64 n.f0, .int .i64 n.f1, .slice A2 n.f2.length c2] 60 := ⟨_, rfl⟩
  have hB1 : Below w.heap.size w (w.alloc ob) := (Below.refl _ w).alloc (Nat.le_refl _) _
  have hA1 := (Tryd.strconv_AppendInt_10 w.heap.size 0 n.f0 hI0.1 hI0.2 (.slice none 0 0) [] (w.alloc ob) (World.ownsRow_nil _ _ _ _) hB1.size (by omega) (hP.on hB1)).mono (R' := fun e w1 => ∃ v1, e = .returned v1 ∧ w1.ownsRow w.heap.size 5 1 v1 (keyU n 0).length (Lib.byteCells (keyU n 0)) ∧ Below w.heap.size w w1 ∧ w1.heap[w.heap.size]? = some ob) (by
    rintro e w1 ⟨v1, rfl, ho, hb, hk⟩
    refine ⟨v1, rfl, by simpa [keyU_zero] using ho, hB1.trans hb, ?_⟩
    exact hk _ _ (heap_alloc_new w ob) (by simp) (by intro c fz h; rw [hob] at h; cases h))
  go_enter Tryd.func74, Tryd.ntmps74
  subst hob
  go_wp2_with (first
    | (go_at_call 79; refine hA1.mono ?_; clear hA1; rintro e w1 ⟨v1, rfl, hown1, hnx1, hbox⟩; have k0 := blk_cell hbox 0; have k1 := blk_cell hbox 1; have k2 := blk_cell hbox 2; have hlt1 := blk_lt hbox; have hL := lit_R w1 w.heap.size n.f1 hnx1.size; have hnx2 := hnx1.alloc hnx1.size (.cells #[.int .i64 n.f1] 3); have hC3 := C_now hC2 hnx2)
    | (at_builtin; refine Kd.R_append_rows (Kd.int .i64) (w0 := w) w.heap.size rfl (.tmp 16) (.tmp 18) 22 3 (.int .i64 0) 8 rfl Tryd.underlying22 info3 rfl (by decide) (by decide) _ [n.f1] n.f2 A2 n.f2.length c2 (fun _ => True) (fun k => some k ≠ (some w1.heap.size)) rfl rfl hL hC3 (fun _ _ h => h) (fun _ h => ⟨trivial, h⟩) (fun _ _ => trivial) hnx2 (by have := hnx1.size; simp; omega) (by simp; omega) ?_; intro v3 w3 hR3 hB3 hg3 hat3; refine Hid.out ?_))
  refine Lib.hid ?_
  obtain ⟨g, cap3, cur, rfl, hgB, hcur, hcells⟩ := own_obj (Kd.own_of_R hR3) (by simp)
  have hbox3 := blk_grown (blk_alloc hbox (.cells #[.int .i64 n.f1] 3)) hg3 (by show some w.heap.size ≠ some w1.heap.size; intro e; injection e with e; omega)
  have hown3 := (hown1.alloc (.cells #[.int .i64 n.f1] 3)).kept hg3 (by
    by_cases e : v1.ownBlock = none
    · exact .inl e
    · obtain ⟨k, hk⟩ := Option.ne_none_iff_exists'.1 e
      refine .inr ?_
      have := own_lt hown1 k hk
      rw [hk]; show some k ≠ some w1.heap.size; intro e; injection e with e; omega)
  obtain ⟨L, hL'⟩ : ∃ L, L = n.f2.length + 1 := ⟨_, rfl⟩
  have hLe : ([n.f1] ++ n.f2).length = L := by simp [hL']
  rw [hLe]
  have hcell : ∀ k, k < L → cur[k]? = some (.int .i64 ((n.f1 :: n.f2).getD k 0)) := by
    intro k hk
    refine hcells k _ ?_
    have hk' : k < (n.f1 :: n.f2).length := by simp; omega
    show (encs (Value.int .i64) (n.f1 :: n.f2))[k]? = _
    exact encs_get _ k hk'
  have hCL := Lib.hid hcell
  clear hcell hcells hR3 hg3 hat3 hbox hown1 hnx1 hnx2 hC3 hL k0 k1 k2 hlt1
  have HL := Lib.hid hL'
  clear hL' hLe
  go_wp2
  go_loopw [5, 21] (fun b i wr => ∃ k : Nat, i = .int .i64 k ∧ k ≤ L ∧ wr.ownsRow w.heap.size 5 1 b (keyU n k).length (Lib.byteCells (keyU n k)) ∧ Below w.heap.size w wr ∧ wr.heap[w.heap.size]? = some (.cells #[.int .i64 n.f0, .int .i64 n.f1, .slice A2 n.f2.length c2] 60 (0, 0)) ∧ wr.heap[g]? = some (.cells cur 3 (0, 0)))
    (fun _ i _ => L - (intOf i).toNat)
  case atStart => exact ⟨0, rfl, Nat.zero_le _, hown3, hB3, hbox3, hcur⟩
  case round =>
    obtain ⟨k, rfl, hk, hownr, hnx, hboxr, hcurr⟩ := hrel
    by_cases hlt : k < L
    · have hc := hCL.out k hlt
      have kc := (blk_cell hcurr k).trans hc
      have hsz : w.heap.size ≤ wr.heap.size := hnx.size
      have hgl := blk_lt hcurr
      have hkb : k < 2000000000 := by have := HL.out; omega
      have hxm : (n.f1 :: n.f2).getD k 0 ∈ n.f1 :: n.f2 := by
        have hk' : k < (n.f1 :: n.f2).length := by have := HL.out; simp; omega
        rw [List.getD_eq_getElem?_getD, List.getElem?_eq_getElem hk']; exact List.getElem_mem hk'
      have hxI := hI _ (List.mem_cons_of_mem _ hxm)
      have hklen : (keyU n k).length ≤ 30000000000 := by have := keyU_len n hI k (by have := HL.out; omega); have := HL.out; omega
      obtain ⟨x, hx⟩ : ∃ x, x = (n.f1 :: n.f2).getD k 0 := ⟨_, rfl⟩
      rw [← hx] at kc hxI hxm
      have hsucc := keyU_succ n k (by have := HL.out; omega)
      rw [← hx] at hsucc
      have HS := Lib.hid hsucc
      clear hsucc hx hc hxm
      go_wp2_with (first
        | (at_builtin; refine wpList_append_own _ rfl (.tmp 25) (.tmp 26) 99 rfl w.heap.size 5 i0 (.int .u8 0) 1 1 Tryd.underlying99 hi hz0 hz1 hz2 rfl (by decide) _ _ _ rfl (hownr.alloc _) ⟨wr.heap.size, 0, none⟩ 1 1 [Value.int .u8 32] rfl rfl (by intro j u' hj; match j, hj with | 0, hj => simp at hj; subst hj; simp [Addr.add]) (by intro u' hu'; simp at hu'; subst hu'; rfl) (by unfold maxLen; omega) (by omega) (by simp; omega) ?_; intro v2 w2 hown2 hgrow _; refine Hid.out ?_)
        | fail)
      refine Lib.hid ?_
      have hnx2 : Below w.heap.size w w2 := (hnx.alloc hsz _).grown hgrow (by simp; omega) (fun j hj => (hownr.lt j hj).1)
      have hbox2 := blk_grown (blk_alloc hboxr (.cells #[.int .u8 32] 5)) hgrow (own_ne hownr hboxr (by decide))
      have hcur2 := blk_grown (blk_alloc hcurr (.cells #[.int .u8 32] 5)) hgrow (own_ne hownr hcurr (by decide))
      have hA2 := (Tryd.strconv_AppendInt_10 w.heap.size _ x hxI.1 hxI.2 v2 _ w2 hown2 hnx2.size (by omega) (hP.on hnx2)).mono (R' := fun e w3 => ∃ v3, e = .returned v3 ∧ w3.ownsRow w.heap.size 5 1 v3 (keyU n (k + 1)).length (Lib.byteCells (keyU n (k + 1))) ∧ Below w.heap.size w w3 ∧
          w3.heap[w.heap.size]? = some (.cells #[.int .i64 n.f0, .int .i64 n.f1, .slice A2 n.f2.length c2] 60 (0, 0)) ∧ w3.heap[g]? = some (.cells cur 3 (0, 0))) (by
        rintro e w3 ⟨v3, rfl, ho, hb, hk⟩
        refine ⟨v3, rfl, ?_, hnx2.trans hb, hk _ _ hbox2 (by simp) (by intro c fz h; cases h), hk _ _ hcur2 (by simp) (by intro c fz h; cases h)⟩
        have e1 : (keyU n k).length + 1 + (Lib.itoa x).length = (keyU n (k + 1)).length := by rw [HS.out]; simp; omega
        have e2 : Lib.byteCells (keyU n k) ++ [Value.int .u8 32] ++ Lib.byteCells (Lib.itoa x) = Lib.byteCells (keyU n (k + 1)) := by rw [HS.out]; simp [Lib.byteCells]
        rw [e1, e2] at ho
        exact ho)
      clear hown2 hgrow hownr hnx hboxr hcurr kc hgl hnx2 hbox2 hcur2 hsz
      go_wp2_with (go_at_call 79; refine hA2.mono ?_; clear hA2; rintro e w4 ⟨v4, rfl, hown4, hnx4, hbox4, hcur4⟩)
      go_roundw
      case rel => exact ⟨k + 1, by go_num, hlt, hown4, hnx4, hbox4, hcur4⟩
      case measure => simp [intOf]; omega
    · have e : k = L := by omega
      subst e
      have hkb : k < 2000000000 := by have := HL.out; omega
      obtain ⟨key, hkey⟩ : ∃ key, key = keyU n k := ⟨_, rfl⟩
      rw [← hkey] at hownr
      have hkpos : 0 < key.length := by rw [hkey, show k = n.f2.length + 1 from HL.out, keyU_all]; exact keyL_pos _ _ _
      have hkl : key.length ≤ 60000000000 := by rw [hkey]; have := keyU_len n hI k (by have := HL.out; omega); have := HL.out; omega
      have hkn := keyOf_N n (by rw [hkey, show k = n.f2.length + 1 from HL.out, keyU_all]) hkl
      clear hkey
      obtain ⟨gb, capb, curb, rfl, hgb, hcb, hbc⟩ := own_obj hownr (by simpa using hkpos)
      have hcv := run_convert_bytes_back (P := Tryd.prog) wr 99 9 5 ⟨gb, 0, none⟩ capb key Tryd.underlying99 Tryd.underlying5 Tryd.underlying9 (fun j hj => hownr.cells (g := gb) rfl j _ (by simp [Lib.byteCells, hj]))
      clear hcb hbc
      have hTr := hT.below hnx
      obtain ⟨v, ht, hR, ⟨D, hown, hD1, hD2⟩⟩ := id hTr
      obtain ⟨A0, c0, rfl, hc0, hC0⟩ := Kd.R_reads hR
      have t0 := blk_cell ht 0
      have t1 := blk_cell ht 1
      have HTr := Lib.hid hTr
      clear hTr hC0 hcurr hownr hCL hC2
      by_cases hmem : n ∈ ns
      · have hhas : Maps.has D (keyN n) = true := by rw [hD1]; simpa using hmem
        have hidx := Lib.hid (hD2 n hmem)
        have HM := Lib.hid hmem
        clear hD1 hD2 hmem
        go_wp2_with (at_lookup; refine wpList_lookup_own_ok_int _ rfl _ _ 81 rfl 9 3 .i64 (string_keyed Tryd.underlying9) Tryd.underlying81 Tryd.underlying3 (Tryd.zeroValue3 _) mb ns.length D rfl hown _ _ rfl hkn ?_; intro c hat hwc; have hc := Lib.hid (look_idx hidx.out hat); clear hat hwc)
        go_ret
        exact ⟨by have e := hc.out; subst e; unfold place0; rw [if_pos HM.out]; rfl, by unfold place0; rw [if_pos HM.out]; exact HTr.out, Touch.of_below hnx _ _ _⟩
      · have hhas : Maps.has D (keyN n) = false := by rw [hD1]; simpa using hmem
        have HD := Lib.hid (And.intro hD1 hD2)
        have HM := Lib.hid hmem
        clear hD1 hD2 hmem
        go_wp2_with (at_lookup; refine wpList_lookup_own_ok_int _ rfl _ _ 81 rfl 9 3 .i64 (string_keyed Tryd.underlying9) Tryd.underlying81 Tryd.underlying3 (Tryd.zeroValue3 _) mb ns.length D rfl hown _ _ rfl hkn ?_; intro c hat hwc; clear hat hwc)
        have hM := Lib.hid (k60_mkM wr base _ n (okn_apart (Kd.R_below hv2 hnx) hR))
        have HR := Lib.hid hR
        have HT := Lib.hid ht
        have HOWN := Lib.hid hown
        have HKN := Lib.hid hkn
        have htm : t ≠ mb := fun e => by obtain ⟨es, c_, h1, _⟩ := hown; rw [e, h1] at ht; cases ht
        have hbr : base ≤ wr.heap.size := Nat.le_trans hbs hnx.size
        have HF := Lib.hid (fun j (hj : wr.heap.size ≤ j) => hO.new j (Nat.le_trans hnx.size hj))
        have HB := Lib.hid (hnx.mono hbs)
        have HOK := Lib.hid (fun j (hj : okn j ∧ some j ≠ (Value.slice A0 ns.length c0).ownBlock) => (⟨hokn j hj.1, hj.2⟩ : ok j ∧ some j ≠ (Value.slice A0 ns.length c0).ownBlock))
        have b0 := blk_cell hboxr 0
        have b1 := blk_cell hboxr 1
        have b2 := blk_cell hboxr 2
        have HBX := Lib.hid hboxr
        clear hR ht hv2 hhas hkn hcv hown hboxr
        have htl := blk_lt HT.out
        have hbl := blk_lt HBX.out
        have HNT := Lib.hid (show some t ≠ (Value.slice A0 ns.length c0).ownBlock from fun e => (hO.old t (HR.out.1 t e.symm)).2.1 rfl)
        go_region_law (((refine Kd.R_append_step k60 (w0 := w) (W := wr.drew) base (by rfl) (.tmp 48) (.tmp 50) 24 60 (.agg #[(.int .i64 0), (.int .i64 0), (.slice none 0 0)]) 40 rfl Tryd.underlying24 info60 rfl (by decide) (by decide) (.slice A0 ns.length c0) ns n [.int .i64 n.f0, .int .i64 n.f1, .slice A2 n.f2.length c2] ok (fun j => okn j ∧ some j ≠ (Value.slice A0 ns.length c0).ownBlock) (by rfl) (by rfl) hM.out HOK.out HF.out HR.out HB.out.drew hbr (by omega) ?_; intro v5 w5 hR5 hB5 hg5 hat5; obtain ⟨A5, c5, rfl⟩ := Kd.R_slice hR5; have q0 := tab_after HT.out hg5 HNT.out; have q1 := blk_cell q0 0; have q2 := blk_frozen q0 0)))
        all_goals
          rw [List.length_append, List.length_singleton] at hR5
          obtain ⟨w6, hw6⟩ : ∃ w6, w6 = w5.setCell ⟨t, 0, none⟩ (.slice A5 (ns.length + 1) c5) := ⟨_, rfl⟩
          have hR6 := Kd.R_far (p := ⟨t, 0, none⟩) hR5 (fun j hj => (hO.old j hj).2.1) (Value.slice A5 (ns.length + 1) c5)
          have ht6 : w6.heap[t]? = some (.cells #[.slice A5 (ns.length + 1) c5, .map (some mb)] 83 (0, 0)) := by rw [hw6]; exact blk_set q0 0 _
          have hrow : some mb ≠ (Value.slice A0 ns.length c0).ownBlock := fun e => (hO.old mb (HR.out.1 mb e.symm)).2.2 rfl
          have hown6 := own_map_move (w' := w6) HOWN.out (by rw [hw6]; exact (Below.heap_setCell w5 ⟨t, 0, none⟩ _ mb (fun e => htm e.symm)).trans (hg5.block mb HOWN.out.lt hrow))
          have hTch := (((Touch.of_below hnx ok t mb).drew).trans (Touch.grown (t := t) (mb := mb) hg5 (fun j hj => .inl (HR.out.1 j hj)))).trans (Touch.set w5 ok t mb 0 (Value.slice A5 (ns.length + 1) c5))
          rw [← hw6] at hR6 hTch ⊢
          have HR6 := Lib.hid hR6
          have HT6 := Lib.hid ht6
          have HTC := Lib.hid hTch
          have s0 := blk_cell ht6 0
          have s1 := blk_cell ht6 1
          have hkn := HKN.out
          clear hR5 hR6 hg5 hat5 hB5 q0 q1 q2 hw6 hTch ht6 hrow
          go_wp2
          go_still_tail 11, (by kernel_rfl)
          refine wpList_mapUpdate_own _ rfl _ _ _ 81 rfl 9 3 (string_keyed Tryd.underlying9) Tryd.underlying81 _ mb ns.length D rfl (own_map_move hown6 rfl) (by unfold maxLen; omega) _ (.int .i64 (ns.length : Nat)) _ rfl ?hv hkn _ [] (plainElem_int Tryd.underlying3 ?wf) ?_
          case hv =>
            first
              | rfl
              | (show Value.int .i64 _ = _; congr 1; exact (i64_w _).trans (by unfold wrap64; omega))
          case wf => exact WalkArith.wf_i64 (by omega)
          intro w7 hown7 hg7
          have hS := SMap.put HD.out HOWN.out.isMap HM.out hown7
          have ht7 : w7.heap[t]? = some (.cells #[.slice A5 (ns.length + 1) c5, .map (some mb)] 83 (0, 0)) := (hg7.block t (blk_lt HT6.out) (fun e => htm (by injection e))).trans HT6.out
          have hR7 : k60.R 60 w7 base ok (.slice A5 (ns.length + 1) c5) (ns ++ [n]) := Kd.R_step HR6.out (fun j hj hlt => hg7.block j hlt (fun e => (hO.old j hj).2.2 (by injection e)))
          have hT7 := Lib.hid (show Touch w w7 ok t mb from HTC.out.drew.trans (Touch.grown (t := t) (mb := mb) (ok := ok) hg7 (fun j hj => .inr (.inr (by injection hj with hj; exact hj.symm)))))
          have HF7 := Lib.hid (show TabS w7 base t mb ok (ns ++ [n]) from ⟨_, ht7, hR7, hS⟩)
          have z0 := blk_cell ht7 0
          clear hown7 hg7 hS ht7 hR7 hown6 s0 s1
          go_wp2
          go_ret
          exact ⟨by unfold place0; rw [if_neg HM.out]; rfl, by unfold place0; rw [if_neg HM.out]; exact HF7.out, hT7.out⟩
end Go.Proofs.YtopbjginpmdebaaDoor.K
-- graph.Table.Leaf, graph.Table.Branch
namespace Go.Proofs.YtopbjginpmdebaaDoor.K
open Go.RowKit Go.Maps Go.Proofs.YtopbjginpmdebaaDoorW.PrintWords Go.Proofs.YtopbjginpmdebaaDoorW.PrintLast Go.Proofs.YtopbjginpmdebaaDoorW.PrintMore
set_option linter.unusedVariables false
set_option linter.unusedSimpArgs false
set_option maxHeartbeats 8000000 in
set_option maxRecDepth 100000 in
theorem leaf_calls (base t mb : Nat) (ok : Nat → Prop) (ns : List Nd) (x : Int) (w : World) (hT : TabS w base t mb ok ns) (hO : OkT base t mb ok w) (hbs : base ≤ w.heap.size)
    (hx : I64 x) (hroom : (ns.length + 1) * 40 ≤ 140737488355328) (htab : PowTab base w) :
    Calls Tryd.prog 57 #[.pointer (some ⟨t, 0, none⟩), .int .i64 x] w fun e w' => e = .returned (.int .i64 (place0 ns ⟨-1, x, []⟩).2) ∧ TabS w' base t mb ok (place0 ns ⟨-1, x, []⟩).1 ∧ Touch w w' ok t mb := by
  have hA := add_calls base t mb ok (fun _ => False) ns ⟨-1, x, []⟩ (.slice none 0 0) w hT hO hbs (Kd.R_nil _ _ _ _ _) (fun _ h => h.elim) (by intro y hy; simp at hy; rcases hy with rfl | rfl; exact ⟨by omega, by omega⟩; exact hx) (by simp) hroom htab
  have HP := Lib.hid (show ∃ r, r = place0 ns ⟨-1, x, []⟩ from ⟨_, rfl⟩)
  obtain ⟨r, hr⟩ := HP.out
  rw [← hr] at hA ⊢
  clear hr HP
  go_enter Tryd.func57, Tryd.ntmps57
  go_wp2_with (go_at_call 74; refine hA.mono ?_; clear hA; rintro e w1 ⟨rfl, hT1, hTc⟩)
  go_ret
  exact ⟨rfl, hT1, hTc⟩
theorem reads_at {w : World} {A : Option Addr} {l : List Int} (h : (Kd.int .i64).C w A l.length l) (hn : l ≠ []) : ∃ ad, A = some ad ∧ ∀ j : Nat, j < l.length → w.cell? (ad.add j) = some (.int .i64 (l.getD j 0)) := by
  obtain ⟨ad, e, hc⟩ := h.2.2 (List.length_pos_iff.2 hn)
  refine ⟨ad, e, fun j hj => ?_⟩
  obtain ⟨c, _, hK, hcell⟩ := hc j _ (List.getElem?_eq_getElem hj)
  have hK' : c = [.int .i64 l[j]] := hK
  subst hK'
  have := hcell 0 _ rfl
  simpa [Kd.int, Kd.scalar, List.getD_eq_getElem?_getD, List.getElem?_eq_getElem hj] using this
set_option maxHeartbeats 8000000 in
set_option maxRecDepth 100000 in
theorem branch_calls (base t mb : Nat) (ok : Nat → Prop) (ns : List Nd) (site : Int) (kids : List Int) (A : Option Addr) (c : Nat) (w : World) (hT : TabS w base t mb ok ns) (hO : OkT base t mb ok w) (hbs : base ≤ w.heap.size)
    (hC : (Kd.int .i64).C w A kids.length kids) (hc : kids.length ≤ c) (hne : kids ≠ []) (hI : ∀ x ∈ site :: 0 :: kids, I64 x) (hlen : kids.length ≤ 1073741824) (hroom : (ns.length + 1) * 40 ≤ 140737488355328) (htab : PowTab base w) :
    Calls Tryd.prog 58 #[.pointer (some ⟨t, 0, none⟩), .int .i64 site, .slice A kids.length c] w fun e w' => e = .returned (.int .i64 (placeB ns site kids).2) ∧ TabS w' base t mb ok (placeB ns site kids).1 ∧ Touch w w' ok t mb := by
  obtain ⟨ad, rfl, hcell⟩ := reads_at hC hne
  have hpos := List.length_pos_iff.2 hne
  have c0 := hcell 0 hpos
  rw [Addr.add_zero'] at c0
  have HC := Lib.hid hcell
  obtain ⟨x0, hx0⟩ : ∃ x0, x0 = kids.getD 0 0 := ⟨_, rfl⟩
  rw [← hx0] at c0
  have hhd : kids.headD 0 = x0 := by rw [hx0]; cases kids <;> rfl
  have HH := Lib.hid hhd
  clear hcell hx0 hhd
  obtain ⟨L, hL⟩ : ∃ L, L = kids.length := ⟨_, rfl⟩
  rw [← hL] at hpos hlen
  have HL := Lib.hid hL
  rw [← hL]
  clear hL
  go_enter Tryd.func58, Tryd.ntmps58
  go_wp2
  go_loop [11] (fun i => ∃ k : Nat, i = .int .i64 k ∧ k ≤ L ∧ ∀ y ∈ kids.take k, y = x0) (fun i => L - (intOf i).toNat)
  case atStart => exact ⟨0, rfl, Nat.zero_le _, by simp⟩
  case round =>
    obtain ⟨k, rfl, hk, hall⟩ := hrel
    have HA := Lib.hid hall
    clear hall
    by_cases hlt : k < L
    · have ck := HC.out k (by have := HL.out; omega)
      have hkb : k < 2000000000 := by omega
      obtain ⟨y, hy⟩ : ∃ y, y = kids.getD k 0 := ⟨_, rfl⟩
      rw [← hy] at ck
      have HY := Lib.hid hy
      clear hy
      by_cases he : y = x0
      · have heb : (y != x0) = false := by simp [he]
        have HE := Lib.hid he
        clear he
        go_wp2
        go_round
        case rel =>
          refine ⟨k + 1, by go_num, hlt, fun z hz => ?_⟩
          have hk' : k < kids.length := by have := HL.out; omega
          rw [List.take_succ_eq_append_getElem hk'] at hz
          rcases List.mem_append.1 hz with hz | hz
          · exact HA.out z hz
          · rw [List.mem_singleton.1 hz, ← HE.out, HY.out, List.getD_eq_getElem?_getD, List.getElem?_eq_getElem hk']; rfl
        case measure => simp [intOf]; omega
      · have heb : (y != x0) = true := by simp [he]
        have HE := Lib.hid he
        clear he
        have hC' : ReadsRow ((Kd.int .i64).K w) 1 w (some ad) L kids := by rw [HL.out]; exact hC
        have hns : sameK kids = false := by
          cases hs : sameK kids with
          | false => rfl
          | true =>
            have hk' : k < kids.length := by have := HL.out; omega
            have := sameK_head hs kids[k] (List.getElem_mem hk')
            rw [HH.out] at this
            have h2 : kids.getD k 0 = kids[k] := by rw [List.getD_eq_getElem?_getD, List.getElem?_eq_getElem hk']; rfl
            exact absurd (HY.out.trans (h2.trans this)) HE.out
        have hP : placeB ns site kids = place0 ns ⟨site, 0, kids⟩ := by unfold placeB; rw [hns]; rfl
        have HP := Lib.hid hP
        clear hP hns
        go_wp2_with (at_builtin; refine Kd.R_append_rows (Kd.int .i64) (w0 := w) w.heap.size rfl (.const (.slice none 0 0)) (.tmp 22) 22 3 (.int .i64 0) 8 rfl Tryd.underlying22 info3 rfl (by decide) (by decide) (.slice none 0 0) [] kids (some ad) L c (fun _ => True) (fun _ => True) rfl rfl (Kd.R_nil _ _ _ _ _) hC' (fun _ _ h => h) (fun _ _ => ⟨trivial, by simp [Value.ownBlock]⟩) (fun _ _ => trivial) (Below.refl _ _) (Nat.le_refl _) (by simp; omega) ?_; intro v3 w3 hR3 hB3 hg3 hat3; refine Hid.out ?_)
        refine Lib.hid ?_
        rw [List.nil_append] at hR3
        obtain ⟨A3, c3, rfl⟩ := Kd.R_slice hR3
        have hok3 : ∀ j, w.heap.size ≤ j → ok j := hO.new
        have hA := add_calls base t mb ok (fun j => w.heap.size ≤ j) ns ⟨site, 0, kids⟩ _ w3 (hT.below hB3) (hO.on hB3.size) (Nat.le_trans hbs hB3.size) (Kd.R_lower (Kd.R_mono (Kd.R_bound hR3) (fun j hj => hj.2.1)) hbs) hok3 hI (by show kids.length ≤ _; rw [← HL.out]; exact hlen) hroom (htab.on (hB3.mono hbs))
        rw [← HP.out] at hA
        dsimp only at hA
        have HB3 := Lib.hid hB3
        clear hok3 hR3 hg3 hat3 hB3
        go_wp2_with (go_at_call 74; refine hA.mono ?_; clear hA; rintro e w4 ⟨rfl, hT4, hTc⟩)
        go_ret
        exact ⟨rfl, hT4, (Touch.of_below HB3.out ok t mb).trans hTc⟩
    · have hs : sameK kids = true := by
        refine List.all_eq_true.2 fun y hy => ?_
        have : y = x0 := HA.out y (by rw [List.take_of_length_le (by have := HL.out; omega)]; exact hy)
        rw [HH.out]; simpa using this
      have hP : placeB ns site kids = (ns, x0) := by unfold placeB; rw [if_pos hs, HH.out]
      have HP := Lib.hid hP
      clear hP hs
      go_wp2
      go_ret
      rw [HP.out]
      exact ⟨rfl, hT, Touch.refl _ _ _ _⟩
end Go.Proofs.YtopbjginpmdebaaDoor.K
-- graph.Table.Import
namespace Go.Proofs.YtopbjginpmdebaaDoor.K
open Go.RowKit Go.Maps Go.Proofs.YtopbjginpmdebaaDoorW.PrintWords Go.Proofs.YtopbjginpmdebaaDoorW.PrintLast Go.Proofs.YtopbjginpmdebaaDoorW.PrintMore
set_option linter.unusedVariables false
set_option linter.unusedSimpArgs false
/-- an array of numbers of the call's own, at block b -/
def Arr (W : World) (b : Nat) (xs : List Int) : Prop := W.ownsRow b 3 1 (.slice (some ⟨b, 0, none⟩) xs.length xs.length) xs.length (nums .i64 xs)
theorem Arr.move {W W' : World} {b : Nat} {xs : List Int} (h : Arr W b xs) (hm : W'.heap[b]? = W.heap[b]?) : Arr W' b xs := own_move h (fun k hk => by simp [Value.ownBlock] at hk; subst hk; exact hm)
theorem Arr.lt {W : World} {b : Nat} {xs : List Int} (h : Arr W b xs) : b < W.heap.size := own_lt h b rfl
theorem Arr.at {W : World} {b : Nat} {xs : List Int} (h : Arr W b xs) (j : Nat) (hj : j < xs.length) : W.cell? ⟨b, j, none⟩ = some (.int .i64 (xs.getD j 0)) ∧ W.frozen? ⟨b, j, none⟩ = false := by
  have := own_at h (j : Int) (by omega) (by omega)
  simpa [rd] using this
theorem Arr.put {W : World} {b : Nat} {xs : List Int} (h : Arr W b xs) (j : Nat) (x : Int) : Arr (W.setCell ⟨b, j, none⟩ (.int .i64 x)) b (xs.set j x) := by
  have := own_put h (j : Int) x
  unfold Arr
  rw [List.length_set]
  simpa using this
theorem Arr.made (W : World) (n : Nat) (hn : n ≤ 9223372036854775807) : Arr (W.alloc (.cells (madeCells #[.int .i64 0] n) 3)) W.heap.size (List.replicate n 0) := by
  have := own_made W W.heap.size 3 .i64 n (Nat.le_refl _) hn
  unfold Arr
  simpa using this
theorem Arr.C {W : World} {b : Nat} {xs : List Int} (h : Arr W b xs) : (Kd.int .i64).C W (some ⟨b, 0, none⟩) xs.length xs := by
  obtain ⟨A, c, e, _, hC⟩ := Kd.R_reads (Kd.R_of_own (enc := Value.int .i64) (h1 := fun _ => rfl) (e := 3) (base := b) (ok := fun _ => True) (v := .slice (some ⟨b, 0, none⟩) xs.length xs.length) (xs := xs) h (fun _ _ => trivial))
  injection e with e1 _ e3
  subst e1
  exact hC
/-- a list's first k, then zeros -/
def padd (l : List Int) (n : Nat) : List Int := l ++ List.replicate (n - l.length) 0
theorem padd_len {l : List Int} {n : Nat} (h : l.length ≤ n) : (padd l n).length = n := by simp [padd]; omega
theorem padd_get {l : List Int} {n j : Nat} (hj : j < l.length) : (padd l n).getD j 0 = l.getD j 0 := by
  unfold padd
  rw [List.getD_eq_getElem?_getD, List.getD_eq_getElem?_getD, List.getElem?_append_left hj]
theorem padd_set {l : List Int} {n : Nat} (x : Int) (h : l.length < n) : (padd l n).set l.length x = padd (l ++ [x]) n := by
  unfold padd
  obtain ⟨m, hm⟩ : ∃ m, n - l.length = m + 1 := ⟨n - l.length - 1, by omega⟩
  rw [hm, List.replicate_succ, List.set_append_right _ _ (Nat.le_refl _), Nat.sub_self, List.set_cons_zero, List.append_assoc]
  congr 2
  rw [List.length_append, List.length_singleton]
  congr 1; omega
/-- between two nodes -/
structure ImpSt (w W : World) (base t mb : Nat) (ok : Nat → Prop) (ns nodes : List Nd) (k : Nat) : Prop where
  tab : TabS W base t mb (fun j => ok j ∧ j ≠ w.heap.size) (imp ns [] (nodes.take k)).1
  touch : Touch w W ok t mb
  arr : Arr W w.heap.size (padd (imp ns [] (nodes.take k)).2 nodes.length)
theorem Touch.mono {a b : World} {ok ok' : Nat → Prop} {t mb : Nat} (h : Touch a b ok' t mb) (hk : ∀ k, ok' k → ok k) : Touch a b ok t mb := ⟨h.os, h.tape, h.output, h.size, fun k hk' ho ht hm => h.same k hk' (fun e => ho (hk k e)) ht hm⟩
theorem ImpSt.arr2 {w W W2 : World} {base t mb : Nat} {ok : Nat → Prop} {ns nodes : List Nd} {k : Nat} (h : ImpSt w W base t mb ok ns nodes k) (ht : t < w.heap.size) (hmb : mb < w.heap.size) (hTc : Touch W W2 (fun j => ok j ∧ j ≠ w.heap.size) t mb) :
    Arr W2 w.heap.size (padd (imp ns [] (nodes.take k)).2 nodes.length) := h.arr.move (hTc.same _ h.arr.lt (fun e => e.2 rfl) (by omega) (by omega))
theorem ImpSt.next {w W W2 : World} {base t mb : Nat} {ok : Nat → Prop} {ns nodes : List Nd} {k : Nat} {r : List Nd × Int} (h : ImpSt w W base t mb ok ns nodes k) (ht : t < w.heap.size) (hmb : mb < w.heap.size) (hTc : Touch W W2 (fun j => ok j ∧ j ≠ w.heap.size) t mb)
    (hT : TabS W2 base t mb (fun j => ok j ∧ j ≠ w.heap.size) r.1) (hs : imp ns [] (nodes.take (k + 1)) = (r.1, (imp ns [] (nodes.take k)).2 ++ [r.2])) (hat : (imp ns [] (nodes.take k)).2.length = k) (hk : k < nodes.length) :
    ImpSt w (W2.setCell ⟨w.heap.size, k, none⟩ (.int .i64 r.2)) base t mb ok ns nodes (k + 1) := by
  have ha := h.arr2 ht hmb hTc
  have hto := h.touch.trans (hTc.mono (fun _ e => e.1))
  refine ⟨?_, ⟨hto.os, hto.tape, hto.output, Nat.le_trans hto.size (by simp [World.setCell]), fun j hj ho hjt hm => ?_⟩, ?_⟩
  · rw [hs]
    refine hT.move fun j hj hjk => Below.heap_setCell W2 _ _ j ?_
    rcases hjk with hjk | hjk | hjk
    · exact hjk.2
    · show j ≠ w.heap.size; omega
    · show j ≠ w.heap.size; omega
  · exact (Below.heap_setCell W2 ⟨w.heap.size, k, none⟩ _ j (by show j ≠ w.heap.size; omega)).trans (hto.same j hj ho hjt hm)
  · rw [hs]
    have := ha.put k r.2
    have e := padd_set (l := (imp ns [] (nodes.take k)).2) (n := nodes.length) r.2 (by rw [hat]; exact hk)
    rw [hat] at e
    rw [e] at this
    exact this
theorem rd_nth (nodes : List Nd) (k : Nat) : rd_T60 nodes (k : Int) = nth nodes (k : Int) := rfl
set_option maxHeartbeats 8000000 in
set_option maxRecDepth 100000 in
theorem import_calls (base t mb : Nat) (ok : Nat → Prop) (ns nodes : List Nd) (A : Option Addr) (c : Nat) (w : World) (hT : TabS w base t mb ok ns) (hO : OkT base t mb ok w) (hbs : base ≤ w.heap.size) (ht : t < w.heap.size) (hmb : mb < w.heap.size)
    (hC : ∀ W, Below base w W → k60.C W A nodes.length nodes) (hc : nodes.length ≤ c) (hF : Fit nodes) (hU : Tbl ns []) (hI : ∀ n ∈ nodes, I64 n.f0 ∧ I64 n.f1 ∧ n.f2.length ≤ 1073741824) (hroom : (ns.length + nodes.length) * 40 ≤ 140737488355328) (htab : PowTab base w) :
    Calls Tryd.prog 70 #[.pointer (some ⟨t, 0, none⟩), .slice A nodes.length c] w fun e w' => e = .returned (.slice (some ⟨w.heap.size, 0, none⟩) nodes.length nodes.length) ∧ ImpSt w w' base t mb ok ns nodes nodes.length := by
  obtain ⟨N, hN⟩ : ∃ N, N = nodes.length := ⟨_, rfl⟩
  have hmk := print_make (P := Tryd.prog) 22 3 .i64 8 Tryd.underlying22 info3 (by decide) N (by omega)
  have HN := Lib.hid hN
  rw [← hN]
  rw [← hN] at hroom hc
  clear hN
  have h0 : ImpSt w (w.alloc (.cells (madeCells #[.int .i64 0] N) 3)) base t mb ok ns nodes 0 := by
    have hb := (Below.refl w.heap.size w).alloc (Nat.le_refl _) (.cells (madeCells #[.int .i64 0] N) 3)
    refine ⟨?_, Touch.of_below hb _ _ _, ?_⟩
    · have := hT.below hb
      obtain ⟨v, h1, h2, h3⟩ := hT
      refine ⟨v, (hb.block _ (blk_lt h1)).trans h1, ?_, h3.move (hb.block _ h3.lt)⟩
      refine Kd.R_step (Kd.R_mono (Kd.R_bound h2) (fun k hk => ⟨hk.1, by have := hk.2.2.1; omega⟩)) (fun k _ hk => hb.block k hk)
    · simp only [List.take_zero, imp, padd, List.nil_append, List.length_nil, Nat.sub_zero]
      rw [← HN.out]
      exact Arr.made w N (by omega)
  have H0 := Lib.hid h0
  clear h0
  go_enter Tryd.func70, Tryd.ntmps70
  go_wp2
  go_loopw [16] (fun i wr => ∃ k : Nat, i = .int .i64 k ∧ k ≤ N ∧ ImpSt w wr base t mb ok ns nodes k) (fun i _ => N - (intOf i).toNat)
  case atStart => exact ⟨0, rfl, Nat.zero_le _, H0.out⟩
  case round =>
    obtain ⟨k, rfl, hk, hst⟩ := hrel
    by_cases hlt : k < N
    · have hkn : k < nodes.length := by have := HN.out; omega
      have hnm : nth nodes k ∈ nodes := by rw [nth_lt hkn]; exact List.getElem_mem hkn
      have hB := hst.touch.below hbs hO
      have hsz := hst.touch.size
      obtain ⟨ad, A2, c2, rfl, d0, d1, d2, l2, g2⟩ := at_T60 (hC wr hB) (k : Int) (by omega) (by omega)
      rw [Int.toNat_natCast] at d0 d1 d2
      rw [rd_nth] at d0 d1 d2 l2 g2
      obtain ⟨n, hn⟩ : ∃ n, n = nth nodes (k : Int) := ⟨_, rfl⟩
      rw [← hn] at d0 d1 d2 l2 g2 hnm
      obtain ⟨hI0, hI1, hI2⟩ := hI n hnm
      have hkids : ∀ c ∈ n.f2, 0 ≤ c ∧ c < (k : Int) := by rw [hn]; exact hF.1 k hkn
      have hfull := hF.2 n hnm
      obtain ⟨tT, tL, -⟩ := imp_tbl hF hU k (by omega)
      have hat : (imp ns [] (nodes.take k)).2.length = k := by rw [imp_len]; simp; omega
      have hsucc : imp ns [] (nodes.take (k + 1)) = ((place1 (imp ns [] (nodes.take k)).1 (imp ns [] (nodes.take k)).2 n).1, (imp ns [] (nodes.take k)).2 ++ [(place1 (imp ns [] (nodes.take k)).1 (imp ns [] (nodes.take k)).2 n).2]) := by rw [take_snoc' hkn, imp_snoc, ← hn]
      have hab := hst.arr.lt
      have hO1 : ∀ W : World, wr.heap.size ≤ W.heap.size → OkT base t mb (fun j => ok j ∧ j ≠ w.heap.size) W := fun W hW => ⟨fun j hj => hO.old j hj.1, fun j hj => ⟨hO.new j (by omega), by omega⟩, hO.ht, hO.hmb⟩
      have hkb : k < 4000000000000 := by omega
      have HST := Lib.hid hst
      have HKIDS := Lib.hid hkids
      have HFULL := Lib.hid hfull
      have HT := Lib.hid tT
      have HAT := Lib.hid hat
      have HSUCC := Lib.hid hsucc
      have HO1 := Lib.hid hO1
      have HNN := Lib.hid hn
      clear hst hkids hfull tT hat hsucc hO1 hn
      by_cases hneg : n.f0 < 0
      · have hb1 : Below wr.heap.size wr (wr.alloc (.cells #[.int .i64 n.f0, .int .i64 n.f1, .slice A2 n.f2.length c2] 60)) := (Below.refl _ wr).alloc (Nat.le_refl _) _
        have hA := (leaf_calls base t mb (fun j => ok j ∧ j ≠ w.heap.size) _ n.f1 _ (HST.out.tab.below hb1) (HO1.out _ hb1.size) (by have := hb1.size; omega) hI1 (by omega) (htab.on (hB.trans (hb1.mono (by omega))))).mono (R' := fun e w2 => e = .returned (.int .i64 (place1 (imp ns [] (nodes.take k)).1 (imp ns [] (nodes.take k)).2 n).2) ∧
            TabS w2 base t mb (fun j => ok j ∧ j ≠ w.heap.size) (place1 (imp ns [] (nodes.take k)).1 (imp ns [] (nodes.take k)).2 n).1 ∧ Touch wr w2 (fun j => ok j ∧ j ≠ w.heap.size) t mb ∧ (∃ v, w2.cell? ⟨w.heap.size, k, none⟩ = some (.int .i64 v)) ∧ w2.frozen? ⟨w.heap.size, k, none⟩ = false) (by
          rintro e w2 ⟨rfl, h2, h3⟩
          have h4 := (Touch.of_below hb1 (fun j => ok j ∧ j ≠ w.heap.size) t mb).trans h3
          have h5 := HST.out.arr2 ht hmb h4
          have h6 := h5.at k (by rw [padd_len (by rw [HAT.out]; omega)]; exact hkn)
          unfold place1
          rw [if_pos hneg]
          exact ⟨rfl, h2, h4, ⟨_, h6.1⟩, h6.2⟩)
        obtain ⟨r, hr⟩ : ∃ r, r = place1 (imp ns [] (nodes.take k)).1 (imp ns [] (nodes.take k)).2 n := ⟨_, rfl⟩
        rw [← hr] at hA
        have HR := Lib.hid hr
        clear hr hb1
        go_wp2_with (go_at_call 57; refine hA.mono ?_; clear hA; rintro e w2 ⟨rfl, hT2, hTc2, ⟨v, hv⟩, hf⟩)
        go_roundw
        case rel =>
          refine ⟨k + 1, by go_num, hlt, ?_⟩
          exact HST.out.next ht hmb hTc2 hT2 (by rw [HSUCC.out, HR.out]) HAT.out hkn
        case measure => simp [intOf]; omega
      · have hne := HFULL.out (by omega)
        obtain ⟨ad2, rfl, hk2⟩ := reads_at g2 hne
        have hmk2 := print_make (P := Tryd.prog) 22 3 .i64 8 Tryd.underlying22 info3 (by decide) n.f2.length (by omega)
        have HK2 := Lib.hid hk2
        obtain ⟨M, hM⟩ : ∃ M, M = n.f2.length := ⟨_, rfl⟩
        have HM := Lib.hid hM
        obtain ⟨ks, hks⟩ : ∃ ks, ks = n.f2 := ⟨_, rfl⟩
        have HKS := Lib.hid hks
        obtain ⟨bx, hbx⟩ : ∃ bx, bx = Obj.cells #[.int .i64 n.f0, .int .i64 n.f1, .slice (some ad2) n.f2.length c2] 60 := ⟨_, rfl⟩
        have hb1 : Below wr.heap.size wr (wr.alloc bx) := (Below.refl _ wr).alloc (Nat.le_refl _) _
        have hw1 : (wr.alloc bx).heap.size = wr.heap.size + 1 := by simp
        have hin : Arr ((wr.alloc bx).alloc (.cells (madeCells #[.int .i64 0] n.f2.length) 3)) (wr.heap.size + 1) (padd ((n.f2.take 0).map (lk (imp ns [] (nodes.take k)).2)) n.f2.length) := by
          have := Arr.made (wr.alloc bx) n.f2.length (by omega)
          rw [hw1] at this
          simpa [padd] using this
        have hb2 : Below (wr.heap.size + 1) (wr.alloc bx) ((wr.alloc bx).alloc (.cells (madeCells #[.int .i64 0] n.f2.length) 3)) := (Below.refl _ _).alloc (by simp) _
        rw [hbx] at hin hb2
        rw [← hM] at hin hb2 hmk2
        have HIN := Lib.hid (And.intro hb2 hin)
        clear hk2 hks hb2 hin hb1 hw1 hbx
        rw [← hM] at d2 l2 hI2
        clear hM
        go_wp2
        obtain ⟨wo, rfl⟩ : ∃ wo : World, wo = wr := ⟨_, rfl⟩
        go_loopw [38] (fun i W => ∃ j : Nat, i = .int .i64 j ∧ j ≤ M ∧ Below (wo.heap.size + 1) (wo.alloc (.cells #[.int .i64 n.f0, .int .i64 n.f1, .slice (some ad2) M c2] 60)) W ∧ Arr W (wo.heap.size + 1) (padd ((n.f2.take j).map (lk (imp ns [] (nodes.take k)).2)) M))
          (fun i _ => M - (intOf i).toNat)
        case atStart => exact ⟨0, rfl, Nat.zero_le _, HIN.out.1, HIN.out.2⟩
        case round =>
          obtain ⟨j, rfl, hj, hbW, haW⟩ := hrel
          have hbo : Below wo.heap.size wo wr := ((Below.refl _ wo).alloc (Nat.le_refl _) _).trans (hbW.mono (by omega))
          by_cases hjl : j < M
          · have hjn : j < n.f2.length := by have := HM.out; omega
            have hcm : n.f2.getD j 0 ∈ n.f2 := by rw [List.getD_eq_getElem?_getD, List.getElem?_eq_getElem hjn]; exact List.getElem_mem hjn
            obtain ⟨hc0, hc1⟩ := HKIDS.out _ hcm
            have e0 := pw_cell_below hbo (HK2.out j hjn)
            obtain ⟨cn, hcn⟩ : ∃ cn : Nat, n.f2.getD j 0 = cn := ⟨(n.f2.getD j 0).toNat, by omega⟩
            rw [hcn] at e0 hc1
            have hcN : cn < N := by omega
            have hcNi : (cn : Int) < (N : Int) := by omega
            have e1 := (HST.out.arr.move (hbo.block _ hab)).at cn (by rw [padd_len (by rw [HAT.out]; omega)]; omega)
            rw [padd_get (by rw [HAT.out]; omega)] at e1
            have e2 := e1.1
            have e3 := haW.at j (by rw [padd_len (by simp; omega)]; exact hjl)
            have e4 := e3.1
            have e5 := e3.2
            have hjb : j < 2000000000 := by omega
            have HCN := Lib.hid hcn
            have HBW := Lib.hid hbW
            have HAW := Lib.hid haW
            clear e1 e3 hcm hcn hbW haW
            go_wp2
            go_roundw
            case rel =>
              refine ⟨j + 1, by go_num, hjl, HBW.out.setCell (p := ⟨wo.heap.size + 1, j, none⟩) (Nat.le_refl _) _, ?_⟩
              have h1 := HAW.out.put j ((imp ns [] (nodes.take k)).2.getD cn 0)
              have hl : ((n.f2.take j).map (lk (imp ns [] (nodes.take k)).2)).length = j := by simp; omega
              have h2 := padd_set (l := (n.f2.take j).map (lk (imp ns [] (nodes.take k)).2)) (n := M) ((imp ns [] (nodes.take k)).2.getD cn 0) (by rw [hl]; exact hjl)
              rw [hl] at h2
              rw [h2] at h1
              have h3 : (n.f2.take (j + 1)).map (lk (imp ns [] (nodes.take k)).2) = (n.f2.take j).map (lk (imp ns [] (nodes.take k)).2) ++ [(imp ns [] (nodes.take k)).2.getD cn 0] := by
                rw [List.take_succ_eq_append_getElem hjn, List.map_append]
                congr 1
                have : n.f2[j] = (cn : Int) := by
                  have := HCN.out
                  rw [List.getD_eq_getElem?_getD, List.getElem?_eq_getElem hjn] at this
                  exact this
                simp [lk, this]
              rw [h3]
              exact h1
            case measure => simp [intOf]; omega
          · have ej : j = M := by omega
            obtain ⟨KL, hKL⟩ : ∃ KL, KL = n.f2.map (lk (imp ns [] (nodes.take k)).2) := ⟨_, rfl⟩
            have hKl : KL.length = M := by rw [hKL, List.length_map]; exact HM.out.symm
            have haK : Arr wr (wo.heap.size + 1) KL := by
              have h1 : (n.f2.take j).map (lk (imp ns [] (nodes.take k)).2) = KL := by rw [hKL, ej, List.take_of_length_le (l := n.f2) (i := M) (by have := HM.out; omega)]
              rw [h1] at haW
              unfold padd at haW
              rw [hKl, Nat.sub_self] at haW
              simpa using haW
            have hCK := haK.C
            rw [hKl] at hCK
            have hkI : ∀ x ∈ n.f0 :: 0 :: KL, I64 x := by
              intro x hx
              rcases List.mem_cons.1 hx with rfl | hx
              · exact hI0
              · rcases List.mem_cons.1 hx with rfl | hx
                · exact ⟨by omega, by omega⟩
                · rw [hKL] at hx
                  obtain ⟨h1, h2⟩ := HT.out.kids (l := n.f2) (by rw [HAT.out]; exact HKIDS.out) x hx
                  exact ⟨by omega, by omega⟩
            have hKne : KL ≠ [] := by rw [hKL]; simpa using hne
            have hA := (branch_calls base t mb (fun j => ok j ∧ j ≠ w.heap.size) _ n.f0 KL (some ⟨wo.heap.size + 1, 0, none⟩) M wr (HST.out.tab.below hbo) (HO1.out _ hbo.size) (by have := hbo.size; omega) (by rw [hKl]; exact hCK) (by rw [hKl]; exact Nat.le_refl _) hKne hkI (by rw [hKl]; exact hI2) (by omega) (htab.on (hB.trans (hbo.mono (by omega))))).mono (R' := fun e w2 => e = .returned (.int .i64 (place1 (imp ns [] (nodes.take k)).1 (imp ns [] (nodes.take k)).2 n).2) ∧
                TabS w2 base t mb (fun j => ok j ∧ j ≠ w.heap.size) (place1 (imp ns [] (nodes.take k)).1 (imp ns [] (nodes.take k)).2 n).1 ∧ Touch wo w2 (fun j => ok j ∧ j ≠ w.heap.size) t mb ∧ (∃ v, w2.cell? ⟨w.heap.size, k, none⟩ = some (.int .i64 v)) ∧ w2.frozen? ⟨w.heap.size, k, none⟩ = false) (by
              rintro e w2 ⟨rfl, h2, h3⟩
              have h4 := (Touch.of_below hbo (fun j => ok j ∧ j ≠ w.heap.size) t mb).trans h3
              have h5 := HST.out.arr2 ht hmb h4
              have h6 := h5.at k (by rw [padd_len (by rw [HAT.out]; omega)]; exact hkn)
              unfold place1
              rw [if_neg (by omega), ← hKL]
              exact ⟨rfl, h2, h4, ⟨_, h6.1⟩, h6.2⟩)
            rw [hKl] at hA
            obtain ⟨r, hr⟩ : ∃ r, r = place1 (imp ns [] (nodes.take k)).1 (imp ns [] (nodes.take k)).2 n := ⟨_, rfl⟩
            rw [← hr] at hA
            have HR := Lib.hid hr
            have hbox : wr.heap[wo.heap.size]? = some (.cells #[.int .i64 n.f0, .int .i64 n.f1, .slice (some ad2) M c2] 60 (0, 0)) := (hbW.block _ (by omega)).trans (heap_alloc_new wo _)
            have q0 := blk_cell hbox 0
            clear hr hKL hKl haK hCK hkI hKne hbW haW hbox ej
            go_wp2_with (go_at_call 58; refine hA.mono ?_; clear hA; rintro e w2 ⟨rfl, hT2, hTc2, ⟨v, hv⟩, hf⟩)
            go_roundw
            case rel =>
              refine ⟨k + 1, by go_num, hlt, ?_⟩
              exact HST.out.next ht hmb hTc2 hT2 (by rw [HSUCC.out, HR.out]) HAT.out hkn
            case measure => simp [intOf]; omega
    · obtain rfl : k = N := by omega
      go_wp2
      go_ret
      exact ⟨rfl, hst⟩
end Go.Proofs.YtopbjginpmdebaaDoor.K
-- graph.New, graph.Table.Root
namespace Go.Proofs.YtopbjginpmdebaaDoor.K
open Go.RowKit Go.Maps Go.Proofs.YtopbjginpmdebaaDoorW.PrintWords Go.Proofs.YtopbjginpmdebaaDoorW.PrintLast Go.Proofs.YtopbjginpmdebaaDoorW.PrintMore
set_option linter.unusedVariables false
set_option linter.unusedSimpArgs false
/-- what may hold a new table's rows -/
def okNew (base t mb : Nat) : Nat → Prop := fun k => base ≤ k ∧ k ≠ t ∧ k ≠ mb
set_option maxHeartbeats 8000000 in
set_option maxRecDepth 100000 in
theorem new_calls (w : World) : Calls Tryd.prog 46 #[] w fun e w' => e = .returned (.pointer (some ⟨w.heap.size + 1, 0, none⟩)) ∧ Below w.heap.size w w' ∧ w'.heap.size = w.heap.size + 2 ∧
    (∀ base, base ≤ w.heap.size → TabS w' base (w.heap.size + 1) w.heap.size (okNew base (w.heap.size + 1) w.heap.size) []) := by
  have hmm := @run_makeMap Tryd.prog
  go_enter Tryd.func46, Tryd.ntmps46
  go_wp2
  go_ret
  have hb : Below w.heap.size w ((w.alloc (.map #[] 0)).alloc (.cells #[.slice none 0 0, .map (some w.heap.size)] 83)) := ((Below.refl _ w).alloc (Nat.le_refl _) _).alloc (by simp) _
  refine ⟨rfl, hb, by simp, fun base hbs => ?_⟩
  have h1 : ((w.alloc (.map #[] 0)).alloc (.cells #[.slice none 0 0, .map (some w.heap.size)] 83)).heap[w.heap.size + 1]? = some (.cells #[.slice none 0 0, .map (some w.heap.size)] 83 (0, 0)) := by
    have := heap_alloc_new (w.alloc (.map #[] 0)) (.cells #[.slice none 0 0, .map (some w.heap.size)] 83)
    rwa [World.size_alloc] at this
  exact ⟨_, h1, Kd.R_nil _ _ _ _ _, .map [], (World.ownsMap_made w Tryd.prog 9 _).alloc _, fun n => by simp [Maps.has], fun n hn => by simp at hn⟩
theorem okNew_ok (base : Nat) {w w' : World} (hbs : base ≤ w.heap.size) (hs : w'.heap.size = w.heap.size + 2) : OkT base (w.heap.size + 1) w.heap.size (okNew base (w.heap.size + 1) w.heap.size) w' :=
  ⟨fun k hk => hk, fun k hk => ⟨by omega, by omega, by omega⟩, by omega, hbs⟩
set_option maxHeartbeats 8000000 in
set_option maxRecDepth 100000 in
theorem root_calls (base t mb : Nat) (ok : Nat → Prop) (ns nodes : List Nd) (A : Option Addr) (c : Nat) (w : World) (hT : TabS w base t mb ok ns) (hO : OkT base t mb ok w) (hbs : base ≤ w.heap.size) (ht : t < w.heap.size) (hmb : mb < w.heap.size)
    (hC : ∀ W, Below base w W → k60.C W A nodes.length nodes) (hc : nodes.length ≤ c) (hF : Fit nodes) (hne : nodes ≠ []) (hU : Tbl ns []) (hI : ∀ n ∈ nodes, I64 n.f0 ∧ I64 n.f1 ∧ n.f2.length ≤ 1073741824) (hroom : (ns.length + nodes.length) * 40 ≤ 140737488355328) (htab : PowTab base w) :
    Calls Tryd.prog 48 #[.pointer (some ⟨t, 0, none⟩), .agg #[.slice A nodes.length c]] w fun e w' => e = .returned (.int .i64 (lk (imp ns [] nodes).2 ((nodes.length - 1 : Nat) : Int))) ∧ TabS w' base t mb ok (imp ns [] nodes).1 ∧ Touch w w' ok t mb := by
  have hb1 : Below w.heap.size w (w.alloc (.cells #[.slice A nodes.length c] 31)) := (Below.refl _ w).alloc (Nat.le_refl _) _
  have hA := (import_calls base t mb ok ns nodes A c _ (hT.below hb1) (hO.on hb1.size) (by have := hb1.size; omega) (by have := hb1.size; omega) (by have := hb1.size; omega) (fun W hW => hC W ((hb1.mono hbs).trans hW)) hc hF hU hI hroom (htab.on (hb1.mono hbs))).mono (R' := fun e w2 => e = .returned (.slice (some ⟨w.heap.size + 1, 0, none⟩) nodes.length nodes.length) ∧
      w2.cell? ⟨w.heap.size + 1, nodes.length - 1, none⟩ = some (.int .i64 (lk (imp ns [] nodes).2 ((nodes.length - 1 : Nat) : Int))) ∧ TabS w2 base t mb ok (imp ns [] nodes).1 ∧ Touch w w2 ok t mb) (by
    rintro e w2 ⟨rfl, h1, h2, h3⟩
    rw [World.size_alloc] at h1 h3 ⊢
    rw [List.take_length] at h1 h3
    have hp := List.length_pos_iff.2 hne
    have hl := imp_len nodes ns []
    have h4 := (h3.at (nodes.length - 1) (by rw [padd_len (by rw [hl]; simp)]; omega)).1
    rw [padd_get (by rw [hl]; simp; omega)] at h4
    obtain ⟨v, g1, g2, g3⟩ := h1
    exact ⟨rfl, h4, ⟨v, g1, Kd.R_mono g2 (fun k hk => hk.1), g3⟩, (Touch.of_below hb1 ok t mb).trans h2⟩)
  obtain ⟨N, hN⟩ : ∃ N, N = nodes.length := ⟨_, rfl⟩
  have hp : 0 < N := by rw [hN]; exact List.length_pos_iff.2 hne
  have hNb : N < 4000000000000 := by omega
  obtain ⟨r, hr⟩ : ∃ r, r = lk (imp ns [] nodes).2 ((nodes.length - 1 : Nat) : Int) := ⟨_, rfl⟩
  rw [← hr] at hA ⊢
  rw [← hN] at hA ⊢
  have e1 : (N : Int) - 1 = ((N - 1 : Nat) : Int) := by omega
  have hN1 : N - 1 < N := by omega
  have HR := Lib.hid hr
  have HN := Lib.hid hN
  clear hr hN hb1
  go_enter Tryd.func48, Tryd.ntmps48
  go_wp2_with (go_at_call 70; refine hA.mono ?_; clear hA; rintro e w2 ⟨rfl, q0, hT2, hTc2⟩)
  go_ret
  exact ⟨rfl, hT2, hTc2⟩
end Go.Proofs.YtopbjginpmdebaaDoor.K
-- graph.Table.Export: what its loop keeps
namespace Go.Proofs.YtopbjginpmdebaaDoor.K
open Go.RowKit Go.Maps Go.Proofs.YtopbjginpmdebaaDoorW.PrintWords Go.Proofs.YtopbjginpmdebaaDoorW.PrintLast Go.Proofs.YtopbjginpmdebaaDoorW.PrintMore
set_option linter.unusedVariables false
set_option linter.unusedSimpArgs false
/-- a map from numbers to numbers -/
def IMap (W : World) (mp n : Nat) (g : PM) : Prop := ∃ D : DataW Unit, W.ownsMap Tryd.prog 3 (plainElem Tryd.prog 3) mp n D ∧
  ∀ x : Int, Maps.has D (.int .i64 x) = (g x).isSome ∧ D.atKey (.int .i64 x) (.lit (.int .i64 0)) = .lit (.int .i64 ((g x).getD 0))
theorem IMap.move {W W' : World} {mp n : Nat} {g : PM} (h : IMap W mp n g) (hm : W'.heap[mp]? = W.heap[mp]?) : IMap W' mp n g := by
  obtain ⟨D, ⟨es, c, h1, h2⟩, h3⟩ := h
  exact ⟨D, ⟨es, c, hm.trans h1, h2⟩, h3⟩
theorem IMap.lt {W : World} {mp n : Nat} {g : PM} (h : IMap W mp n g) : mp < W.heap.size := by obtain ⟨D, h, _⟩ := h; exact h.lt
theorem IMap.made (w : World) : IMap (w.alloc (.map #[] 0)) w.heap.size 0 (fun _ => none) := ⟨.map [], World.ownsMap_made w Tryd.prog 3 _, fun x => ⟨by simp [Maps.has], rfl⟩⟩
theorem intKey_inj {x y : Int} (h : (Lit.int .i64 x) = Lit.int .i64 y) : x = y := by injection h
theorem IMap.put {W' : World} {mp n : Nat} {g : PM} {D : DataW Unit} (hD : ∀ x : Int, Maps.has D (.int .i64 x) = (g x).isSome ∧ D.atKey (.int .i64 x) (.lit (.int .i64 0)) = .lit (.int .i64 ((g x).getD 0))) (hm : IsMap D) {i a : Int}
    (h : W'.ownsMap Tryd.prog 3 (plainElem Tryd.prog 3) mp (n + 1) (D.put (.int .i64 i) (.lit (.int .i64 a)))) : IMap W' mp (n + 1) (upd g i a) := by
  refine ⟨_, h, fun x => ?_⟩
  unfold upd
  by_cases e : x = i
  · subst e
    have hl : WideAt.IsKeyLit (Lit.int .i64 x) := trivial
    rw [has_put_same hm hl, atKey_put_same hm hl, if_pos rfl]
    exact ⟨rfl, rfl⟩
  · rw [has_put_other (fun h' => e (intKey_inj h')), atKey_put_other (fun h' => e (intKey_inj h')), if_neg e]
    exact hD x
/-- the stack's cells -/
def flat (l : List (Int × Int)) : List Value := (l.map fun p => [Value.int .i64 p.1, Value.int .i64 p.2]).flatten
theorem flat_snoc (l : List (Int × Int)) (p : Int × Int) : flat (l ++ [p]) = flat l ++ [.int .i64 p.1, .int .i64 p.2] := by simp [flat]
theorem flat_len (l : List (Int × Int)) : (flat l).length = l.length * 2 := by
  induction l with
  | nil => rfl
  | cons p l ih => simp [flat] at ih ⊢; omega
/-- the stack, its top first -/
def Stk (W : World) (b : Nat) (v : Value) (st : List (Int × Int)) : Prop := W.ownsRow b 85 2 v st.length (flat st.reverse)
theorem Stk.move {W W' : World} {b : Nat} {v : Value} {st : List (Int × Int)} (h : Stk W b v st) (hm : ∀ k, v.ownBlock = some k → W'.heap[k]? = W.heap[k]?) : Stk W' b v st := own_move h hm
theorem Stk.top {W : World} {b : Nat} {v : Value} {i j : Int} {st : List (Int × Int)} (h : Stk W b v ((i, j) :: st)) :
    ∃ (g cap : Nat) (cur : Array Value), v = .slice (some ⟨g, 0, none⟩) (st.length + 1) cap ∧ b ≤ g ∧ W.heap[g]? = some (.cells cur 85 (0, 0)) ∧ cur[st.length * 2]? = some (.int .i64 i) ∧ cur[st.length * 2 + 1]? = some (.int .i64 j) := by
  obtain ⟨g, cap, cur, e, hb, hh, hc⟩ := own_obj h (by simp)
  refine ⟨g, cap, cur, e, hb, hh, hc _ _ ?_, hc _ _ ?_⟩
  · rw [List.reverse_cons, flat_snoc, List.getElem?_append_right (by rw [flat_len]; simp), flat_len]; simp
  · rw [List.reverse_cons, flat_snoc, List.getElem?_append_right (by rw [flat_len]; simp), flat_len]; simp
theorem Stk.next {W : World} {b g cap : Nat} {i j : Int} {st : List (Int × Int)} (h : Stk W b (.slice (some ⟨g, 0, none⟩) (st.length + 1) cap) ((i, j) :: st)) (j' : Int) :
    Stk (W.setCell ⟨g, st.length * 2 + 1, none⟩ (.int .i64 j')) b (.slice (some ⟨g, 0, none⟩) (st.length + 1) cap) ((i, j') :: st) := by
  have := (World.ownsRow.stored (g := g) (cap := cap) (n := st.length + 1) h (st.length * 2 + 1) (.int .i64 j')).1
  unfold Stk at h ⊢
  rw [List.reverse_cons, flat_snoc] at this ⊢
  rw [List.set_append_right _ _ (by rw [flat_len]; simp), flat_len] at this
  simpa using this
theorem Stk.pop {W : World} {b cap : Nat} {A : Option Addr} {p : Int × Int} {st : List (Int × Int)} (h : Stk W b (.slice A (st.length + 1) cap) (p :: st)) : Stk W b (.slice A st.length cap) st := by
  have := own_take (m := st.length) h (by simp)
  rw [List.reverse_cons, flat_snoc, List.take_append_of_le_length (by rw [flat_len]; simp), List.take_of_length_le (by rw [flat_len]; simp)] at this
  exact this
theorem Stk.first (W : World) (b : Nat) (i : Int) (hb : b ≤ W.heap.size) : Stk (W.alloc (.cells #[.int .i64 i, .int .i64 0] 85)) b (.slice (some ⟨W.heap.size, 0, none⟩) 1 1) [(i, 0)] := by
  have h := World.ownsRow_lit (base := b) (e := 85) (size := 2) W #[.int .i64 i, .int .i64 0] 1 hb (by decide) (by simp)
  simpa [Stk, flat] using h
/-- strictly rising numbers below n are at most n -/
theorem asc_len : ∀ (l : List Int) (n : Nat), l.Pairwise (· < ·) → (∀ x ∈ l, 0 ≤ x ∧ x < (n : Int)) → l.length ≤ n := by
  have key : ∀ (l : List Int) (lo : Int), l.Pairwise (· < ·) → ∀ n : Int, (∀ x ∈ l, lo ≤ x ∧ x < n) → lo ≤ n → (l.length : Int) ≤ n - lo := by
    intro l
    induction l with
    | nil => intro lo _ n _ h; simp; omega
    | cons a l ih =>
      intro lo hp n hb hlo
      rw [List.pairwise_cons] at hp
      have ha := hb a List.mem_cons_self
      have := ih (a + 1) hp.2 n (fun x hx => ⟨by have := hp.1 x hx; omega, (hb x (List.mem_cons_of_mem _ hx)).2⟩) (by omega)
      rw [List.length_cons]; omega
  intro l n hp hb
  have := key l 0 hp n hb (by omega)
  omega
/-- what may stand on the stack -/
structure StOk (u : List Nd) (st : List (Int × Int)) : Prop where
  inr : ∀ p ∈ st, 0 ≤ p.1 ∧ p.1 < (u.length : Int) ∧ 0 ≤ p.2 ∧ p.2 ≤ ((nth u p.1).f2.length : Int)
  asc : st.Pairwise fun a b => a.1 < b.1
theorem StOk.len {u : List Nd} {st : List (Int × Int)} (h : StOk u st) : st.length ≤ u.length := by
  have := asc_len (st.map (·.1)) u.length (by rw [List.pairwise_map]; exact h.asc) (by intro x hx; obtain ⟨p, hp, rfl⟩ := List.mem_map.1 hx; exact ⟨(h.inr p hp).1, (h.inr p hp).2.1⟩)
  simpa using this
theorem StOk.next {u : List Nd} {i j : Int} {st : List (Int × Int)} (h : StOk u ((i, j) :: st)) (hj : j < ((nth u i).f2.length : Int)) : StOk u ((i, j + 1) :: st) := by
  refine ⟨fun p hp => ?_, ?_⟩
  · rcases List.mem_cons.1 hp with rfl | hp
    · have := h.inr (i, j) List.mem_cons_self
      exact ⟨this.1, this.2.1, by have := this.2.2.1; simp only at this ⊢; omega, by simp only; omega⟩
    · exact h.inr p (List.mem_cons_of_mem _ hp)
  · have := h.asc
    rw [List.pairwise_cons] at this ⊢
    exact this
theorem StOk.push {u : List Nd} (hu : Down u) {i j k : Int} {st : List (Int × Int)} (h : StOk u ((i, j) :: st)) (hk : k ∈ (nth u i).f2) : StOk u ((k, 0) :: (i, j) :: st) := by
  have hi := h.inr (i, j) List.mem_cons_self
  simp only at hi
  have hd := hu i.toNat (by omega) k (by rw [show ((i.toNat : Nat) : Int) = i by omega]; exact hk)
  refine ⟨fun p hp => ?_, ?_⟩
  · rcases List.mem_cons.1 hp with rfl | hp
    · exact ⟨hd.1, by simp only; omega, by simp only; omega, by simp⟩
    · exact h.inr p hp
  · rw [List.pairwise_cons]
    refine ⟨fun p hp => ?_, h.asc⟩
    rcases List.mem_cons.1 hp with rfl | hp
    · simp only; omega
    · have := h.asc
      rw [List.pairwise_cons] at this
      have := this.1 p hp
      simp only at this ⊢; omega
theorem StOk.pop {u : List Nd} {p : Int × Int} {st : List (Int × Int)} (h : StOk u (p :: st)) : StOk u st :=
  ⟨fun q hq => h.inr q (List.mem_cons_of_mem _ hq), by have := h.asc; rw [List.pairwise_cons] at this; exact this.2⟩
/-- between two rounds of Export -/
structure ExSt (w W : World) (mp : Nat) (u : List Nd) (g : PM) (out : List Nd) (st : List (Int × Int)) (vo vs : Value) : Prop where
  below : Below w.heap.size w W
  mpw : w.heap.size ≤ mp
  outs : k60.R 60 W w.heap.size (fun k => k ≠ mp) vo out
  stk : Stk W w.heap.size vs st
  map : IMap W mp out.length g
  olen : out.length ≤ 20000
  ok : StOk u st
  gval : ∀ x a, g x = some a → 0 ≤ a ∧ a < (out.length : Int)
theorem ExSt.on {w W W' : World} {mp : Nat} {u : List Nd} {g : PM} {out : List Nd} {st : List (Int × Int)} {vo vs : Value} (h : ExSt w W mp u g out st vo vs) (hb : Below W.heap.size W W') : ExSt w W' mp u g out st vo vs :=
  ⟨h.below.trans (hb.mono h.below.size), h.mpw, Kd.R_below h.outs hb, h.stk.move (fun k hk => hb.block k (own_lt h.stk k hk)), h.map.move (hb.block _ h.map.lt), h.olen, h.ok, h.gval⟩
theorem below_drew2 {n : Nat} {a b : World} (h : Below n a b) (q : Nat) : Below n a (b.drewN q) := h.trans ⟨rfl, rfl, rfl, Nat.le_refl _, fun _ _ => rfl⟩
theorem map_set {W : World} {mp n gs o : Nat} {D : DataW Unit} (h : W.ownsMap Tryd.prog 3 (plainElem Tryd.prog 3) mp n D) (hne : mp ≠ gs) (u : Value) : (W.setCell ⟨gs, o, none⟩ u).ownsMap Tryd.prog 3 (plainElem Tryd.prog 3) mp n D := by
  obtain ⟨es, c, h1, h2⟩ := h
  exact ⟨es, c, (Below.heap_setCell W ⟨gs, o, none⟩ u mp hne).trans h1, h2⟩
theorem IMap.ne {W : World} {mp n gs : Nat} {g : PM} {cur : Array Value} {t : TypeId} {f : Nat × Nat} (h : IMap W mp n g) (hc : W.heap[gs]? = some (.cells cur t f)) : mp ≠ gs := by
  rintro rfl
  obtain ⟨D, ⟨es, c, h1, _⟩, _⟩ := h
  rw [hc] at h1; cases h1
theorem ExSt.bump {w W : World} {mp gs cap : Nat} {u : List Nd} {g : PM} {out : List Nd} {i j : Int} {st : List (Int × Int)} {vo : Value} {cur : Array Value} (h : ExSt w W mp u g out ((i, j) :: st) vo (.slice (some ⟨gs, 0, none⟩) (st.length + 1) cap)) (hj : j < ((nth u i).f2.length : Int))
    (hg : w.heap.size ≤ gs) (hc : W.heap[gs]? = some (.cells cur 85 (0, 0))) : ExSt w (W.setCell ⟨gs, st.length * 2 + 1, none⟩ (.int .i64 (j + 1))) mp u g out ((i, j + 1) :: st) vo (.slice (some ⟨gs, 0, none⟩) (st.length + 1) cap) :=
  ⟨h.below.setCell (p := ⟨gs, st.length * 2 + 1, none⟩) hg _, h.mpw, Kd.R_set h.outs hc (by decide) _ _, h.stk.next _, h.map.move (Below.heap_setCell W _ _ mp (h.map.ne hc)), h.olen, h.ok.next hj, h.gval⟩
theorem ExSt.push {w W W1 : World} {mp gs cap : Nat} {u : List Nd} (hu : Down u) {g : PM} {out : List Nd} {i j k : Int} {st : List (Int × Int)} {vo v1 : Value} {cur : Array Value} (h : ExSt w W mp u g out ((i, j) :: st) vo (.slice (some ⟨gs, 0, none⟩) (st.length + 1) cap)) (hk : k ∈ (nth u i).f2)
    (hc : W.heap[gs]? = some (.cells cur 85 (0, 0))) (hown : W1.ownsRow w.heap.size 85 2 v1 (st.length + 1 + 1) (flat ((i, j) :: st).reverse ++ [.int .i64 k, .int .i64 0])) (hb : Below w.heap.size w W1) (hgr : W.grownBy W1 (some gs)) : ExSt w W1 mp u g out ((k, 0) :: (i, j) :: st) vo v1 := by
  refine ⟨hb, h.mpw, ?_, ?_, h.map.move (hgr.block _ h.map.lt (fun e => h.map.ne hc (by injection e))), h.olen, h.ok.push hu hk, h.gval⟩
  · exact Kd.R_mono (Kd.R_grown (Kd.R_types h.outs hc (by decide)) hgr (fun k hk e => hk.2 (by injection e))) (fun k hk => hk.1)
  · unfold Stk
    rw [List.reverse_cons, flat_snoc]
    exact hown
/-- the new node, while its kids are laid -/
structure NdSt (wo W : World) (a b : Int) (l : List Int) (v : Value) : Prop where
  below : Below wo.heap.size wo W
  box : W.heap[wo.heap.size]? = some (.cells #[.int .i64 a, .int .i64 b, v] 60 (0, 0))
  row : (Kd.int .i64).R 3 W (wo.heap.size + 1) (fun k => wo.heap.size < k) v l
theorem NdSt.first (wo : World) (a b : Int) : NdSt wo (wo.alloc (.cells #[.int .i64 a, .int .i64 b, .slice none 0 0] 60)) a b [] (.slice none 0 0) :=
  ⟨(Below.refl _ wo).alloc (Nat.le_refl _) _, heap_alloc_new wo _, Kd.R_nil _ _ _ _ _⟩
theorem NdSt.next {wo W W1 : World} {a b x : Int} {l : List Int} {v v1 : Value} (h : NdSt wo W a b l v) (hR : (Kd.int .i64).R 3 W1 (wo.heap.size + 1) (fun k => wo.heap.size < k) v1 (l ++ [x])) (hb : Below (wo.heap.size + 1) W W1) :
    NdSt wo (W1.setCell ⟨wo.heap.size, 2, none⟩ v1) a b (l ++ [x]) v1 := by
  have hbx := (hb.block wo.heap.size (by omega)).trans h.box
  exact ⟨(h.below.trans (hb.mono (by omega))).setCell (p := ⟨wo.heap.size, 2, none⟩) (Nat.le_refl _) _, blk_set hbx 2 v1, Kd.R_far (p := ⟨wo.heap.size, 2, none⟩) hR (fun k hk => by simp only; omega) _⟩
theorem NdSt.node {w wo W Wm : World} {a b : Int} {l : List Int} {v : Value} {mp : Nat} (h : NdSt wo W a b l v) (hgm : W.grownBy Wm (some mp)) (hmp : mp < wo.heap.size) (hw : w.heap.size ≤ wo.heap.size) : k60.M Wm w.heap.size (fun k => wo.heap.size < k) ⟨a, b, l⟩ [.int .i64 a, .int .i64 b, v] :=
  k60.M_lower (by omega) (k60_mkM Wm (wo.heap.size + 1) _ ⟨a, b, l⟩ (Kd.R_grown h.row hgm (fun k hk e => by injection e with e; omega)))
theorem outs_ne {W : World} {b k : Nat} {ok : Nat → Prop} {vo : Value} {out : List Nd} {cs : Array Value} {t : TypeId} (h : k60.R 60 W b ok vo out) (hk : W.heap[k]? = some (.cells cs t (0, 0))) (ht : 60 ≠ t) : some k ≠ vo.ownBlock := by
  obtain ⟨inner, ho⟩ := Kd.R_own h
  exact own_ne ho hk ht
theorem ExSt.done {w W Wm W1 : World} {mp cap : Nat} {A : Option Addr} {u : List Nd} {g : PM} {out : List Nd} {i j : Int} {st : List (Int × Int)} {vo v1 : Value} {nd : Nd} (h : ExSt w W mp u g out ((i, j) :: st) vo (.slice A (st.length + 1) cap)) (hm : IMap Wm mp (out.length + 1) (upd g i out.length)) (hgm : W.grownBy Wm (some mp))
    (hR : k60.R 60 W1 w.heap.size (fun k => k ≠ mp) v1 (out ++ [nd])) (hb : Below w.heap.size w W1) (hg : Wm.grownBy W1 vo.ownBlock) (hlt : out.length < 20000) : ExSt w W1 mp u (upd g i out.length) (out ++ [nd]) st v1 (.slice A st.length cap) := by
  have hne : some mp ≠ vo.ownBlock := fun e => (h.outs.1 mp e.symm) rfl
  refine ⟨hb, h.mpw, hR, h.stk.pop.move (fun k hk => ?_), ?_, by simp; omega, h.ok.pop, fun x a e => ?_⟩
  · obtain ⟨cs, hc⟩ := own_typed h.stk.pop k hk
    have h1 := own_lt h.stk.pop k hk
    have h2 := hgm.block k h1 (fun e => h.map.ne hc (by injection e with e; exact e.symm))
    exact (hg.block k (Nat.lt_of_lt_of_le h1 hgm.size) (outs_ne h.outs hc (by decide))).trans h2
  · rw [List.length_append, List.length_singleton]
    exact hm.move (hg.block mp (hm.lt) hne)
  · rw [List.length_append, List.length_singleton]
    unfold upd at e
    split at e
    · injection e with e
      omega
    · have := h.gval x a e
      omega
theorem ExSt.box {w W Wm W1 : World} {mp bk : Nat} {u : List Nd} {g : PM} {out : List Nd} {st : List (Int × Int)} {vo vs : Value} {cs : Array Value} (h : ExSt w W mp u g out st vo vs) (hbx : W.heap[bk]? = some (.cells cs 31 (0, 0))) (hgm : W.grownBy Wm (some mp)) (hg : Wm.grownBy W1 vo.ownBlock) : W1.heap[bk]? = some (.cells cs 31 (0, 0)) := by
  have h1 := blk_lt hbx
  have h2 := hgm.block bk h1 (fun e => h.map.ne hbx (by injection e with e; exact e.symm))
  exact (hg.block bk (Nat.lt_of_lt_of_le h1 hgm.size) (outs_ne h.outs hbx (by decide))).trans (h2.trans hbx)
theorem idx_int {D : DataW Unit} {x c y : Int} (h : D.atKey (.int .i64 x) (.lit (.int .i64 0)) = .lit (.int .i64 y)) (hat : D.atKey (.int .i64 x) (.lit (.int .i64 0)) = .lit (.int .i64 c)) : c = y := by
  have e := hat.symm.trans h
  injection e with e
  injection e
theorem mp_succ (g : PM) (l : List Int) (k : Nat) (h : k < l.length) : mp g (l.take (k + 1)) = mp g (l.take k) ++ [(g (l.getD k 0)).getD 0] := by
  unfold mp
  rw [List.take_succ_eq_append_getElem h, List.map_append, List.getD_eq_getElem?_getD, List.getElem?_eq_getElem h]
  rfl
end Go.Proofs.YtopbjginpmdebaaDoor.K
-- graph.Table.Export
namespace Go.Proofs.YtopbjginpmdebaaDoor.K
open Go.RowKit Go.Maps Go.Proofs.YtopbjginpmdebaaDoorW.PrintWords Go.Proofs.YtopbjginpmdebaaDoorW.PrintLast Go.Proofs.YtopbjginpmdebaaDoorW.PrintMore
set_option linter.unusedVariables false
set_option linter.unusedSimpArgs false
/-- how Export ends -/
def ExPost (w : World) (res : Option (List Nd)) (e : Ending) (w' : World) : Prop := Below w.heap.size w w' ∧
  match res with
  | some out => ∃ vo, e = .returned (.tuple #[.agg #[vo], .bool true]) ∧ k60.R 60 w' w.heap.size (fun _ => True) vo out
  | none => e = .returned (.tuple #[.agg #[.slice none 0 0], .bool false])
theorem info85 : (Tryd.prog.info? 85).map (fun i => (i.zero, i.size, i.bytes)) = some (some (.agg #[(.int .i64 0), (.int .i64 0)]), 2, 16) := by kernel_rfl
set_option maxHeartbeats 16000000 in
set_option maxRecDepth 100000 in
theorem export_calls (fuel base t mb : Nat) (ok : Nat → Prop) (u : List Nd) (root : Nat) (w : World) (res : Option (List Nd)) (hT : TabS w base t mb ok u) (hu : Down u) (hr : root < u.length) (hex : exL u 20000 fuel (fun _ => none) [] [((root : Int), 0)] = some res)
    (hul : (u.length + 1) * 40 ≤ 140737488355328) (hkl : ∀ n ∈ u, n.f2.length ≤ 1073741824) :
    Calls Tryd.prog 47 #[.pointer (some ⟨t, 0, none⟩), .int .i64 (root : Nat)] w (ExPost w res) := by
  have hmm := @run_makeMap Tryd.prog
  obtain ⟨vT, ht, hR, hS⟩ := hT
  obtain ⟨AT, cT, rfl, hcT, hCT⟩ := Kd.R_reads hR
  have htl := blk_lt ht
  have HTB := Lib.hid ht
  have HTC := Lib.hid hCT
  have HEX := Lib.hid hex
  have HKL := Lib.hid hkl
  clear ht hR hS hCT hex hkl
  have h0 : ExSt w (((w.alloc (.cells #[.slice none 0 0] 31)).alloc (.map #[] 0)).alloc (.cells #[.int .i64 (root : Nat), .int .i64 0] 85)) (w.heap.size + 1) u (fun _ => none) [] [((root : Int), 0)] (.slice none 0 0) (.slice (some ⟨w.heap.size + 1 + 1, 0, none⟩) 1 1) := by
    have e1 : (w.alloc (.cells #[.slice none 0 0] 31)).heap.size = w.heap.size + 1 := by simp
    have e2 : ((w.alloc (.cells #[.slice none 0 0] 31)).alloc (.map #[] 0)).heap.size = w.heap.size + 1 + 1 := by simp
    refine ⟨(((Below.refl _ w).alloc (Nat.le_refl _) _).alloc (by simp) _).alloc (by simp; omega) _, by omega, Kd.R_nil _ _ _ _ _, ?_, ?_, by simp, ⟨?_, by simp⟩, fun x a h => by cases h⟩
    · have := Stk.first ((w.alloc (.cells #[.slice none 0 0] 31)).alloc (.map #[] 0)) w.heap.size (root : Nat) (by rw [e2]; omega)
      rwa [e2] at this
    · have := IMap.made (w.alloc (.cells #[.slice none 0 0] 31))
      rw [e1] at this
      exact this.move (Below.heap_alloc _ _ _ (by rw [e2]; omega))
    · intro p hp
      rw [List.mem_singleton.1 hp]
      exact ⟨by omega, by simp only; omega, by simp, by simp⟩
  have H0 := Lib.hid h0
  clear h0
  have HBX := Lib.hid (show (((w.alloc (.cells #[.slice none 0 0] 31)).alloc (.map #[] 0)).alloc (.cells #[.int .i64 (root : Nat), .int .i64 0] 85)).heap[w.heap.size]? = some (.cells #[.slice none 0 0] 31 (0, 0)) from
    (Below.heap_alloc _ _ _ (by simp; omega)).trans ((Below.heap_alloc _ _ _ (by simp)).trans (heap_alloc_new w _)))
  go_enter Tryd.func47, Tryd.ntmps47
  go_wp2
  go_loopg [7, 8] fuel (fun q s7 s8 wr => ∃ (vo vs : Value) (g : PM) (out : List Nd) (st : List (Int × Int)), vo = s7 ∧ vs = s8 ∧ Aside0 (exL u 20000 q g out st = some res) ∧ ExSt w wr (w.heap.size + 1) u g out st vo vs ∧ wr.heap[w.heap.size]? = some (.cells #[.slice none 0 0] 31 (0, 0)))
  case atStart => exact ⟨_, _, _, _, _, rfl, rfl, ⟨HEX.out⟩, H0.out, HBX.out⟩
  case round =>
    obtain ⟨vo, vs, g, out, st, rfl, rfl, hx, hst, hbx⟩ := hrel
    obtain ⟨Ao, co, rfl⟩ := Kd.R_slice hst.outs
    cases gk with
    | zero => exact absurd hx.out (by simp [exL])
    | succ q =>
      cases st with
      | nil =>
        have hres : some out = res := by have h := hx.out; simp only [exL] at h; injection h
        have HRS := Lib.hid hres
        have HST := Lib.hid hst
        have HB := Lib.hid hbx
        obtain ⟨As, cs, rfl⟩ : ∃ As cs, vs = Value.slice As 0 cs := by
          rcases hst.stk.2 with ⟨h, _⟩ | ⟨g_, cap, cur, h, _⟩
          · exact ⟨_, _, h⟩
          · exact ⟨_, _, h⟩
        have b0 := blk_cell hbx 0
        have f0 := blk_frozen hbx 0
        clear hx hres hst hbx
        go_wp2
        have hb2 := blk_set HB.out 0 (.slice Ao out.length co)
        have q0 := (blk_cell hb2 0).trans rfl
        refine bodyPost_ret (v := .tuple #[.agg #[.slice Ao out.length co], .bool true]) (by simp [results, Tryd.f47, go_sem, q0]) rfl ⟨HST.out.below.setCell (p := ⟨w.heap.size, 0, none⟩) (Nat.le_refl _) _, ?_⟩
        rw [← HRS.out]
        exact ⟨_, rfl, Kd.R_mono (Kd.R_set HST.out.outs HB.out (by decide) 0 _) (fun _ _ => trivial)⟩
      | cons p st =>
        obtain ⟨i, j⟩ := p
        obtain ⟨gs, cap, cur, rfl, hgB, hcur, hc0, hc1⟩ := hst.stk.top
        obtain ⟨hi0, hi1, hj0, hj1⟩ := hst.ok.inr (i, j) List.mem_cons_self
        simp only at hi0 hi1 hj0 hj1
        have hsl := hst.ok.len
        rw [List.length_cons] at hsl
        obtain ⟨iN, rfl⟩ : ∃ iN : Nat, i = iN := ⟨i.toNat, by omega⟩
        have hT2 := (hst.below.block t htl).trans HTB.out
        have t0 := blk_cell hT2 0
        obtain ⟨ad, A2, c2, rfl, d0, d1, d2, l2, g2⟩ := at_T60 (Kd.C_below HTC.out hst.below) (iN : Int) (by omega) (by omega)
        rw [Int.toNat_natCast] at d0 d1 d2
        rw [rd_nth] at d0 d1 d2 l2 g2
        have hdl := World.block_lt_of_cell? _ _ d0
        obtain ⟨n, hn⟩ : ∃ n, n = nth u (iN : Int) := ⟨_, rfl⟩
        rw [← hn] at d0 d1 d2 l2 g2 hj1
        have hnm : n ∈ u := by rw [hn]; exact nth_mem (by omega) hi1
        have hnk := HKL.out n hnm
        obtain ⟨L, hL⟩ : ∃ L, L = st.length := ⟨_, rfl⟩
        rw [← hL] at hc0 hc1 hsl
        have k0 := (blk_cell hcur (L * 2)).trans hc0
        have k1 := (blk_cell hcur (L * 2 + 1)).trans hc1
        have f1 := blk_frozen hcur (L * 2 + 1)
        have hgl := blk_lt hcur
        have htl2 := blk_lt hT2
        have hwB := hst.below.size
        have HN := Lib.hid hn
        have HL := Lib.hid hL
        have HX := Lib.hid hx.out
        have HST := Lib.hid hst
        have HBX2 := Lib.hid hbx
        have HCUR := Lib.hid hcur
        rw [← hL]
        clear hn hL hx hst hbx hcur hT2 hc0 hc1 hnm
        have hLb : L < 4000000000000 := by omega
        obtain ⟨jN, rfl⟩ : ∃ jN : Nat, j = jN := ⟨j.toNat, by omega⟩
        have hidx : (iN : Int) < (u.length : Int) := hi1
        go_wp2
        go_region
        have hb2 : Below wr.heap.size wr (wr.alloc (.cells #[.int .i64 n.f0, .int .i64 n.f1, .slice A2 n.f2.length c2] 60)).drew := ((Below.refl _ wr).alloc (Nat.le_refl _) _).drew
        have hbn : (wr.alloc (.cells #[.int .i64 n.f0, .int .i64 n.f1, .slice A2 n.f2.length c2] 60)).drew.heap[wr.heap.size]? = some (.cells #[.int .i64 n.f0, .int .i64 n.f1, .slice A2 n.f2.length c2] 60 (0, 0)) := heap_alloc_new wr _
        obtain ⟨w2, hw2⟩ : ∃ w2, w2 = (wr.alloc (.cells #[.int .i64 n.f0, .int .i64 n.f1, .slice A2 n.f2.length c2] 60)).drew := ⟨_, rfl⟩
        rw [← hw2] at hb2 hbn ⊢
        clear hw2
        have hst2 := HST.out.on hb2
        have hcur2 := (hb2.block _ hgl).trans HCUR.out
        have hbx2 := (hb2.block _ (blk_lt HBX2.out)).trans HBX2.out
        have g22 := Kd.C_below g2 hb2
        replace k0 := pw_cell_below hb2 k0
        replace k1 := pw_cell_below hb2 k1
        have f1 := blk_frozen hcur2 (L * 2 + 1)
        have n0 := (blk_cell hbn 0).trans rfl
        have n1 := (blk_cell hbn 1).trans rfl
        have n2 := (blk_cell hbn 2).trans rfl
        have HST2 := Lib.hid hst2
        have HCUR2 := Lib.hid hcur2
        have HBX3 := Lib.hid hbx2
        have HBN := Lib.hid hbn
        have hsz2 := hb2.size
        have hbnl := blk_lt hbn
        clear hst2 hcur2 hbx2 hbn hb2 HST HCUR HBX2 d0 d1 d2 t0 g2 hdl
        by_cases hjl : jN < n.f2.length
        · obtain ⟨ad2, rfl, hkc⟩ := reads_at g22 (by intro e; rw [e] at hjl; simp at hjl)
          have e0 := hkc jN hjl
          obtain ⟨kk, hkk⟩ : ∃ kk, kk = n.f2.getD jN 0 := ⟨_, rfl⟩
          rw [← hkk] at e0
          have HKK := Lib.hid hkk
          have hjb : jN < 1073741824 := by omega
          have hji : (jN : Int) < (n.f2.length : Int) := by omega
          clear hkc hkk g22
          obtain ⟨D, hD, hDg⟩ := HST2.out.map
          have hmg := HST2.out.map.ne HCUR2.out
          have HD := Lib.hid hD
          have HNE := Lib.hid (show w.heap.size ≠ gs from by
            intro e
            have h := HBX3.out
            rw [e, HCUR2.out] at h
            cases h)
          have HBUMP := Lib.hid (show ∀ q : Nat, ExSt w ((w2.drewN q).setCell ⟨gs, st.length * 2 + 1, none⟩ (.int .i64 ((jN : Int) + 1))) (w.heap.size + 1) u g out (((iN : Int), (jN : Int) + 1) :: st) (.slice Ao out.length co) (.slice (some ⟨gs, 0, none⟩) (st.length + 1) cap) from fun q =>
            (HST2.out.on (below_drew2 (Below.refl _ w2) q)).bump (by rw [← HN.out]; exact hji) hgB HCUR2.out)
          have hkI : I64 kk := by
            have hd := hu iN (by omega) kk (by rw [← HN.out, HKK.out, List.getD_eq_getElem?_getD, List.getElem?_eq_getElem hjl]; exact List.getElem_mem hjl)
            exact ⟨by omega, by omega⟩
          have hkey := keyOf_int_mk (P := Tryd.prog) (k := 3) Tryd.underlying3 (a := kk) (WalkArith.wf_i64 (by have := hkI.1; have := hkI.2; omega))
          by_cases hg : (g kk).isSome
          · have hhas : Maps.has D (.int .i64 kk) = true := by rw [(hDg kk).1]; exact hg
            have HG := Lib.hid hg
            clear hDg hD hg
            go_wp2
            go_quiet (fail)
            go_wp2
            go_quiet (fail)
            go_wp2_with (at_lookup; refine wpList_lookup_own_ok_int _ rfl _ _ 73 rfl 3 3 .i64 (int_keyed Tryd.underlying3) Tryd.underlying73 Tryd.underlying3 (Tryd.zeroValue3 _) (w.heap.size + 1) out.length D rfl (map_set HD.out hmg _) _ _ rfl hkey ?_; intro c hat hwc; clear hat hwc)
            go_roundg q
            case measure => omega
            case rel =>
              refine ⟨_, _, g, out, ((iN : Int), (jN : Int) + 1) :: st, rfl, rfl, ⟨?_⟩, ?_, ?_⟩
              · have h := HX.out
                simp only [exL] at h
                rw [← HN.out, if_pos hji, Int.toNat_natCast, ← HKK.out, if_pos HG.out] at h
                exact h
              · rw [HL.out]
                exact HBUMP.out _
              · exact (Below.heap_setCell _ _ _ _ HNE.out).trans HBX3.out
          · have hhas : Maps.has D (.int .i64 kk) = false := by rw [(hDg kk).1]; simpa using hg
            have HG := Lib.hid hg
            clear hDg hD hg
            go_wp2
            go_quiet (fail)
            go_wp2
            go_quiet (fail)
            go_wp2_with (first
              | (at_lookup; refine wpList_lookup_own_ok_int _ rfl _ _ 73 rfl 3 3 .i64 (int_keyed Tryd.underlying3) Tryd.underlying73 Tryd.underlying3 (Tryd.zeroValue3 _) (w.heap.size + 1) out.length D rfl (map_set HD.out hmg _) _ _ rfl hkey ?_; intro c hat hwc; clear hat hwc)
              | (at_builtin; refine print_append_cells (w0 := w) (W := (w2.drewN _).setCell ⟨gs, L * 2 + 1, none⟩ (.int .i64 ((jN : Int) + 1))) w.heap.size rfl (.tmp 70) (.tmp 73) 86 85 _ 2 16 rfl Tryd.underlying86 info85 rfl (by decide) (by decide) (.slice (some ⟨gs, 0, none⟩) (L + 1) cap) (L + 1) (flat (((iN : Int), (jN : Int) + 1) :: st).reverse) [.int .i64 kk, .int .i64 0] rfl (by refine (show _ = Value.slice (some ⟨w2.heap.size, 0, none⟩) 1 1 from rfl).trans ?_; simp [World.drewN]) rfl (by simp [Value.oneCell']) (by rw [HL.out]; exact (HBUMP.out _).stk) (by rw [HL.out]; exact (HBUMP.out _).below) (by simp; omega) (by omega) ?_; intro v1 w1 hown1 hb1 hg1 _; refine Hid.out ?_))
            refine Lib.hid ?_
            have HOWN1 := Lib.hid hown1
            have HB1 := Lib.hid hb1
            have HG1 := Lib.hid hg1
            clear hown1 hb1 hg1
            go_wp2
            go_roundg q
            case measure => omega
            case rel =>
              refine ⟨_, _, g, out, (kk, 0) :: ((iN : Int), (jN : Int) + 1) :: st, rfl, rfl, ⟨?_⟩, ?_, ?_⟩
              · have h := HX.out
                simp only [exL] at h
                rw [← HN.out, if_pos hji, Int.toNat_natCast, ← HKK.out, if_neg HG.out] at h
                exact h
              · have hk : kk ∈ (nth u (iN : Int)).f2 := by rw [← HN.out, HKK.out, List.getD_eq_getElem?_getD, List.getElem?_eq_getElem hjl]; exact List.getElem_mem hjl
                have hown := HOWN1.out
                rw [HL.out] at hown
                have hg1 := HG1.out
                rw [HL.out] at hg1
                exact ExSt.push hu (HBUMP.out _) hk (blk_set HCUR2.out _ _) hown HB1.out hg1
              · exact (HG1.out.block _ (by simp [World.drewN]; omega) (fun e => HNE.out (by injection e))).trans ((Below.heap_setCell _ _ _ _ HNE.out).trans HBX3.out)
        · have hje : jN = n.f2.length := by omega
          have hol := HST2.out.olen
          have hnl : ¬ ((jN : Int) < (n.f2.length : Int)) := by omega
          have hcap : L + 1 ≤ cap := by rw [HL.out]; exact own_le HST2.out.stk
          have b0 := blk_cell HBX3.out 0
          have fb0 := blk_frozen HBX3.out 0
          by_cases hfull : out.length = 20000
          · have hres : res = none := by
              have h := HX.out
              simp only [exL] at h
              rw [← HN.out, if_neg hnl, if_pos hfull] at h
              injection h with h
              exact h.symm
            subst hres
            go_wp2
            go_quiet (fail)
            obtain ⟨w3, hw3⟩ : ∃ w3, w3 = w2.drewN nq := ⟨_, rfl⟩
            rw [← hw3]
            have hb3 : Below w2.heap.size w2 w3 := by rw [hw3]; exact below_drew2 (Below.refl _ w2) nq
            have hs3 : w2.heap.size ≤ w3.heap.size := hb3.size
            have hbn3 : wr.heap.size < w3.heap.size := by omega
            have hgs3 : gs < w3.heap.size := by omega
            clear hw3
            replace k0 := pw_cell_below hb3 k0
            replace k1 := pw_cell_below hb3 k1
            replace n0 := pw_cell_below hb3 (n0.trans rfl)
            replace n1 := pw_cell_below hb3 (n1.trans rfl)
            replace n2 := pw_cell_below hb3 (n2.trans rfl)
            have HST3 := Lib.hid (HST2.out.on hb3)
            have HCUR3 := Lib.hid ((hb3.block _ (blk_lt HCUR2.out)).trans HCUR2.out)
            have HBX4 := Lib.hid ((hb3.block _ (blk_lt HBX3.out)).trans HBX3.out)
            replace b0 := pw_cell_below hb3 b0
            have fb0 := blk_frozen HBX4.out 0
            clear f1 hb3 g22
            go_wp2
            have hb2 := blk_set HBX4.out 0 (.slice none 0 0)
            have q0 := (blk_cell hb2 0).trans rfl
            refine bodyPost_ret (v := .tuple #[.agg #[.slice none 0 0], .bool false]) (by simp [results, Tryd.f47, go_sem, q0]) rfl ⟨HST3.out.below.setCell (p := ⟨w.heap.size, 0, none⟩) (Nat.le_refl _) _, rfl⟩
          · have hfb : ((out.length : Int) == 20000) = false := by simp; omega
            go_wp2
            go_quiet (fail)
            obtain ⟨w3, hw3⟩ : ∃ w3, w3 = w2.drewN nq := ⟨_, rfl⟩
            rw [← hw3]
            have hb3 : Below w2.heap.size w2 w3 := by rw [hw3]; exact below_drew2 (Below.refl _ w2) nq
            have hs3 : w2.heap.size ≤ w3.heap.size := hb3.size
            have hbn3 : wr.heap.size < w3.heap.size := by omega
            have hgs3 : gs < w3.heap.size := by omega
            clear hw3
            replace k0 := pw_cell_below hb3 k0
            replace k1 := pw_cell_below hb3 k1
            replace n0 := pw_cell_below hb3 (n0.trans rfl)
            replace n1 := pw_cell_below hb3 (n1.trans rfl)
            replace n2 := pw_cell_below hb3 (n2.trans rfl)
            have HST3 := Lib.hid (HST2.out.on hb3)
            have HCUR3 := Lib.hid ((hb3.block _ (blk_lt HCUR2.out)).trans HCUR2.out)
            have HBX4 := Lib.hid ((hb3.block _ (blk_lt HBX3.out)).trans HBX3.out)
            have HG22 := Lib.hid (Kd.C_below g22 hb3)
            have HFULL := Lib.hid hfull
            clear f1 fb0 b0 hb3 g22
            have hwl : w.heap.size < w3.heap.size := by have := blk_lt HBX4.out; exact this
            go_wp2
            obtain ⟨wq, rfl⟩ : ∃ wq : World, wq = wr := ⟨_, rfl⟩
            go_loopw [92] (fun i W => ∃ (k : Nat) (v : Value), i = .int .i64 k ∧ k ≤ n.f2.length ∧ NdSt w3 W n.f0 n.f1 (mp g (n.f2.take k)) v) (fun i _ => n.f2.length - (intOf i).toNat)
            case atStart => exact ⟨0, _, rfl, Nat.zero_le _, NdSt.first w3 n.f0 n.f1⟩
            case round =>
              obtain ⟨k, v, rfl, hk, hnd⟩ := hrel
              obtain ⟨l, hl⟩ : ∃ l, l = mp g (n.f2.take k) := ⟨_, rfl⟩
              rw [← hl] at hnd
              have hll : l.length = k := by rw [hl]; simp [mp]; omega
              obtain ⟨Av, cv, rfl⟩ := Kd.R_slice hnd.row
              have hbW := hnd.below
              have hsW := hbW.size
              have hmW := blk_lt hnd.box
              have HST4 := Lib.hid (HST3.out.on hbW)
              have bm2 := (blk_cell hnd.box 2).trans rfl
              have HND := Lib.hid hnd
              have HBW := Lib.hid hbW
              have HLL := Lib.hid hl
              have HLK := Lib.hid hll
              have hlb : l.length ≤ 1073741824 := by omega
              obtain ⟨D, hD, hDg⟩ := HST4.out.map
              have HD := Lib.hid hD
              have HDG := Lib.hid hDg
              have hkb : k ≤ 1073741824 := by omega
              clear hl hll hnd hbW hD hDg
              by_cases hkl : k < n.f2.length
              · obtain ⟨ad2, rfl, hkc⟩ := reads_at (Kd.C_below HG22.out HBW.out) (by intro e; rw [e] at hkl; simp at hkl)
                have e0 := hkc k hkl
                obtain ⟨kk, hkk⟩ : ∃ kk, kk = n.f2.getD k 0 := ⟨_, rfl⟩
                rw [← hkk] at e0
                have HKK := Lib.hid hkk
                have hki : (k : Int) < (n.f2.length : Int) := by omega
                have hkI : I64 kk := by
                  have hd := hu iN (by omega) kk (by rw [← HN.out, HKK.out, List.getD_eq_getElem?_getD, List.getElem?_eq_getElem hkl]; exact List.getElem_mem hkl)
                  exact ⟨by omega, by omega⟩
                have hkey := keyOf_int_mk (P := Tryd.prog) (k := 3) Tryd.underlying3 (a := kk) (WalkArith.wf_i64 (by have := hkI.1; have := hkI.2; omega))
                clear hkk hkc
                go_wp2_with (first
                  | (at_lookup; refine wpList_lookup_own_int wr rfl _ _ 73 rfl 3 3 .i64 (int_keyed Tryd.underlying3) Tryd.underlying73 Tryd.underlying3 (Tryd.zeroValue3 _) (w.heap.size + 1) out.length D rfl HD.out _ _ rfl hkey ?_; intro c hat hwc; have HC := Lib.hid (idx_int (HDG.out kk).2 hat); clear hat hwc)
                  | (at_builtin; refine Kd.R_append (Kd.int .i64) (w0 := wr) (W := wr) (w3.heap.size + 1) rfl (.tmp 97) (.tmp 101) 22 3 (.int .i64 0) 8 rfl Tryd.underlying22 info3 rfl (by decide) (by decide) (.slice Av l.length cv) l _ [.int .i64 _] (fun k => w3.heap.size < k) (fun _ => False) rfl rfl rfl (fun _ h => h.elim) (fun k hk => by omega) HND.out.row (Below.refl _ _) (by omega) (by omega) ?_; intro v1 w1 hR1 hB1 hg1 _; obtain ⟨A1, c1, rfl⟩ := Kd.R_slice hR1; rw [List.length_append, List.length_singleton] at hR1; have hbx1 := (hB1.block w3.heap.size (by omega)).trans HND.out.box; have q1 := blk_cell hbx1 2; have q2 := blk_frozen hbx1 2; have HR1 := Lib.hid hR1; have HB1 := Lib.hid hB1; clear hR1 hB1 hg1 hbx1; refine Hid.out ?_))
                refine Lib.hid ?_
                go_wp2
                go_roundw
                case rel =>
                  refine ⟨k + 1, .slice A1 (l.length + 1) c1, by go_num, hkl, ?_⟩
                  rw [mp_succ _ _ _ hkl, ← HLL.out, ← HKK.out, ← HC.out]
                  exact HND.out.next HR1.out HB1.out
                case measure => simp [intOf]; omega
              · have hke : k = n.f2.length := by omega
                have HKE := Lib.hid hke
                have hki : ¬ ((k : Int) < (n.f2.length : Int)) := by omega
                clear hke
                have hkeyi := keyOf_int_mk (P := Tryd.prog) (k := 3) Tryd.underlying3 (a := (iN : Int)) (WalkArith.wf_i64 (by omega))
                replace k0 := pw_cell_below HBW.out k0
                have holt : out.length < 20000 := by have := HFULL.out; omega
                have hwfl : (Lit.int .i64 (out.length : Int)).wf = true := WalkArith.wf_i64 (by omega)
                clear bm2
                go_wp2_with (first
                  | (at_mapUpdate; refine wpList_mapUpdate_own wr rfl _ _ _ 73 rfl 3 3 (int_keyed Tryd.underlying3) Tryd.underlying73 _ (w.heap.size + 1) out.length D rfl HD.out (by unfold maxLen; omega) _ _ _ rfl rfl hkeyi _ [] (plainElem_int Tryd.underlying3 hwfl) ?_; intro wm hownm hgm; refine Hid.out ?_))
                refine Lib.hid ?_
                have hbxm := (hgm.block w3.heap.size hmW (by intro e; injection e with e; omega)).trans HND.out.box
                have m0 := blk_cell hbxm 0
                have m1 := blk_cell hbxm 1
                have m2 := blk_cell hbxm 2
                have HOM := Lib.hid hownm
                have HGM := Lib.hid hgm
                have hszm := hgm.size
                have HM := Lib.hid (HND.out.node (w := w) (mp := w.heap.size + 1) hgm (by omega) (by omega))
                have HVO := Lib.hid (show ∀ j, w3.heap.size < j → j ≠ w.heap.size + 1 ∧ some j ≠ (Value.slice Ao out.length co).ownBlock from fun j hj => ⟨by omega, fun e => by have := Kd.R_lt HST3.out.outs j e.symm; omega⟩)
                have HBM := Lib.hid (show Below w.heap.size w wm from HST4.out.below.grown hgm (by omega) (fun j e => by injection e with e; omega))
                have HRM := Lib.hid (Kd.R_grown HST4.out.outs hgm (fun j hj e => hj (by injection e)))
                clear hbxm hownm hgm
                go_wp2_with (first
                  | (at_builtin; refine Hid.out ?_))
                refine Lib.hid ?_
                refine Kd.R_append k60 (w0 := w) (W := wm) w.heap.size rfl (.tmp 112) (.tmp 114) 24 60 (.agg #[(.int .i64 0), (.int .i64 0), (.slice none 0 0)]) 40 rfl Tryd.underlying24 info60 rfl (by decide) (by decide) (.slice Ao out.length co) out ⟨n.f0, n.f1, l⟩ [.int .i64 n.f0, .int .i64 n.f1, .slice Av l.length cv] (fun j => j ≠ w.heap.size + 1) (fun j => w3.heap.size < j) rfl rfl HM.out HVO.out (fun j hj => by omega) HRM.out HBM.out (by omega) (by omega) ?_
                intro v5 w5 hR5 hB5 hg5 _
                obtain ⟨A5, c5, rfl⟩ := Kd.R_slice hR5
                rw [List.length_append, List.length_singleton] at hR5
                have HR5 := Lib.hid hR5
                have HB5 := Lib.hid hB5
                have HG5 := Lib.hid hg5
                clear hR5 hB5 hg5
                go_wp2
                go_roundg q
                case measure => omega
                case rel =>
                  refine ⟨_, _, upd g (iN : Int) out.length, out ++ [⟨n.f0, n.f1, l⟩], st, rfl, rfl, ⟨?_⟩, ?_, ?_⟩
                  · have h := HX.out
                    simp only [exL, fin] at h
                    rw [← HN.out, if_neg (show ¬ ((jN : Int) < (n.f2.length : Int)) by omega), if_neg HFULL.out] at h
                    rw [HLL.out, HKE.out, List.take_length]
                    exact h
                  · rw [HL.out]
                    exact HST4.out.done (IMap.put HDG.out (World.ownsMap.isMap HD.out) HOM.out) HGM.out HR5.out HB5.out HG5.out holt
                  · exact HST4.out.box ((HBW.out.block _ (blk_lt HBX4.out)).trans HBX4.out) HGM.out HG5.out
end Go.Proofs.YtopbjginpmdebaaDoor.K
-- graph.Shapes
namespace Go.Proofs.YtopbjginpmdebaaDoor.K
open Go.RowKit Go.Maps Go.Proofs.YtopbjginpmdebaaDoorW.PrintWords Go.Proofs.YtopbjginpmdebaaDoorW.PrintLast Go.Proofs.YtopbjginpmdebaaDoorW.PrintMore
set_option linter.unusedVariables false
set_option linter.unusedSimpArgs false
/-- what Shapes notes -/
def shp : PM → List Nd → Option PM
  | g, [] => some g
  | g, n :: l => if n.f0 < 0 then shp g l else
      if (g n.f0).isSome = true ∧ (g n.f0).getD 0 ≠ (n.f2.length : Int) then none else shp (upd g n.f0 (n.f2.length : Int)) l
theorem shp_snoc : ∀ (l : List Nd) (g : PM) (n : Nd), shp g (l ++ [n]) = (shp g l).bind fun g' => shp g' [n]
  | [], g, n => rfl
  | a :: l, g, n => by
    simp only [List.cons_append, shp]
    split
    · exact shp_snoc l g n
    · split
      · rfl
      · exact shp_snoc l _ n
theorem shp_none : ∀ (l r : List Nd) (g : PM), shp g l = none → shp g (l ++ r) = none
  | [], r, g, h => by cases h
  | a :: l, r, g, h => by
    simp only [List.cons_append, shp] at h ⊢
    split
    · rename_i h1; rw [if_pos h1] at h; exact shp_none l r g h
    · rename_i h1; rw [if_neg h1] at h
      split
      · rfl
      · rename_i h2; rw [if_neg h2] at h; exact shp_none l r _ h
theorem shp_take {l : List Nd} {g : PM} {k : Nat} (h : shp g (l.take k) = none) : shp g l = none := by
  have := shp_none (l.take k) (l.drop k) g h
  rwa [List.take_append_drop] at this
/-- between two rounds of Shapes -/
structure ShSt (w W : World) (mp m0 : Nat) (g : PM) (nodes : List Nd) (k : Nat) (gk : PM) (m : Nat) : Prop where
  shp : shp g (nodes.take k) = some gk
  map : IMap W mp m gk
  room : m ≤ m0 + k
  grown : w.grownBy W (some mp)
theorem grown_below {base mp : Nat} {w W : World} (h : w.grownBy W (some mp)) (hb : base ≤ w.heap.size) (hm : base ≤ mp) : Below base w W := (Below.refl base w).grown h hb (fun j e => by injection e with e; omega)
theorem grown_of {w W : World} (hb : Below w.heap.size w W) (mp : Nat) : w.grownBy W (some mp) := ⟨hb.os, hb.tape, hb.output, hb.size, fun j hj _ => hb.block j hj⟩
theorem ShSt.skip {w W W1 : World} {mp m0 k m : Nat} {g gk : PM} {nodes : List Nd} (h : ShSt w W mp m0 g nodes k gk m) (hk : k < nodes.length) (hn : (nth nodes (k : Int)).f0 < 0) (hb : Below W.heap.size W W1) : ShSt w W1 mp m0 g nodes (k + 1) gk m :=
  ⟨by rw [take_snoc' hk, shp_snoc, h.shp]; simp only [Option.bind, Go.Proofs.YtopbjginpmdebaaDoor.K.shp]; rw [if_pos hn], h.map.move (hb.block _ h.map.lt), by have := h.room; omega, World.grownBy.trans h.grown ⟨hb.os, hb.tape, hb.output, hb.size, fun j hj _ => hb.block j hj⟩⟩
theorem ShSt.put {w W W1 W2 : World} {mp m0 k m : Nat} {g gk : PM} {nodes : List Nd} (h : ShSt w W mp m0 g nodes k gk m) (hk : k < nodes.length) (hn : ¬ (nth nodes (k : Int)).f0 < 0) (hg : ¬ ((gk (nth nodes (k : Int)).f0).isSome = true ∧ (gk (nth nodes (k : Int)).f0).getD 0 ≠ ((nth nodes (k : Int)).f2.length : Int))) (hb : Below W.heap.size W W1)
    (hm : IMap W2 mp (m + 1) (upd gk (nth nodes (k : Int)).f0 ((nth nodes (k : Int)).f2.length : Int))) (h2 : W1.grownBy W2 (some mp)) : ShSt w W2 mp m0 g nodes (k + 1) (upd gk (nth nodes (k : Int)).f0 ((nth nodes (k : Int)).f2.length : Int)) (m + 1) :=
  ⟨by rw [take_snoc' hk, shp_snoc, h.shp]; simp only [Option.bind, Go.Proofs.YtopbjginpmdebaaDoor.K.shp]; rw [if_neg hn, if_neg hg], hm, by have := h.room; omega, World.grownBy.trans (World.grownBy.trans h.grown ⟨hb.os, hb.tape, hb.output, hb.size, fun j hj _ => hb.block j hj⟩) h2⟩
theorem ShSt.bad {w W : World} {mp m0 k m : Nat} {g gk : PM} {nodes : List Nd} (h : ShSt w W mp m0 g nodes k gk m) (hk : k < nodes.length) (hn : ¬ (nth nodes (k : Int)).f0 < 0) (hg : (gk (nth nodes (k : Int)).f0).isSome = true ∧ (gk (nth nodes (k : Int)).f0).getD 0 ≠ ((nth nodes (k : Int)).f2.length : Int)) : Go.Proofs.YtopbjginpmdebaaDoor.K.shp g nodes = none := by
  refine shp_take (k := k + 1) ?_
  rw [take_snoc' hk, shp_snoc, h.shp]
  simp only [Option.bind, Go.Proofs.YtopbjginpmdebaaDoor.K.shp]
  rw [if_neg hn, if_pos hg]
set_option maxHeartbeats 16000000 in
set_option maxRecDepth 100000 in
theorem shapes_calls (base mp m0 : Nat) (g : PM) (nodes : List Nd) (A : Option Addr) (c : Nat) (w : World) (hbs : base ≤ w.heap.size) (hmp : base ≤ mp) (hM : IMap w mp m0 g)
    (hC : ∀ W, Below base w W → k60.C W A nodes.length nodes) (hc : nodes.length ≤ c) (hI : ∀ n ∈ nodes, I64 n.f0 ∧ I64 n.f1 ∧ n.f2.length ≤ 1073741824) (hroom : m0 + nodes.length < 4000000000000) :
    Calls Tryd.prog 60 #[.slice A nodes.length c, .map (some mp)] w fun e w' => w.grownBy w' (some mp) ∧ e = .returned (.bool (shp g nodes).isSome) ∧ ∀ g', shp g nodes = some g' → ∃ m, IMap w' mp m g' ∧ m ≤ m0 + nodes.length := by
  obtain ⟨N, hN⟩ : ∃ N, N = nodes.length := ⟨_, rfl⟩
  have HN := Lib.hid hN
  rw [← hN]
  rw [← hN] at hroom hc
  clear hN
  have hml := hM.lt
  have HM := Lib.hid hM
  clear hM
  go_enter Tryd.func60, Tryd.ntmps60
  go_wp2
  go_loopw [11] (fun i wr => ∃ (k : Nat) (gk : PM) (m : Nat), i = .int .i64 k ∧ k ≤ N ∧ ShSt w wr mp m0 g nodes k gk m) (fun i _ => N - (intOf i).toNat)
  case atStart => exact ⟨0, g, m0, rfl, Nat.zero_le _, ⟨rfl, HM.out, Nat.le_refl _, World.grownBy.refl _ _⟩⟩
  case round =>
    obtain ⟨k, gk, m, rfl, hk, hst⟩ := hrel
    by_cases hlt : k < N
    · have hkn : k < nodes.length := by have := HN.out; omega
      have hnm : nth nodes k ∈ nodes := by rw [nth_lt hkn]; exact List.getElem_mem hkn
      have hB := grown_below hst.grown hbs hmp
      obtain ⟨ad, A2, c2, rfl, d0, d1, d2, l2, g2⟩ := at_T60 (hC wr hB) (k : Int) (by omega) (by omega)
      rw [Int.toNat_natCast] at d0 d1 d2
      rw [rd_nth] at d0 d1 d2 l2 g2
      obtain ⟨n, hn⟩ : ∃ n, n = nth nodes (k : Int) := ⟨_, rfl⟩
      rw [← hn] at d0 d1 d2 l2 g2 hnm
      obtain ⟨hI0, hI1, hI2⟩ := hI n hnm
      have hkb : k < 4000000000000 := by omega
      have hb1 : Below wr.heap.size wr (wr.alloc (.cells #[.int .i64 n.f0, .int .i64 n.f1, .slice A2 n.f2.length c2] 60)) := (Below.refl _ wr).alloc (Nat.le_refl _) _
      have hml2 := hst.map.lt
      obtain ⟨D, hD, hDg⟩ := hst.map.move (hb1.block _ hst.map.lt)
      have HD := Lib.hid hD
      have HDG := Lib.hid hDg
      have HST := Lib.hid hst
      have HB1 := Lib.hid hb1
      have HNN := Lib.hid hn
      have hmr := hst.room
      clear hst hn hnm hD hDg hb1 g2
      by_cases hneg : n.f0 < 0
      · go_wp2
        go_roundw
        case rel => exact ⟨k + 1, gk, m, by go_num, hlt, HST.out.skip hkn (by rw [← HNN.out]; omega) HB1.out⟩
        case measure => simp [intOf]; omega
      · have hkey := keyOf_int_mk (P := Tryd.prog) (k := 3) Tryd.underlying3 (a := n.f0) (WalkArith.wf_i64 (by have := hI0.1; have := hI0.2; omega))
        have hwfl : (Lit.int .i64 (n.f2.length : Int)).wf = true := WalkArith.wf_i64 (by omega)
        by_cases hg : (gk n.f0).isSome = true
        · have hhas : Maps.has D (.int .i64 n.f0) = true := by rw [(HDG.out _).1]; exact hg
          by_cases hv : (gk n.f0).getD 0 = (n.f2.length : Int)
          · go_wp2_with (first
              | (at_lookup; refine wpList_lookup_own_ok_int _ rfl _ _ 73 rfl 3 3 .i64 (int_keyed Tryd.underlying3) Tryd.underlying73 Tryd.underlying3 (Tryd.zeroValue3 _) mp m D rfl HD.out _ _ rfl hkey ?_; intro c hat hwc; obtain rfl := (idx_int (HDG.out n.f0).2 hat).trans hv; clear hat hwc)
              | (at_mapUpdate; refine wpList_mapUpdate_own _ rfl _ _ _ 73 rfl 3 3 (int_keyed Tryd.underlying3) Tryd.underlying73 _ mp m D rfl HD.out (by unfold maxLen; omega) _ _ _ rfl rfl hkey _ [] (plainElem_int Tryd.underlying3 hwfl) ?_; intro wm hownm hgm; have HOM := Lib.hid hownm; have HGM := Lib.hid hgm; have hwm := hgm.size; clear hownm hgm; refine Hid.out ?_))
            refine Lib.hid ?_
            go_wp2
            go_roundw
            case rel =>
              refine ⟨k + 1, upd gk n.f0 (n.f2.length : Int), m + 1, by go_num, hlt, ?_⟩
              have hn := HNN.out
              rw [hn]
              exact HST.out.put hkn (by rw [← hn]; omega) (by rw [← hn]; exact fun h => h.2 hv) HB1.out (by rw [← hn]; exact IMap.put HDG.out (World.ownsMap.isMap HD.out) HOM.out) HGM.out
            case measure => simp [intOf]; omega
          · go_wp2_with (first
              | (at_lookup; refine wpList_lookup_own_ok_int _ rfl _ _ 73 rfl 3 3 .i64 (int_keyed Tryd.underlying3) Tryd.underlying73 Tryd.underlying3 (Tryd.zeroValue3 _) mp m D rfl HD.out _ _ rfl hkey ?_; intro c hat hwc; obtain rfl := idx_int (HDG.out n.f0).2 hat; clear hat hwc))
            go_ret
            have hb := HST.out.bad hkn (by rw [← HNN.out]; omega) (by rw [← HNN.out]; exact ⟨hg, hv⟩)
            exact ⟨World.grownBy.trans HST.out.grown (grown_of HB1.out mp), by rw [hb]; rfl, fun g' e => by rw [hb] at e; cases e⟩
        · have hhas : Maps.has D (.int .i64 n.f0) = false := by rw [(HDG.out _).1]; simpa using hg
          go_wp2_with (first
              | (at_lookup; refine wpList_lookup_own_ok_int _ rfl _ _ 73 rfl 3 3 .i64 (int_keyed Tryd.underlying3) Tryd.underlying73 Tryd.underlying3 (Tryd.zeroValue3 _) mp m D rfl HD.out _ _ rfl hkey ?_; intro c hat hwc; clear hat hwc)
              | (at_mapUpdate; refine wpList_mapUpdate_own _ rfl _ _ _ 73 rfl 3 3 (int_keyed Tryd.underlying3) Tryd.underlying73 _ mp m D rfl HD.out (by unfold maxLen; omega) _ _ _ rfl rfl hkey _ [] (plainElem_int Tryd.underlying3 hwfl) ?_; intro wm hownm hgm; have HOM := Lib.hid hownm; have HGM := Lib.hid hgm; have hwm := hgm.size; clear hownm hgm; refine Hid.out ?_))
          refine Lib.hid ?_
          go_wp2
          go_roundw
          case rel =>
            refine ⟨k + 1, upd gk n.f0 (n.f2.length : Int), m + 1, by go_num, hlt, ?_⟩
            have hn := HNN.out
            rw [hn]
            exact HST.out.put hkn (by rw [← hn]; omega) (by rw [← hn]; exact fun h => hg h.1) HB1.out (by rw [← hn]; exact IMap.put HDG.out (World.ownsMap.isMap HD.out) HOM.out) HGM.out
          case measure => simp [intOf]; omega
    · have hke : k = N := by omega
      have HST := Lib.hid hst
      clear hst
      go_wp2
      go_ret
      have hs := HST.out.shp
      rw [hke, HN.out, List.take_length] at hs
      exact ⟨HST.out.grown, by rw [hs]; rfl, fun g' e => by rw [hs] at e; injection e with e; subst e; exact ⟨m, HST.out.map, by have := HST.out.room; omega⟩⟩
end Go.Proofs.YtopbjginpmdebaaDoor.K
-- what leaf, branch, isGraph say
namespace Go.Proofs.YtopbjginpmdebaaDoor.K
open Go.RowKit Go.Maps Go.Proofs.YtopbjginpmdebaaDoorW.PrintWords Go.Proofs.YtopbjginpmdebaaDoorW.PrintLast Go.Proofs.YtopbjginpmdebaaDoorW.PrintMore
set_option linter.unusedVariables false
set_option linter.unusedSimpArgs false
/-- a leaf -/
def lfB (n : Nd) : Bool := decide (n.f0 = -1 ∧ n.f2 = [] ∧ -1073741824 ≤ n.f1 ∧ n.f1 ≤ 1073741824)
/-- a child -/
def okK (nodes : List Nd) (i s k : Int) : Bool := decide (0 ≤ k ∧ k < i) && !(decide (0 ≤ (nth nodes k).f0 ∧ (nth nodes k).f0 ≤ s))
/-- a branch -/
def brB (nodes : List Nd) (i : Int) (n : Nd) : Bool := decide (0 ≤ n.f0 ∧ n.f0 < 64 ∧ n.f1 = 0 ∧ 1 ≤ n.f2.length ∧ n.f2.length ≤ 16) && n.f2.all (okK nodes i n.f0)
theorem lf_f (n : Nd) : diagram_leaf.f n.f0 n.f1 n.f2 = some (lfB n) := by
  unfold diagram_leaf.f lfB
  have h0 : ((n.f2.length : Int) = 0) ↔ n.f2 = [] := by rw [← List.length_eq_zero_iff]; omega
  by_cases h1 : n.f0 = -1
  · by_cases h2 : n.f2 = []
    · by_cases h3 : -1073741824 ≤ n.f1
      · simp [h1, h2, h3]
      · simp [h1, h2, h3]
    · rw [if_pos h1, if_neg (fun h => h2 (h0.1 h))]; simp [h2]
  · simp [h1]
theorem br_l0 (nodes : List Nd) (i : Int) (hi : i ≤ nodes.length) (ks : List Int) (hk : ks.length < 4611686018427387904) (s v : Int) (l : List Int) : ∀ (m j fuel : Nat), ks.length - j ≤ m → j ≤ ks.length → m < fuel →
    diagram_branch.l0 fuel nodes i ks (ks.length : Int) (j : Int) s v l = some ((ks.drop j).all (okK nodes i s)) := by
  intro m
  induction m with
  | zero =>
    intro j fuel h1 h2 h3
    obtain ⟨f, rfl⟩ : ∃ f, fuel = f + 1 := ⟨fuel - 1, by omega⟩
    have e : j = ks.length := by omega
    subst e
    simp [diagram_branch.l0]
  | succ m ih =>
    intro j fuel h1 h2 h3
    obtain ⟨f, rfl⟩ : ∃ f, fuel = f + 1 := ⟨fuel - 1, by omega⟩
    by_cases hj : j < ks.length
    · have hw : wrap64 ((j : Int) + 1) = ((j + 1 : Nat) : Int) := by unfold wrap64; omega
      have hr : rd ks (j : Int) = ks[j] := by unfold rd; rw [Int.toNat_natCast, List.getD_eq_getElem?_getD, List.getElem?_eq_getElem hj]; rfl
      have ih' := ih (j + 1) f (by omega) (by omega) (by omega)
      rw [List.drop_eq_getElem_cons hj, List.all_cons]
      simp only [diagram_branch.l0]
      rw [if_pos (by omega), if_pos (by omega), if_pos (by omega), hw, hr, ih']
      unfold okK
      show _ = some ((decide (0 ≤ ks[j] ∧ ks[j] < i) && !decide (0 ≤ (rd_T60 nodes ks[j]).f0 ∧ (rd_T60 nodes ks[j]).f0 ≤ s)) && _)
      by_cases h4 : ks[j] < 0
      · rw [if_pos h4]
        have : ¬ (0 ≤ ks[j] ∧ ks[j] < i) := by omega
        simp [this]
      · rw [if_neg h4]
        by_cases h5 : ks[j] ≥ i
        · rw [if_pos h5]
          have : ¬ (0 ≤ ks[j] ∧ ks[j] < i) := by omega
          simp [this]
        · rw [if_neg h5, if_pos (by omega), if_pos (by omega)]
          have : 0 ≤ ks[j] ∧ ks[j] < i := by omega
          by_cases h6 : (rd_T60 nodes ks[j]).f0 ≥ 0
          · rw [if_pos h6]
            by_cases h7 : (rd_T60 nodes ks[j]).f0 ≤ s
            · rw [if_pos h7]; simp [h6, h7]
            · rw [if_neg h7]; simp [this, h7]
          · rw [if_neg h6]; simp [this, h6]
    · have e : j = ks.length := by omega
      subst e
      simp [diagram_branch.l0]
theorem br_f (nodes : List Nd) (i : Nat) (hi : i < nodes.length) (hk : (nth nodes (i : Int)).f2.length < 4611686018427387904) (k : Nat) (hf : (nth nodes (i : Int)).f2.length + 2 ≤ k) : diagram_branch.f k nodes (i : Int) = some (brB nodes i (nth nodes (i : Int))) := by
  obtain ⟨f, rfl⟩ : ∃ f, k = f + 1 := ⟨k - 1, by omega⟩
  obtain ⟨n, hn⟩ : ∃ n, n = nth nodes (i : Int) := ⟨_, rfl⟩
  have hr : rd_T60 nodes (i : Int) = n := hn.symm
  unfold diagram_branch.f brB
  rw [if_pos (by omega), if_pos (by omega), hr, ← hn]
  rw [← hn] at hk hf
  have hl := br_l0 nodes (i : Int) (by omega) n.f2 hk n.f0 n.f1 n.f2 n.f2.length 0 f (by omega) (by omega) (by omega)
  rw [List.drop_zero] at hl
  simp only [diagram_branch.j0, if_true]
  by_cases h1 : n.f0 < 0
  · have : ¬ (0 ≤ n.f0) := by omega
    simp [h1, this]
  · by_cases h2 : n.f0 ≥ 64
    · have : ¬ (n.f0 < 64) := by omega
      rw [if_neg h1, if_pos h2]; simp [this]
    · rw [if_neg h1, if_neg h2]
      by_cases h3 : n.f1 = 0
      · rw [if_pos h3]
        by_cases h4 : (n.f2.length : Int) < 1
        · have : ¬ (1 ≤ n.f2.length) := by omega
          rw [if_pos h4]; simp [this]
        · rw [if_neg h4]
          by_cases h5 : (n.f2.length : Int) > 16
          · have : ¬ (n.f2.length ≤ 16) := by omega
            simp [h5, this]
          · have h6 : 0 ≤ n.f0 ∧ n.f0 < 64 ∧ n.f1 = 0 ∧ 1 ≤ n.f2.length ∧ n.f2.length ≤ 16 := by omega
            rw [decide_eq_false h5]
            rw [if_neg (by simp)]
            rw [show ((0 : Nat) : Int) = 0 from rfl] at hl
            rw [hl, decide_eq_true h6]; simp
      · rw [if_neg h3]; simp [h3]
/-- isGraph -/
def grB (nodes : List Nd) : Bool := ((List.range nodes.length).all fun i => lfB (nth nodes (i : Int)) || brB nodes (i : Int) (nth nodes (i : Int))) && (decide (0 < nodes.length) && (shp (fun _ => none) nodes).isSome)
end Go.Proofs.YtopbjginpmdebaaDoor.K
-- diagram.isGraph
namespace Go.Proofs.YtopbjginpmdebaaDoor.K
open Go.RowKit Go.Maps Go.Proofs.YtopbjginpmdebaaDoorW.PrintWords Go.Proofs.YtopbjginpmdebaaDoorW.PrintLast Go.Proofs.YtopbjginpmdebaaDoorW.PrintMore
set_option linter.unusedVariables false
set_option linter.unusedSimpArgs false
theorem grB_of {nodes : List Nd} (h : ∀ j : Nat, j < nodes.length → (lfB (nth nodes (j : Int)) || brB nodes (j : Int) (nth nodes (j : Int))) = true) : grB nodes = (decide (0 < nodes.length) && (shp (fun _ => none) nodes).isSome) := by
  unfold grB
  rw [List.all_eq_true.2 (fun j hj => h j (List.mem_range.1 hj)), Bool.true_and]
theorem grB_bad {nodes : List Nd} {k : Nat} (hk : k < nodes.length) (h : (lfB (nth nodes (k : Int)) || brB nodes (k : Int) (nth nodes (k : Int))) = false) : grB nodes = false := by
  unfold grB
  rw [show ((List.range nodes.length).all fun i => lfB (nth nodes (i : Int)) || brB nodes (i : Int) (nth nodes (i : Int))) = false from List.all_eq_false.2 ⟨k, List.mem_range.2 hk, by rw [h]; simp⟩, Bool.false_and]
theorem all_succ {nodes : List Nd} {k : Nat} (h : ∀ j : Nat, j < k → (lfB (nth nodes (j : Int)) || brB nodes (j : Int) (nth nodes (j : Int))) = true) (hk : (lfB (nth nodes (k : Int)) || brB nodes (k : Int) (nth nodes (k : Int))) = true) : ∀ j : Nat, j < k + 1 → (lfB (nth nodes (j : Int)) || brB nodes (j : Int) (nth nodes (j : Int))) = true := by
  intro j hj
  rcases Nat.lt_or_ge j k with h1 | h1
  · exact h j h1
  · obtain rfl : j = k := by omega
    exact hk
set_option maxHeartbeats 16000000 in
set_option maxRecDepth 100000 in
theorem isGraph_calls (nodes : List Nd) (A : Option Addr) (c : Nat) (w : World)
    (hC : k60.C w A nodes.length nodes) (hc : nodes.length ≤ c) (hI : ∀ n ∈ nodes, I64 n.f0 ∧ I64 n.f1 ∧ n.f2.length ≤ 1073741824) (hroom : nodes.length < 4000000000000) :
    Calls Tryd.prog 45 #[.slice A nodes.length c] w fun e w' => e = .returned (.bool (grB nodes)) ∧ Below w.heap.size w w' := by
  have hmm := @run_makeMap Tryd.prog
  obtain ⟨N, hN⟩ : ∃ N, N = nodes.length := ⟨_, rfl⟩
  have HN := Lib.hid hN
  rw [← hN]
  rw [← hN] at hroom hc
  clear hN
  have HC := Lib.hid hC
  clear hC
  go_enter Tryd.func45, Tryd.ntmps45
  go_wp2
  go_loopw [7] (fun i wr => ∃ (k : Nat), i = .int .i64 k ∧ k ≤ N ∧ Below w.heap.size w wr ∧ (∀ j : Nat, j < k → (lfB (nth nodes (j : Int)) || brB nodes (j : Int) (nth nodes (j : Int))) = true)) (fun i _ => N - (intOf i).toNat)
  case atStart => exact ⟨0, rfl, Nat.zero_le _, Below.refl _ _, fun j hj => absurd hj (Nat.not_lt_zero _)⟩
  case round =>
    obtain ⟨k, rfl, hk, hB, hall⟩ := hrel
    have HALL := Lib.hid hall
    have HB := Lib.hid hB
    have hsz := hB.size
    clear hall
    by_cases hlt : k < N
    · have hkn : k < nodes.length := by have := HN.out; omega
      have hnm : nth nodes k ∈ nodes := by rw [nth_lt hkn]; exact List.getElem_mem hkn
      obtain ⟨ad, A2, c2, rfl, d0, d1, d2, l2, g2⟩ := at_T60 (Kd.C_below HC.out hB) (k : Int) (by omega) (by omega)
      rw [Int.toNat_natCast] at d0 d1 d2
      rw [rd_nth] at d0 d1 d2 l2 g2
      obtain ⟨n, hn⟩ : ∃ n, n = nth nodes (k : Int) := ⟨_, rfl⟩
      rw [← hn] at d0 d1 d2 l2 g2 hnm
      obtain ⟨hI0, hI1, hI2⟩ := hI n hnm
      have hkb : k < 4000000000000 := by omega
      have hb1 : Below wr.heap.size wr (wr.alloc (.cells #[.int .i64 n.f0, .int .i64 n.f1, .slice A2 n.f2.length c2] 60)) := (Below.refl _ wr).alloc (Nat.le_refl _) _
      have hL := diagram_leaf.calls n.f0 n.f1 A2 c2 n.f2 (lfB n) (wr.alloc (.cells #[.int .i64 n.f0, .int .i64 n.f1, .slice A2 n.f2.length c2] 60)) (Kd.C_below g2 hb1) l2 (lf_f n)
      have HBR := Lib.hid (fun (W : World) (hW : Below wr.heap.size wr W) => diagram_branch.calls (n.f2.length + 2) (some ad) c nodes (k : Int) (brB nodes (k : Int) n) W (Kd.C_below HC.out (hB.trans (hW.mono hsz))) (by rw [← HN.out]; exact hc) (by rw [hn]; exact br_f nodes k hkn (by rw [← hn]; omega) _ (by rw [← hn]; omega)))
      rw [← HN.out] at HBR
      have HB1 := Lib.hid hb1
      have HNN := Lib.hid hn
      clear hb1 hn hnm g2 hB
      by_cases hl : lfB n = true
      · rw [hl] at hL
        go_wp2_with (go_at_call 56; refine hL.mono ?_; clear hL; rintro e w2 ⟨rfl, hb2⟩; have HB2 := Lib.hid (HB1.out.trans (hb2.mono (by simp))); clear hb2)
        go_roundw
        case rel => exact ⟨k + 1, by go_num, hlt, HB.out.trans (HB2.out.mono hsz), all_succ HALL.out (by rw [← HNN.out, hl]; rfl)⟩
        case measure => simp [intOf]; omega
      · have hlf : lfB n = false := by simpa using hl
        rw [hlf] at hL
        by_cases hr : brB nodes (k : Int) n = true
        · go_wp2_with (first
            | (go_at_call 56; refine hL.mono ?_; clear hL; rintro e w2 ⟨rfl, hb2⟩; have HB2 := Lib.hid (HB1.out.trans (hb2.mono (by simp))); clear hb2)
            | (go_at_call 69; refine (HBR.out _ HB2.out).mono ?_; rintro e w3 ⟨rfl, hb3⟩; rw [hr]; have HB3 := Lib.hid hb3; clear hb3))
          go_roundw
          case rel => exact ⟨k + 1, by go_num, hlt, HB.out.trans ((HB2.out.trans (HB3.out.mono HB2.out.size)).mono hsz), all_succ HALL.out (by rw [← HNN.out, hr]; simp)⟩
          case measure => simp [intOf]; omega
        · have hrf : brB nodes (k : Int) n = false := by simpa using hr
          go_wp2_with (first
            | (go_at_call 56; refine hL.mono ?_; clear hL; rintro e w2 ⟨rfl, hb2⟩; have HB2 := Lib.hid (HB1.out.trans (hb2.mono (by simp))); clear hb2)
            | (go_at_call 69; refine (HBR.out _ HB2.out).mono ?_; rintro e w3 ⟨rfl, hb3⟩; rw [hrf]; have HB3 := Lib.hid hb3; clear hb3))
          go_ret
          exact ⟨by rw [grB_bad hkn (by rw [← HNN.out, hlf, hrf]; rfl)]; rfl, HB.out.trans ((HB2.out.trans (HB3.out.mono HB2.out.size)).mono hsz)⟩
    · have hke : k = N := by omega
      have hg : grB nodes = (decide (0 < nodes.length) && (shp (fun _ => none) nodes).isSome) := grB_of (fun j hj => HALL.out j (by have := HN.out; omega))
      rw [← HN.out] at hg
      have HG := Lib.hid hg
      clear hg
      by_cases h0 : N = 0
      · go_wp2
        go_ret
        exact ⟨by rw [HG.out, h0]; rfl, HB.out⟩
      · have hb1 : Below wr.heap.size wr (wr.alloc (.map #[] 0)) := (Below.refl _ wr).alloc (Nat.le_refl _) _
        have hpos : 0 < N := by omega
        have hS := shapes_calls wr.heap.size wr.heap.size 0 (fun _ => none) nodes A c (wr.alloc (.map #[] 0)) (by simp) (Nat.le_refl _) (IMap.made wr) (fun W hW => Kd.C_below HC.out (HB.out.trans ((hb1.trans hW).mono hsz))) (by rw [← HN.out]; exact hc) hI (by have := HN.out; omega)
        rw [← HN.out] at hS
        have HB1 := Lib.hid hb1
        clear hb1 hB
        go_wp2_with (go_at_call 60; refine hS.mono ?_; clear hS; rintro e w2 ⟨hg2, rfl, -⟩; have HB2 := Lib.hid (HB1.out.trans (grown_below hg2 (by simp) (Nat.le_refl _))); clear hg2)
        go_ret
        exact ⟨by rw [HG.out]; simp [hpos], HB.out.trans (HB2.out.mono hsz)⟩
end Go.Proofs.YtopbjginpmdebaaDoor.K
-- diagram.Reduce
namespace Go.Proofs.YtopbjginpmdebaaDoor.K
open Go.RowKit Go.Maps Go.Proofs.YtopbjginpmdebaaDoorW.PrintWords Go.Proofs.YtopbjginpmdebaaDoorW.PrintLast Go.Proofs.YtopbjginpmdebaaDoorW.PrintMore
set_option linter.unusedVariables false
set_option linter.unusedSimpArgs false
theorem gr_nd {nodes : List Nd} (h : grB nodes = true) {i : Nat} (hi : i < nodes.length) : lfB (nth nodes (i : Int)) = true ∨ brB nodes (i : Int) (nth nodes (i : Int)) = true := by
  unfold grB at h
  rw [Bool.and_eq_true, List.all_eq_true] at h
  have := h.1 i (List.mem_range.2 hi)
  simpa using this
theorem gr_pos {nodes : List Nd} (h : grB nodes = true) : 0 < nodes.length := by
  unfold grB at h
  simp only [Bool.and_eq_true, decide_eq_true_eq] at h
  exact h.2.1
theorem lf_iff {n : Nd} : lfB n = true ↔ n.f0 = -1 ∧ n.f2 = [] ∧ -1073741824 ≤ n.f1 ∧ n.f1 ≤ 1073741824 := by unfold lfB; simp
theorem br_iff {nodes : List Nd} {i : Int} {n : Nd} : brB nodes i n = true ↔ (0 ≤ n.f0 ∧ n.f0 < 64 ∧ n.f1 = 0 ∧ 1 ≤ n.f2.length ∧ n.f2.length ≤ 16) ∧ ∀ k ∈ n.f2, (0 ≤ k ∧ k < i) ∧ ¬ (0 ≤ (nth nodes k).f0 ∧ (nth nodes k).f0 ≤ n.f0) := by
  unfold brB okK
  simp only [Bool.and_eq_true, decide_eq_true_eq, List.all_eq_true, Bool.not_eq_true', decide_eq_false_iff_not]
theorem mem_nth {nodes : List Nd} {n : Nd} (h : n ∈ nodes) : ∃ i : Nat, i < nodes.length ∧ nth nodes (i : Int) = n := by
  obtain ⟨i, hi, e⟩ := List.getElem_of_mem h
  exact ⟨i, hi, by rw [nth_lt hi]; exact e⟩
theorem gr_fit {nodes : List Nd} (h : grB nodes = true) : Fit nodes := by
  refine ⟨fun i hi k hk => ?_, fun n hn h0 => ?_⟩
  · rcases gr_nd h hi with h1 | h1
    · rw [(lf_iff.1 h1).2.1] at hk; cases hk
    · exact ((br_iff.1 h1).2 k hk).1
  · obtain ⟨i, hi, rfl⟩ := mem_nth hn
    rcases gr_nd h hi with h1 | h1
    · have := (lf_iff.1 h1).1; omega
    · intro e
      have := (br_iff.1 h1).1
      rw [e] at this
      simp at this
theorem gr_ne {nodes : List Nd} (h : grB nodes = true) : nodes ≠ [] := fun e => by have := gr_pos h; rw [e] at this; simp at this
theorem gr_kids {nodes : List Nd} (h : grB nodes = true) : ∀ n ∈ nodes, n.f2.length ≤ 16 := by
  intro n hn
  obtain ⟨i, hi, rfl⟩ := mem_nth hn
  rcases gr_nd h hi with h1 | h1
  · rw [(lf_iff.1 h1).2.1]; simp
  · exact (br_iff.1 h1).1.2.2.2.2
theorem place0_kids {m : Nat} {u : List Nd} {n : Nd} (h : ∀ x ∈ u, x.f2.length ≤ m) (hn : n.f2.length ≤ m) : ∀ x ∈ (place0 u n).1, x.f2.length ≤ m := by
  unfold place0
  split
  · exact h
  · intro x hx
    rcases List.mem_append.1 hx with h1 | h1
    · exact h x h1
    · rw [List.mem_singleton.1 h1]; exact hn
theorem place1_kids {m : Nat} {u : List Nd} {at_ : List Int} {n : Nd} (h : ∀ x ∈ u, x.f2.length ≤ m) (hn : n.f2.length ≤ m) : ∀ x ∈ (place1 u at_ n).1, x.f2.length ≤ m := by
  unfold place1 placeB
  split
  · exact place0_kids h (by simp)
  · split
    · exact h
    · exact place0_kids h (by simpa using hn)
theorem imp_kids {m : Nat} : ∀ (ns : List Nd) (u : List Nd) (at_ : List Int), (∀ x ∈ u, x.f2.length ≤ m) → (∀ n ∈ ns, n.f2.length ≤ m) → ∀ x ∈ (imp u at_ ns).1, x.f2.length ≤ m
  | [], u, at_, h, _ => h
  | n :: ns, u, at_, h, hn => by
    simp only [imp]
    exact imp_kids ns _ _ (place1_kids h (hn n List.mem_cons_self)) (fun x hx => hn x (List.mem_cons_of_mem _ hx))
/-- where the last node of a graph is in an empty table -/
def rtN (nodes : List Nd) : Nat := (lk (imp [] [] nodes).2 ((nodes.length - 1 : Nat) : Int)).toNat
/-- the canonical nodes of a graph -/
def cn (nodes : List Nd) : List Nd := expo (imp [] [] nodes).1 (rtN nodes)
theorem gr_tbl {nodes : List Nd} (h : grB nodes = true) : Tbl (imp [] [] nodes).1 (imp [] [] nodes).2 ∧ (imp [] [] nodes).1.length ≤ nodes.length := by
  have := imp_tbl (gr_fit h) tbl_nil nodes.length (Nat.le_refl _)
  rw [List.take_length] at this
  exact ⟨this.1, by simpa using this.2.1⟩
theorem gr_root {nodes : List Nd} (h : grB nodes = true) : lk (imp [] [] nodes).2 ((nodes.length - 1 : Nat) : Int) = (rtN nodes : Int) ∧ rtN nodes < (imp [] [] nodes).1.length := by
  have hp := gr_pos h
  have h1 : (imp [] [] nodes).2.length = nodes.length := by rw [imp_len]; simp
  have h2 := (gr_tbl h).1.at_lt _ (lk_mem (at_ := (imp [] [] nodes).2) (c := ((nodes.length - 1 : Nat) : Int)) (by omega) (by omega))
  unfold rtN
  omega
/-- Reduce's error -/
def redE (nodes : List Nd) : Int := if grB nodes = true then (if (cn nodes).length ≤ 20000 then 0 else 9) else 2
/-- Reduce's nodes -/
def redL (nodes : List Nd) : List Nd := if redE nodes = 0 then cn nodes else []
/-- how a function ends that returns a diagram and an error -/
def DgPost (w : World) (l : List Nd) (er : Int) (e : Ending) (w' : World) : Prop := Below w.heap.size w w' ∧ ∃ vo, e = .returned (.tuple #[.agg #[vo], .int .i64 er]) ∧ k60.R 60 w' w.heap.size (fun _ => True) vo l
set_option maxHeartbeats 16000000 in
set_option maxRecDepth 100000 in
theorem reduce_calls (nodes : List Nd) (A : Option Addr) (c : Nat) (w : World)
    (hC : k60.C w A nodes.length nodes) (hc : nodes.length ≤ c) (hI : ∀ n ∈ nodes, I64 n.f0 ∧ I64 n.f1 ∧ n.f2.length ≤ 1073741824) (hroom : (nodes.length + 1) * 40 ≤ 140737488355328) (htab : PowTab w.heap.size w) :
    Calls Tryd.prog 19 #[.slice A nodes.length c] w (DgPost w (redL nodes) (redE nodes)) := by
  have hb0 : Below w.heap.size w (w.alloc (.cells #[.slice none 0 0] 31)) := (Below.refl _ w).alloc (Nat.le_refl _) _
  have hG := isGraph_calls nodes A c (w.alloc (.cells #[.slice none 0 0] 31)) (Kd.C_below hC hb0) hc hI (by omega)
  have HBX := Lib.hid (heap_alloc_new w (.cells #[.slice none 0 0] 31))
  have HB0 := Lib.hid hb0
  have HC := Lib.hid hC
  have HI := Lib.hid hI
  obtain ⟨N, hN⟩ : ∃ N, N = nodes.length := ⟨_, rfl⟩
  have HN := Lib.hid hN
  rw [← hN] at hG hroom hc ⊢
  clear hb0 hC hI hN
  by_cases hg : grB nodes = true
  · obtain ⟨hr1, hr2⟩ := gr_root hg
    obtain ⟨htb, hul⟩ := gr_tbl hg
    have hnk := imp_kids nodes [] [] (m := 16) (by simp) (gr_kids hg)
    obtain ⟨fuel, hfu⟩ := exL_root htb.down 20000 (rtN nodes) hr2
    have hfu0 := hfu 0
    rw [Nat.zero_add] at hfu0
    obtain ⟨u, hu⟩ : ∃ u, u = (imp [] [] nodes).1 := ⟨_, rfl⟩
    have hcn : cn nodes = expo u (rtN nodes) := by rw [hu]; rfl
    rw [← hu] at hr2 htb hul hnk hfu0
    rw [← hcn] at hfu0
    have HPUB := Lib.hid (And.intro htb.down (And.intro hr2 (And.intro hul hnk)))
    have HU := Lib.hid hu
    rw [← HN.out] at hr1
    have HR1 := Lib.hid hr1
    have HFU := Lib.hid hfu0
    have HFIT := Lib.hid (And.intro (gr_fit hg) (gr_ne hg))
    rw [hg] at hG
    have hE : redE nodes = if (cn nodes).length ≤ 20000 then 0 else 9 := by unfold redE; rw [if_pos hg]
    clear htb hr2 hul hnk hfu hfu0 hu hr1 hg hcn
    have HTAB := Lib.hid htab
    clear htab
    by_cases hle : (cn nodes).length ≤ 20000
    · have hL : redL nodes = cn nodes := by unfold redL; rw [if_pos (by rw [hE, if_pos hle])]
      rw [hL, hE, if_pos hle]
      have HF2 := Lib.hid (show exL u 20000 fuel (fun _ => none) [] [((rtN nodes : Nat), 0)] = some (some (cn nodes)) from by have := HFU.out; rw [if_pos hle] at this; exact this)
      clear hE hL HFU
      go_enter Tryd.func19, Tryd.ntmps19
      go_wp2_with (first
        | (go_at_call 45; refine hG.mono ?_; clear hG; rintro e w1 ⟨rfl, hb1⟩; have HB1 := Lib.hid hb1; have HBX1 := Lib.hid ((hb1.block w.heap.size (by simp)).trans HBX.out); have hs1 := hb1.size; clear hb1)
        | (go_at_call 46; refine (new_calls w1).mono ?_; rintro e w2 ⟨rfl, hb2, hs2, hT2⟩; have HB2 := Lib.hid hb2; have HBX2 := Lib.hid ((hb2.block _ (blk_lt HBX1.out)).trans HBX1.out); have HS2 := Lib.hid hs2; have HT2 := Lib.hid (hT2 w1.heap.size (Nat.le_refl _)); clear hb2 hs2 hT2)
        | (go_at_call 48; have hA := (root_calls w1.heap.size (w1.heap.size + 1) w1.heap.size _ [] nodes A c w2 HT2.out (okNew_ok w1.heap.size (Nat.le_refl _) HS2.out) (by have := HS2.out; omega) (by have := HS2.out; omega) (by have := HS2.out; omega) (fun W hW => Kd.C_below HC.out (HB0.out.trans ((HB1.out.trans ((HB2.out.trans hW).mono hs1)).mono (by simp)))) (by rw [← HN.out]; exact hc) HFIT.out.1 HFIT.out.2 tbl_nil HI.out (by rw [← HN.out]; simp; omega) (PowTab.up (HTAB.out.on (HB0.out.trans ((HB1.out.trans (HB2.out.mono hs1)).mono (by simp)))) (by have := hs1; simp at this; omega))); rw [← HN.out] at hA; refine hA.mono ?_; clear hA; rintro e w3 ⟨rfl, hT3, hTc⟩; rw [HR1.out]; have HT3 := Lib.hid hT3; have hb3 := hTc.below (by have := HS2.out; omega) (okNew_ok w1.heap.size (Nat.le_refl _) HS2.out); have HB3 := Lib.hid hb3; have HBX3 := Lib.hid ((hb3.block _ (blk_lt HBX1.out)).trans HBX2.out); have hs3 := hb3.size; clear hT3 hTc hb3)
        | (go_at_call 47; refine (export_calls fuel w1.heap.size (w1.heap.size + 1) w1.heap.size _ u (rtN nodes) w3 _ (by rw [HU.out]; exact HT3.out) HPUB.out.1 HPUB.out.2.1 HF2.out (by have := HPUB.out.2.2.1; have := HN.out; omega) (fun n hn => Nat.le_trans (HPUB.out.2.2.2 n hn) (by decide))).mono ?_; rintro e w4 ⟨hb4, hm⟩; obtain ⟨vo, rfl, hR⟩ := hm; obtain ⟨A5, c5, rfl⟩ := Kd.R_slice hR; have hbx4 := (hb4.block _ (blk_lt HBX3.out)).trans HBX3.out; have HBX4 := Lib.hid hbx4; have b0 := blk_cell hbx4 0; have f0 := blk_frozen hbx4 0; have hlt4 := blk_lt hbx4; clear hbx4; have HB4 := Lib.hid hb4; have HR4 := Lib.hid hR; clear hb4 hR))
      have HB5 := HB0.out.trans ((HB1.out.trans ((HB2.out.trans (HB3.out.trans (HB4.out.mono (by have := HB2.out.size; omega)))).mono hs1)).mono (by simp))
      have hb6 := (HB5.setCell (p := ⟨w.heap.size, 0, none⟩) (Nat.le_refl _) (.slice A5 (cn nodes).length c5)).alloc (by simp; omega) (.cells #[.slice A5 (cn nodes).length c5] 31)
      have hb2 := blk_set HBX4.out 0 (.slice A5 (cn nodes).length c5)
      have hbx5 := (Below.heap_alloc (w4.setCell ⟨w.heap.size, 0, none⟩ (.slice A5 (cn nodes).length c5)) (.cells #[.slice A5 (cn nodes).length c5] 31) _ (blk_lt hb2)).trans hb2
      have q0 := (blk_cell hbx5 0).trans rfl
      refine bodyPost_ret (v := .tuple #[.agg #[.slice A5 (cn nodes).length c5], .int .i64 0]) (by simp [results, Tryd.f19, go_sem, q0]) rfl ⟨hb6, _, rfl, ?_⟩
      exact Kd.R_below (Kd.R_set (Kd.R_lower (base' := w.heap.size) HR4.out (by have := HB2.out.size; simp at hs1; omega)) HBX4.out (by decide) 0 _) ((Below.refl _ _).alloc (Nat.le_refl _) _)
    · have hL : redL nodes = [] := by unfold redL; rw [if_neg (by rw [hE, if_neg hle]; decide)]
      rw [hL, hE, if_neg hle]
      have HF2 := Lib.hid (show exL u 20000 fuel (fun _ => none) [] [((rtN nodes : Nat), 0)] = some none from by have := HFU.out; rw [if_neg hle] at this; exact this)
      clear hE hL HFU
      go_enter Tryd.func19, Tryd.ntmps19
      go_wp2_with (first
        | (go_at_call 45; refine hG.mono ?_; clear hG; rintro e w1 ⟨rfl, hb1⟩; have HB1 := Lib.hid hb1; have HBX1 := Lib.hid ((hb1.block w.heap.size (by simp)).trans HBX.out); have hs1 := hb1.size; clear hb1)
        | (go_at_call 46; refine (new_calls w1).mono ?_; rintro e w2 ⟨rfl, hb2, hs2, hT2⟩; have HB2 := Lib.hid hb2; have HBX2 := Lib.hid ((hb2.block _ (blk_lt HBX1.out)).trans HBX1.out); have HS2 := Lib.hid hs2; have HT2 := Lib.hid (hT2 w1.heap.size (Nat.le_refl _)); clear hb2 hs2 hT2)
        | (go_at_call 48; have hA := (root_calls w1.heap.size (w1.heap.size + 1) w1.heap.size _ [] nodes A c w2 HT2.out (okNew_ok w1.heap.size (Nat.le_refl _) HS2.out) (by have := HS2.out; omega) (by have := HS2.out; omega) (by have := HS2.out; omega) (fun W hW => Kd.C_below HC.out (HB0.out.trans ((HB1.out.trans ((HB2.out.trans hW).mono hs1)).mono (by simp)))) (by rw [← HN.out]; exact hc) HFIT.out.1 HFIT.out.2 tbl_nil HI.out (by rw [← HN.out]; simp; omega) (PowTab.up (HTAB.out.on (HB0.out.trans ((HB1.out.trans (HB2.out.mono hs1)).mono (by simp)))) (by have := hs1; simp at this; omega))); rw [← HN.out] at hA; refine hA.mono ?_; clear hA; rintro e w3 ⟨rfl, hT3, hTc⟩; rw [HR1.out]; have HT3 := Lib.hid hT3; have hb3 := hTc.below (by have := HS2.out; omega) (okNew_ok w1.heap.size (Nat.le_refl _) HS2.out); have HB3 := Lib.hid hb3; have HBX3 := Lib.hid ((hb3.block _ (blk_lt HBX1.out)).trans HBX2.out); have hs3 := hb3.size; clear hT3 hTc hb3)
        | (go_at_call 47; refine (export_calls fuel w1.heap.size (w1.heap.size + 1) w1.heap.size _ u (rtN nodes) w3 _ (by rw [HU.out]; exact HT3.out) HPUB.out.1 HPUB.out.2.1 HF2.out (by have := HPUB.out.2.2.1; have := HN.out; omega) (fun n hn => Nat.le_trans (HPUB.out.2.2.2 n hn) (by decide))).mono ?_; rintro e w4 ⟨hb4, hm⟩; obtain rfl := hm; have hbx4 := (hb4.block _ (blk_lt HBX3.out)).trans HBX3.out; have HBX4 := Lib.hid hbx4; have b0 := blk_cell hbx4 0; have f0 := blk_frozen hbx4 0; have hlt4 := blk_lt hbx4; clear hbx4; have HB4 := Lib.hid hb4; clear hb4))
      have HB5 := HB0.out.trans ((HB1.out.trans ((HB2.out.trans (HB3.out.trans (HB4.out.mono (by have := HB2.out.size; omega)))).mono hs1)).mono (by simp))
      have hb6 := (HB5.setCell (p := ⟨w.heap.size, 0, none⟩) (Nat.le_refl _) (.slice none 0 0)).alloc (by simp; omega) (.cells #[.slice none 0 0] 31)
      have hb2 := blk_set HBX4.out 0 (.slice none 0 0)
      have hbx5 := (Below.heap_alloc (w4.setCell ⟨w.heap.size, 0, none⟩ (.slice none 0 0)) (.cells #[.slice none 0 0] 31) _ (blk_lt hb2)).trans hb2
      have q0 := (blk_cell hbx5 0).trans rfl
      refine bodyPost_ret (v := .tuple #[.agg #[.slice none 0 0], .int .i64 9]) (by simp [results, Tryd.f19, go_sem, q0]) rfl ⟨hb6, _, rfl, Kd.R_nil _ _ _ _ _⟩
  · have hgf : grB nodes = false := by simpa using hg
    have hE : redE nodes = 2 := by unfold redE; rw [if_neg hg]
    have hL : redL nodes = [] := by unfold redL; rw [if_neg (by rw [hE]; decide)]
    rw [hE, hL]
    rw [hgf] at hG
    clear hg hgf hE hL
    go_enter Tryd.func19, Tryd.ntmps19
    go_wp2_with (go_at_call 45; refine hG.mono ?_; clear hG; rintro e w1 ⟨rfl, hb1⟩; have hbx1 := (hb1.block w.heap.size (by simp)).trans HBX.out; have b0 := blk_cell hbx1 0; have f0 := blk_frozen hbx1 0; have HB1 := Lib.hid hb1; have HBX1 := Lib.hid hbx1; clear hb1 hbx1)
    have hb2 := blk_set HBX1.out 0 (.slice none 0 0)
    have q0 := (blk_cell hb2 0).trans rfl
    refine bodyPost_ret (v := .tuple #[.agg #[.slice none 0 0], .int .i64 2]) (by simp [results, Tryd.f19, go_sem, q0]) rfl ⟨(HB0.out.trans (HB1.out.mono (by simp))).setCell (p := ⟨w.heap.size, 0, none⟩) (Nat.le_refl _) _, _, rfl, Kd.R_nil _ _ _ _ _⟩
end Go.Proofs.YtopbjginpmdebaaDoor.K
-- diagram.Validate
namespace Go.Proofs.YtopbjginpmdebaaDoor.K
open Go.RowKit Go.Maps Go.Proofs.YtopbjginpmdebaaDoorW.PrintWords Go.Proofs.YtopbjginpmdebaaDoorW.PrintLast Go.Proofs.YtopbjginpmdebaaDoorW.PrintMore
set_option linter.unusedVariables false
set_option linter.unusedSimpArgs false
theorem eq_getD {xs ys : List Int} (hl : xs.length = ys.length) (h : ∀ j, j < xs.length → xs.getD j 0 = ys.getD j 0) : xs = ys := by
  apply List.ext_getElem hl
  intro i h1 h2
  have := h i h1
  rw [List.getD_eq_getElem?_getD, List.getD_eq_getElem?_getD, List.getElem?_eq_getElem h1, List.getElem?_eq_getElem h2] at this
  exact this
set_option maxHeartbeats 8000000 in
set_option maxRecDepth 100000 in
theorem eqInts (xs ys : List Int) (A1 A2 : Option Addr) (c1 c2 : Nat) (w : World) (h1 : (Kd.int .i64).C w A1 xs.length xs) (h2 : (Kd.int .i64).C w A2 ys.length ys) (hl : xs.length ≤ 1073741824) (hl2 : ys.length ≤ 1073741824) :
    Calls Tryd.prog 51 #[.slice A1 xs.length c1, .slice A2 ys.length c2] w fun e w' => e = .returned (.bool (decide (xs = ys))) ∧ Below w.heap.size w w' := by
  have H1 := Lib.hid h1
  have H2 := Lib.hid h2
  clear h1 h2
  by_cases hlen : xs.length = ys.length
  · obtain ⟨N, hN⟩ : ∃ N, N = xs.length := ⟨_, rfl⟩
    rw [← hlen, ← hN]
    have HN := Lib.hid hN
    have HL := Lib.hid hlen
    rw [← hN] at hl
    clear hN hlen hl2
    go_enter Tryd.func51, Tryd.ntmps51
    go_wp2
    go_loopw [13] (fun i wr => ∃ k : Nat, i = .int .i64 k ∧ k ≤ N ∧ Below w.heap.size w wr ∧ ∀ j, j < k → xs.getD j 0 = ys.getD j 0) (fun i _ => N - (intOf i).toNat)
    case atStart => exact ⟨0, rfl, Nat.zero_le _, Below.refl _ _, fun j hj => absurd hj (Nat.not_lt_zero _)⟩
    case round =>
      obtain ⟨k, rfl, hk, hB, hall⟩ := hrel
      have HALL := Lib.hid hall
      have HB := Lib.hid hB
      clear hall
      by_cases hlt : k < N
      · have hx1 : k < xs.length := by have := HN.out; omega
        have hx2 : k < ys.length := by have := HL.out; omega
        obtain ⟨ad1, rfl, r1⟩ := reads_at (Kd.C_below H1.out hB) (by intro e; rw [e] at hx1; simp at hx1)
        obtain ⟨ad2, rfl, r2⟩ := reads_at (Kd.C_below H2.out hB) (by intro e; rw [e] at hx2; simp at hx2)
        have e1 := r1 k hx1
        have e2 := r2 k hx2
        obtain ⟨x, hx⟩ : ∃ x, x = xs.getD k 0 := ⟨_, rfl⟩
        obtain ⟨y, hy⟩ : ∃ y, y = ys.getD k 0 := ⟨_, rfl⟩
        rw [← hx] at e1
        rw [← hy] at e2
        have HX := Lib.hid hx
        have HY := Lib.hid hy
        clear hx hy r1 r2 hB
        have hkb : k < 1073741824 := by omega
        by_cases hxy : x = y
        · go_wp2
          go_quiet (fail)
          go_wp2
          go_roundw
          case rel => exact ⟨k + 1, by go_num, hlt, below_drew2 HB.out _, fun j hj => by
            rcases Nat.lt_or_ge j k with h | h
            · exact HALL.out j h
            · obtain rfl : j = k := by omega
              rw [← HX.out, ← HY.out]; exact hxy⟩
          case measure => simp [intOf]; omega
        · go_wp2
          go_quiet (fail)
          go_wp2
          go_ret
          exact ⟨by rw [decide_eq_false (fun e => hxy (by rw [HX.out, HY.out, e]))]; rfl, below_drew2 HB.out _⟩
      · go_wp2
        go_ret
        exact ⟨by rw [decide_eq_true (eq_getD HL.out (fun j hj => HALL.out j (by have := HN.out; omega)))]; rfl, HB.out⟩
  · have hne : ((xs.length : Int) != (ys.length : Int)) = true := by simp; omega
    go_enter Tryd.func51, Tryd.ntmps51
    go_wp2
    go_ret
    exact ⟨by rw [decide_eq_false (fun e => hlen (by rw [e]))]; rfl, Below.refl _ _⟩
set_option maxHeartbeats 8000000 in
set_option maxRecDepth 100000 in
theorem same1 (a b : Nd) (Aa Ab : Option Addr) (ca cb : Nat) (w : World) (ha : (Kd.int .i64).C w Aa a.f2.length a.f2) (hb : (Kd.int .i64).C w Ab b.f2.length b.f2) (hl : a.f2.length ≤ 1073741824) (hl2 : b.f2.length ≤ 1073741824) :
    Calls Tryd.prog 50 #[.agg #[.int .i64 a.f0, .int .i64 a.f1, .slice Aa a.f2.length ca], .agg #[.int .i64 b.f0, .int .i64 b.f1, .slice Ab b.f2.length cb]] w fun e w' => e = .returned (.bool (decide (a = b))) ∧ Below w.heap.size w w' := by
  obtain ⟨a0, a1, al⟩ := a
  obtain ⟨b0, b1, bl⟩ := b
  simp only at ha hb hl hl2 ⊢
  have HA := Lib.hid ha
  have HBB := Lib.hid hb
  have HL1 := Lib.hid hl
  have HL2 := Lib.hid hl2
  clear ha hb hl hl2
  have hb1 : Below w.heap.size w ((w.alloc (.cells #[.int .i64 a0, .int .i64 a1, .slice Aa al.length ca] 60)).alloc (.cells #[.int .i64 b0, .int .i64 b1, .slice Ab bl.length cb] 60)) := ((Below.refl _ w).alloc (Nat.le_refl _) _).alloc (by simp) _
  have HB1 := Lib.hid hb1
  have hE := eqInts al bl Aa Ab ca cb _ (Kd.C_below HA.out hb1) (Kd.C_below HBB.out hb1) HL1.out HL2.out
  clear hb1
  by_cases h0 : a0 = b0
  · subst h0
    by_cases h1 : a1 = b1
    · subst h1
      have hd : decide ((⟨a0, a1, al⟩ : Nd) = ⟨a0, a1, bl⟩) = decide (al = bl) := by simp
      rw [hd]
      obtain ⟨r, hr⟩ : ∃ r, r = decide (al = bl) := ⟨_, rfl⟩
      rw [← hr] at hE ⊢
      clear hr hd
      cases r
      · go_enter Tryd.func50, Tryd.ntmps50
        go_wp2_with (go_at_call 51; refine hE.mono ?_; clear hE; rintro e w2 ⟨rfl, hb2⟩; have HB2 := Lib.hid hb2; clear hb2)
        go_ret
        exact ⟨rfl, HB1.out.trans (HB2.out.mono (by simp; omega))⟩
      · go_enter Tryd.func50, Tryd.ntmps50
        go_wp2_with (go_at_call 51; refine hE.mono ?_; clear hE; rintro e w2 ⟨rfl, hb2⟩; have HB2 := Lib.hid hb2; clear hb2)
        go_ret
        exact ⟨rfl, HB1.out.trans (HB2.out.mono (by simp; omega))⟩
    · have hd : decide ((⟨a0, a1, al⟩ : Nd) = ⟨a0, b1, bl⟩) = false := decide_eq_false (fun e => h1 (by injection e))
      rw [hd]
      clear hE hd
      go_enter Tryd.func50, Tryd.ntmps50
      go_wp2
      go_ret
      exact ⟨rfl, HB1.out⟩
  · have hd : decide ((⟨a0, a1, al⟩ : Nd) = ⟨b0, b1, bl⟩) = false := decide_eq_false (fun e => h0 (by injection e))
    rw [hd]
    clear hE hd
    go_enter Tryd.func50, Tryd.ntmps50
    go_wp2
    go_ret
    exact ⟨rfl, HB1.out⟩
end Go.Proofs.YtopbjginpmdebaaDoor.K
-- slices.EqualFunc
namespace Go.Proofs.YtopbjginpmdebaaDoor.K
open Go.RowKit Go.Maps Go.Proofs.YtopbjginpmdebaaDoorW.PrintWords Go.Proofs.YtopbjginpmdebaaDoorW.PrintLast Go.Proofs.YtopbjginpmdebaaDoorW.PrintMore
set_option linter.unusedVariables false
set_option linter.unusedSimpArgs false
theorem nths_eq {l r : List Nd} (hl : l.length = r.length) (h : ∀ j : Nat, j < l.length → nth l (j : Int) = nth r (j : Int)) : l = r := by
  apply List.ext_getElem hl
  intro i h1 h2
  have := h i h1
  rwa [nth_lt h1, nth_lt h2] at this
set_option maxHeartbeats 8000000 in
set_option maxRecDepth 100000 in
theorem eqf_calls (l r : List Nd) (Al Ar : Option Addr) (cl cr : Nat) (w : World) (h1 : k60.C w Al l.length l) (h2 : k60.C w Ar r.length r) (hc1 : l.length ≤ cl) (hc2 : r.length ≤ cr) (hL : l.length ≤ 4000000000000) (hR : r.length ≤ 4000000000000)
    (hI1 : ∀ n ∈ l, n.f2.length ≤ 1073741824) (hI2 : ∀ n ∈ r, n.f2.length ≤ 1073741824) :
    Calls Tryd.prog 52 #[.slice Al l.length cl, .slice Ar r.length cr, .func (.func 50) #[] #[]] w fun e w' => e = .returned (.bool (decide (l = r))) ∧ Below w.heap.size w w' := by
  have H1 := Lib.hid h1
  have H2 := Lib.hid h2
  have HI1 := Lib.hid hI1
  have HI2 := Lib.hid hI2
  clear h1 h2 hI1 hI2
  by_cases hlen : l.length = r.length
  · obtain ⟨N, hN⟩ : ∃ N, N = l.length := ⟨_, rfl⟩
    rw [← hlen, ← hN]
    rw [← hlen] at hc2
    rw [← hN] at hc1 hc2 hL
    have HN := Lib.hid hN
    have HL := Lib.hid hlen
    clear hN hlen hR
    go_enter Tryd.func52, Tryd.ntmps52
    go_wp2
    go_loopw [17] (fun i wr => ∃ k : Nat, i = .int .i64 k ∧ k ≤ N ∧ Below w.heap.size w wr ∧ ∀ j : Nat, j < k → nth l (j : Int) = nth r (j : Int)) (fun i _ => N - (intOf i).toNat)
    case atStart => exact ⟨0, rfl, Nat.zero_le _, Below.refl _ _, fun j hj => absurd hj (Nat.not_lt_zero _)⟩
    case round =>
      obtain ⟨k, rfl, hk, hB, hall⟩ := hrel
      have HALL := Lib.hid hall
      have HB := Lib.hid hB
      have hsz := hB.size
      clear hall
      by_cases hlt : k < N
      · have hx1 : k < l.length := by have := HN.out; omega
        have hx2 : k < r.length := by have := HL.out; omega
        obtain ⟨ad, A2, c2, rfl, d0, d1, d2, l2, g2⟩ := at_T60 (Kd.C_below H1.out hB) (k : Int) (by omega) (by omega)
        obtain ⟨bd, B2, b2, rfl, e0, e1, e2, m2, k2⟩ := at_T60 (Kd.C_below H2.out hB) (k : Int) (by omega) (by omega)
        rw [Int.toNat_natCast] at d0 d1 d2 e0 e1 e2
        rw [rd_nth] at d0 d1 d2 l2 g2 e0 e1 e2 m2 k2
        obtain ⟨n, hn⟩ : ∃ n, n = nth l (k : Int) := ⟨_, rfl⟩
        obtain ⟨m, hm⟩ : ∃ m, m = nth r (k : Int) := ⟨_, rfl⟩
        rw [← hn] at d0 d1 d2 l2 g2
        rw [← hm] at e0 e1 e2 m2 k2
        have hbl := World.block_lt_of_cell? _ _ e0
        have hn1 : n.f2.length ≤ 1073741824 := HI1.out n (by rw [hn, nth_lt hx1]; exact List.getElem_mem hx1)
        have hm1 : m.f2.length ≤ 1073741824 := HI2.out m (by rw [hm, nth_lt hx2]; exact List.getElem_mem hx2)
        have hb1 : Below wr.heap.size wr ((wr.alloc (.cells #[.int .i64 n.f0, .int .i64 n.f1, .slice A2 n.f2.length c2] 60)).alloc (.cells #[.int .i64 m.f0, .int .i64 m.f1, .slice B2 m.f2.length b2] 60)) := ((Below.refl _ wr).alloc (Nat.le_refl _) _).alloc (by simp) _
        have hS := same1 n m A2 B2 c2 b2 _ (Kd.C_below g2 hb1) (Kd.C_below k2 hb1) hn1 hm1
        have HB1 := Lib.hid hb1
        have HX := Lib.hid hn
        have HY := Lib.hid hm
        have hkb : k < 4000000000000 := by omega
        clear hb1 hn hm g2 k2 hB
        by_cases hnm : n = m
        · rw [decide_eq_true hnm] at hS
          have HNM := Lib.hid hnm
          clear hnm
          go_wp2_with (go_at_call 50; refine hS.mono ?_; clear hS; rintro e w2 ⟨rfl, hb2⟩; have HB2 := Lib.hid hb2; clear hb2)
          go_roundw
          case rel => exact ⟨k + 1, by go_num, hlt, HB.out.trans ((HB1.out.trans (HB2.out.mono (by simp; omega))).mono hsz), fun j hj => by
            rcases Nat.lt_or_ge j k with h | h
            · exact HALL.out j h
            · obtain rfl : j = k := by omega
              rw [← HX.out, ← HY.out]; exact HNM.out⟩
          case measure => simp [intOf]; omega
        · rw [decide_eq_false hnm] at hS
          have HNM := Lib.hid hnm
          clear hnm
          go_wp2_with (go_at_call 50; refine hS.mono ?_; clear hS; rintro e w2 ⟨rfl, hb2⟩; have HB2 := Lib.hid hb2; clear hb2)
          go_ret
          exact ⟨by rw [decide_eq_false (fun e => HNM.out (by rw [HX.out, HY.out, e]))]; rfl, HB.out.trans ((HB1.out.trans (HB2.out.mono (by simp; omega))).mono hsz)⟩
      · go_wp2
        go_ret
        exact ⟨by rw [decide_eq_true (nths_eq HL.out (fun j hj => HALL.out j (by have := HN.out; omega)))]; rfl, HB.out⟩
  · have hne : ((l.length : Int) != (r.length : Int)) = true := by simp; omega
    go_enter Tryd.func52, Tryd.ntmps52
    go_wp2
    go_ret
    exact ⟨by rw [decide_eq_false (fun e => hlen (by rw [e]))]; rfl, Below.refl _ _⟩
end Go.Proofs.YtopbjginpmdebaaDoor.K
-- diagram.Validate
namespace Go.Proofs.YtopbjginpmdebaaDoor.K
open Go.RowKit Go.Maps Go.Proofs.YtopbjginpmdebaaDoorW.PrintWords Go.Proofs.YtopbjginpmdebaaDoorW.PrintLast Go.Proofs.YtopbjginpmdebaaDoorW.PrintMore
set_option linter.unusedVariables false
set_option linter.unusedSimpArgs false
/-- Validate -/
def valE (nodes : List Nd) : Int := if redE nodes = 0 then (if cn nodes = nodes then 0 else 2) else redE nodes
theorem redL_kids {nodes : List Nd} : (redL nodes).length ≤ 20000 := by
  unfold redL
  split
  · rename_i h
    unfold redE at h
    split at h
    · split at h
      · assumption
      · cases h
    · cases h
  · simp
set_option maxHeartbeats 8000000 in
set_option maxRecDepth 100000 in
theorem validate_calls (nodes : List Nd) (A : Option Addr) (c : Nat) (w : World)
    (hC : k60.C w A nodes.length nodes) (hc : nodes.length ≤ c) (hI : ∀ n ∈ nodes, I64 n.f0 ∧ I64 n.f1 ∧ n.f2.length ≤ 1073741824) (hroom : (nodes.length + 1) * 40 ≤ 140737488355328) (htab : PowTab w.heap.size w) (hk : ∀ n ∈ redL nodes, n.f2.length ≤ 1073741824) :
    Calls Tryd.prog 21 #[.agg #[.slice A nodes.length c]] w fun e w' => e = .returned (.int .i64 (valE nodes)) ∧ Below w.heap.size w w' := by
  have HI := Lib.hid hI
  have HC := Lib.hid hC
  have HK := Lib.hid hk
  have HRM := Lib.hid hroom
  have hb0 : Below w.heap.size w (w.alloc (.cells #[.slice A nodes.length c] 31)) := (Below.refl _ w).alloc (Nat.le_refl _) _
  have hR := reduce_calls nodes A c (w.alloc (.cells #[.slice A nodes.length c] 31)) (Kd.C_below hC hb0) hc hI hroom (PowTab.up (htab.on hb0) hb0.size)
  have hbx0 := heap_alloc_new w (.cells #[.slice A nodes.length c] 31)
  obtain ⟨N, hN⟩ : ∃ N, N = nodes.length := ⟨_, rfl⟩
  rw [← hN] at hR hc hb0 hbx0 ⊢
  have HB0 := Lib.hid hb0
  have HBX0 := Lib.hid hbx0
  clear hbx0
  have HN := Lib.hid hN
  clear hI hC hk hroom htab hb0 hN
  by_cases h0 : redE nodes = 0
  · have hv : valE nodes = if cn nodes = nodes then 0 else 2 := by unfold valE; rw [if_pos h0]
    have hl : redL nodes = cn nodes := by unfold redL; rw [if_pos h0]
    have hlen : (cn nodes).length ≤ 20000 := by rw [← hl]; exact redL_kids
    rw [h0, hl] at hR
    rw [hl] at HK
    have HLEN := Lib.hid hlen
    clear hl hlen h0
    obtain ⟨L, hL⟩ : ∃ L, L = cn nodes := ⟨_, rfl⟩
    rw [← hL] at hR HK hv HLEN
    clear hL
    by_cases hq : L = nodes
    · rw [hv, if_pos hq]
      have hqb : decide (L = nodes) = true := decide_eq_true hq
      have HQ := Lib.hid hqb
      clear hv hq hqb
      go_enter Tryd.func21, Tryd.ntmps21
      go_wp2_with (first
        | (go_at_call 19; refine hR.mono ?_; clear hR; rintro e w2 ⟨hb2, vo, rfl, hRo⟩; obtain ⟨A5, c5, rfl, hc5, hC5⟩ := Kd.R_reads hRo; have HB2 := Lib.hid hb2; have hbx2 := (hb2.block w.heap.size (by simp)).trans HBX0.out; have b0 := blk_cell hbx2 0; have hlt := blk_lt hbx2; clear hbx2; have HC5 := Lib.hid hC5; have hs2 := hb2.size; clear hb2 hC5 hRo)
        | (go_at_call 52; have hb3 := (Below.refl w2.heap.size w2).alloc (Nat.le_refl _) (.cells #[.slice A5 L.length c5] 31); have hA := eqf_calls L nodes A5 A c5 c _ (Kd.C_below HC5.out hb3) (Kd.C_below HC.out ((HB0.out.trans (HB2.out.mono (show w.heap.size ≤ (w.alloc (.cells #[.slice A N c] 31)).heap.size by simp))).trans (hb3.mono (by simp at hs2; omega)))) hc5 (by rw [← HN.out]; exact hc) (by have := HLEN.out; omega) (by have := HRM.out; omega) HK.out (fun n hn => (HI.out n hn).2.2); rw [HQ.out, ← HN.out] at hA; refine hA.mono ?_; clear hA; rintro e w4 ⟨rfl, hb4⟩; have HBF := Lib.hid (((HB0.out.trans (HB2.out.mono (show w.heap.size ≤ (w.alloc (.cells #[.slice A N c] 31)).heap.size by simp))).trans (hb3.mono (by simp at hs2; omega))).trans (hb4.mono (by simp at hs2; simp; omega))); clear hb3 hb4))
      go_ret
      exact ⟨rfl, HBF.out⟩
    · rw [hv, if_neg hq]
      have hqb : decide (L = nodes) = false := decide_eq_false hq
      have HQ := Lib.hid hqb
      clear hv hq hqb
      go_enter Tryd.func21, Tryd.ntmps21
      go_wp2_with (first
        | (go_at_call 19; refine hR.mono ?_; clear hR; rintro e w2 ⟨hb2, vo, rfl, hRo⟩; obtain ⟨A5, c5, rfl, hc5, hC5⟩ := Kd.R_reads hRo; have HB2 := Lib.hid hb2; have hbx2 := (hb2.block w.heap.size (by simp)).trans HBX0.out; have b0 := blk_cell hbx2 0; have hlt := blk_lt hbx2; clear hbx2; have HC5 := Lib.hid hC5; have hs2 := hb2.size; clear hb2 hC5 hRo)
        | (go_at_call 52; have hb3 := (Below.refl w2.heap.size w2).alloc (Nat.le_refl _) (.cells #[.slice A5 L.length c5] 31); have hA := eqf_calls L nodes A5 A c5 c _ (Kd.C_below HC5.out hb3) (Kd.C_below HC.out ((HB0.out.trans (HB2.out.mono (show w.heap.size ≤ (w.alloc (.cells #[.slice A N c] 31)).heap.size by simp))).trans (hb3.mono (by simp at hs2; omega)))) hc5 (by rw [← HN.out]; exact hc) (by have := HLEN.out; omega) (by have := HRM.out; omega) HK.out (fun n hn => (HI.out n hn).2.2); rw [HQ.out, ← HN.out] at hA; refine hA.mono ?_; clear hA; rintro e w4 ⟨rfl, hb4⟩; have HBF := Lib.hid (((HB0.out.trans (HB2.out.mono (show w.heap.size ≤ (w.alloc (.cells #[.slice A N c] 31)).heap.size by simp))).trans (hb3.mono (by simp at hs2; omega))).trans (hb4.mono (by simp at hs2; simp; omega))); clear hb3 hb4))
      go_ret
      exact ⟨rfl, HBF.out⟩
  · have hv : valE nodes = redE nodes := by unfold valE; rw [if_neg h0]
    rw [hv]
    obtain ⟨er, her⟩ : ∃ er, er = redE nodes := ⟨_, rfl⟩
    rw [← her] at hR h0 ⊢
    clear her hv
    go_enter Tryd.func21, Tryd.ntmps21
    go_wp2_with (go_at_call 19; refine hR.mono ?_; clear hR; rintro e w2 ⟨hb2, vo, rfl, hRo⟩; obtain ⟨A5, c5, rfl⟩ := Kd.R_slice hRo; have HB2 := Lib.hid hb2; clear hb2)
    go_ret
    exact ⟨rfl, ((HB0.out.trans (HB2.out.mono (show w.heap.size ≤ (w.alloc (.cells #[.slice A N c] 31)).heap.size by simp))).alloc (by have := HB2.out.size; simp at this; omega) _)⟩
end Go.Proofs.YtopbjginpmdebaaDoor.K
-- the canonical nodes keep the number of kids
namespace Go.Proofs.YtopbjginpmdebaaDoor.K
open Go.RowKit Go.Maps Go.Proofs.YtopbjginpmdebaaDoorW.PrintWords Go.Proofs.YtopbjginpmdebaaDoorW.PrintLast Go.Proofs.YtopbjginpmdebaaDoorW.PrintMore
set_option linter.unusedVariables false
set_option linter.unusedSimpArgs false
theorem nth_kids {m : Nat} {u : List Nd} (hu : ∀ x ∈ u, x.f2.length ≤ m) (i : Int) : (nth u i).f2.length ≤ m := by
  unfold nth
  by_cases h : i.toNat < u.length
  · rw [List.getD_eq_getElem?_getD, List.getElem?_eq_getElem h]
    exact hu _ (List.getElem_mem h)
  · rw [List.getD_eq_getElem?_getD, List.getElem?_eq_none (by omega)]
    simp
theorem fin_kids {m : Nat} {u : List Nd} (hu : ∀ x ∈ u, x.f2.length ≤ m) (i : Int) (s : St) (hs : ∀ x ∈ s.2, x.f2.length ≤ m) : ∀ x ∈ (fin u i s).2, x.f2.length ≤ m := by
  intro x hx
  unfold fin at hx
  rcases List.mem_append.1 hx with h | h
  · exact hs x h
  · rw [List.mem_singleton.1 h]
    show (mp s.1 (nth u i).f2).length ≤ m
    unfold mp
    rw [List.length_map]
    exact nth_kids hu i
theorem foldl_keeps {α : Type} (P : St → Prop) (f : St → α → St) (hf : ∀ s x, P s → P (f s x)) : ∀ (l : List α) (s : St), P s → P (l.foldl f s)
  | [], _, h => h
  | x :: l, s, h => foldl_keeps P f hf l _ (hf s x h)
theorem dfs_kids {m : Nat} {u : List Nd} (hu : ∀ x ∈ u, x.f2.length ≤ m) : ∀ (d : Nat) (i : Int) (s : St), (∀ x ∈ s.2, x.f2.length ≤ m) → ∀ x ∈ (dfs u d i s).2, x.f2.length ≤ m
  | 0, _, _, h => h
  | d + 1, i, s, h => by
    simp only [dfs]
    split
    · exact h
    · exact fin_kids hu i _ (foldl_keeps (fun s => ∀ x ∈ s.2, x.f2.length ≤ m) _ (fun s c hs => dfs_kids hu d c s hs) _ s h)
theorem cn_kids {nodes : List Nd} (h : grB nodes = true) : ∀ x ∈ cn nodes, x.f2.length ≤ 16 := by
  unfold cn expo
  exact dfs_kids (imp_kids nodes [] [] (by simp) (gr_kids h)) _ _ _ (by simp)
theorem redL_kids16 (nodes : List Nd) : ∀ x ∈ redL nodes, x.f2.length ≤ 16 := by
  unfold redL
  split
  · rename_i h
    by_cases hg : grB nodes = true
    · exact cn_kids hg
    · unfold redE at h
      rw [if_neg hg] at h
      cases h
  · simp
/-- what Eval gives from node i on -/
def evK (nodes : List Nd) (o : List Int) : Nat → Int → Int × Int
  | 0, _ => (0, 0)
  | f + 1, i => if (nth nodes i).f0 < 0 then ((nth nodes i).f1, 0) else
      if (o.length : Int) ≤ (nth nodes i).f0 ∨ rd o (nth nodes i).f0 < 0 ∨ ((nth nodes i).f2.length : Int) ≤ rd o (nth nodes i).f0 then (0, 1) else evK nodes o f (rd (nth nodes i).f2 (rd o (nth nodes i).f0))
end Go.Proofs.YtopbjginpmdebaaDoor.K
-- diagram.Eval
namespace Go.Proofs.YtopbjginpmdebaaDoor.K
open Go.RowKit Go.Maps Go.Proofs.YtopbjginpmdebaaDoorW.PrintWords Go.Proofs.YtopbjginpmdebaaDoorW.PrintLast Go.Proofs.YtopbjginpmdebaaDoorW.PrintMore
set_option linter.unusedVariables false
set_option linter.unusedSimpArgs false
/-- Eval -/
def evR (nodes : List Nd) (o : List Int) : Int × Int := if valE nodes = 0 then evK nodes o (nodes.length + 1) ((nodes.length - 1 : Nat) : Int) else (0, valE nodes)
/-- Eval's loop: n holds node i -/
structure EvSt (w w2 W : World) (nodes : List Nd) (i : Nat) : Prop where
  below : Below w.heap.size w W
  below2 : Below w2.heap.size w2 W
  node : ∃ A2 c2, W.heap[w2.heap.size]? = some (.cells #[.int .i64 (nth nodes (i : Int)).f0, .int .i64 (nth nodes (i : Int)).f1, .slice A2 (nth nodes (i : Int)).f2.length c2] 60 (0, 0)) ∧ (nth nodes (i : Int)).f2.length ≤ c2 ∧ (Kd.int .i64).C W A2 (nth nodes (i : Int)).f2.length (nth nodes (i : Int)).f2
set_option maxHeartbeats 8000000 in
set_option maxRecDepth 100000 in
theorem eval_calls (nodes : List Nd) (o : List Int) (A Ao : Option Addr) (c co : Nat) (w : World)
    (hC : k60.C w A nodes.length nodes) (hc : nodes.length ≤ c) (hI : ∀ n ∈ nodes, I64 n.f0 ∧ I64 n.f1 ∧ n.f2.length ≤ 1073741824) (hroom : (nodes.length + 1) * 40 ≤ 140737488355328) (htab : PowTab w.heap.size w)
    (hO : (Kd.int .i64).C w Ao o.length o) (ho : o.length ≤ 17592186044000) :
    Calls Tryd.prog 26 #[.agg #[.slice A nodes.length c], .slice Ao o.length co] w fun e w' => e = .returned (.tuple #[.int .i64 (evR nodes o).1, .int .i64 (evR nodes o).2]) ∧ Below w.heap.size w w' := by
  have HO := Lib.hid hO
  have HI := Lib.hid hI
  have HC := Lib.hid hC
  have hb0 : Below w.heap.size w (w.alloc (.cells #[.slice A nodes.length c] 31)) := (Below.refl _ w).alloc (Nat.le_refl _) _
  have hV := validate_calls nodes A c (w.alloc (.cells #[.slice A nodes.length c] 31)) (Kd.C_below hC hb0) hc hI hroom (PowTab.up (htab.on hb0) hb0.size) (fun n hn => Nat.le_trans (redL_kids16 nodes n hn) (by decide))
  have hbx0 := heap_alloc_new w (.cells #[.slice A nodes.length c] 31)
  obtain ⟨N, hN⟩ : ∃ N, N = nodes.length := ⟨_, rfl⟩
  rw [← hN] at hV hc hb0 hbx0 ⊢
  have HB0 := Lib.hid hb0
  have HBX0 := Lib.hid hbx0
  have HN := Lib.hid hN
  have HRM := Lib.hid hroom
  clear hI hC hO hroom htab hb0 hbx0 hN
  by_cases h0 : valE nodes = 0
  · have hv : evR nodes o = evK nodes o (nodes.length + 1) ((nodes.length - 1 : Nat) : Int) := by unfold evR; rw [if_pos h0]
    rw [h0] at hV
    have hre : redE nodes = 0 := by
      by_cases h1 : redE nodes = 0
      · exact h1
      · unfold valE at h0; rw [if_neg h1] at h0; exact absurd h0 h1
    have hgr : grB nodes = true := by
      by_cases h1 : grB nodes = true
      · exact h1
      · unfold redE at hre; rw [if_neg h1] at hre; cases hre
    rw [hv]
    obtain ⟨M, hM⟩ : ∃ M, nodes.length = M + 1 := ⟨nodes.length - 1, by have := gr_pos hgr; omega⟩
    have hNM : N = M + 1 := HN.out.trans hM
    subst hNM
    have hMl : nodes.length - 1 = M := by omega
    rw [hMl, hM]
    have HGR := Lib.hid hgr
    have HM := Lib.hid hM
    have hMb : M < 4000000000000 := by have := HRM.out; omega
    clear hv h0 hre hgr hM hMl
    go_enter Tryd.func26, Tryd.ntmps26
    go_wp2_with (go_at_call 21; refine hV.mono ?_; clear hV; rintro e w2 ⟨rfl, hb2⟩; have HB2 := Lib.hid (HB0.out.trans (hb2.mono (show w.heap.size ≤ (w.alloc (.cells #[.slice A (M + 1) c] 31)).heap.size by simp))); have hbx2 := (hb2.block w.heap.size (by simp)).trans HBX0.out; have b0 := blk_cell hbx2 0; have hlt := blk_lt hbx2; have HBX2 := Lib.hid hbx2; clear hbx2 hb2; obtain ⟨ad, A2, c2, rfl, d0, d1, d2, l2, g2⟩ := at_T60 (Kd.C_below HC.out HB2.out) (M : Int) (by omega) (by have := HM.out; omega); rw [Int.toNat_natCast] at d0 d1 d2; rw [rd_nth] at d0 d1 d2 l2 g2; have hadl := World.block_lt_of_cell? _ _ d0; have HG2 := Lib.hid g2; clear g2)
    have hst0 : ∀ X : World, X = w2.alloc (.cells #[.int .i64 (nth nodes (M : Int)).f0, .int .i64 (nth nodes (M : Int)).f1, .slice A2 (nth nodes (M : Int)).f2.length c2] 60) → EvSt w w2 X nodes M := by
      rintro X rfl
      exact ⟨HB2.out.alloc (Nat.le_of_lt hlt) _, (Below.refl _ w2).alloc (Nat.le_refl _) _, ⟨A2, c2, heap_alloc_new w2 _, l2, Kd.C_below HG2.out ((Below.refl _ w2).alloc (Nat.le_refl _) _)⟩⟩
    have H0 := Lib.hid hst0
    clear hst0
    go_loopg [21] (M + 1 + 1) (fun q s21 wr => ∃ i : Nat, i < q ∧ i < M + 1 ∧ Aside0 (evK nodes o q (i : Int) = evK nodes o (M + 1 + 1) (M : Int)) ∧ EvSt w w2 wr nodes i)
    case atStart => exact ⟨M, by omega, by omega, ⟨rfl⟩, H0.out _ rfl⟩
    case round =>
      obtain ⟨i, hiq, hiN, hev, hst⟩ := hrel
      obtain ⟨q, rfl⟩ : ∃ q, gk = q + 1 := ⟨gk - 1, by omega⟩
      obtain ⟨A3, c3, hbn, l3, g3⟩ := hst.node
      obtain ⟨n, hn⟩ : ∃ n, n = nth nodes (i : Int) := ⟨_, rfl⟩
      rw [← hn] at hbn l3 g3
      have n0 : wr.cell? ⟨w2.heap.size, 0, none⟩ = some (.int .i64 n.f0) := (blk_cell hbn 0).trans rfl
      have n1 : wr.cell? ⟨w2.heap.size, 1, none⟩ = some (.int .i64 n.f1) := (blk_cell hbn 1).trans rfl
      have n2 : wr.cell? ⟨w2.heap.size, 2, none⟩ = some (.slice A3 n.f2.length c3) := (blk_cell hbn 2).trans rfl
      have HEV := Lib.hid hev.out
      have HST := Lib.hid hst
      have HNI := Lib.hid hn
      have HBN := Lib.hid hbn
      have HG3 := Lib.hid g3
      clear hev hst hn hbn g3 d0 d1 d2
      by_cases h0 : n.f0 < 0
      · go_wp2
        refine bodyPost_ret (v := .tuple #[.int .i64 n.f1, .int .i64 0]) (by simp [results, Tryd.f26, go_sem]) rfl ⟨?_, HST.out.below⟩
        rw [← HEV.out]
        simp only [evK]
        rw [← HNI.out, if_pos (by omega)]
      · by_cases h1 : (o.length : Int) ≤ n.f0
        · go_wp2
          go_quiet (fail)
          go_wp2
          refine bodyPost_ret (v := .tuple #[.int .i64 0, .int .i64 1]) (by simp [results, Tryd.f26, go_sem]) rfl ⟨?_, below_drew2 HST.out.below _⟩
          rw [← HEV.out]
          simp only [evK]
          rw [← HNI.out, if_neg (by omega), if_pos (by omega)]
        · obtain ⟨fN, hfN⟩ : ∃ fN : Nat, n.f0 = fN := ⟨n.f0.toNat, by omega⟩
          have hfo : fN < o.length := by omega
          have hfoi : (fN : Int) < (o.length : Int) := by omega
          obtain ⟨ao, rfl, ro⟩ := reads_at (Kd.C_below HO.out HST.out.below) (by intro e; rw [e] at hfo; simp at hfo)
          have e0 := ro fN hfo
          obtain ⟨x, hx⟩ : ∃ x, x = o.getD fN 0 := ⟨_, rfl⟩
          rw [← hx] at e0
          have hrd : rd o n.f0 = x := by rw [hfN, hx]; unfold rd; rw [Int.toNat_natCast]
          have HRD := Lib.hid hrd
          replace n0 : wr.cell? ⟨w2.heap.size, 0, none⟩ = some (.int .i64 (fN : Int)) := by rw [n0, hfN]
          have HFN := Lib.hid hfN
          have hfb : fN < 17592186044000 := by omega
          clear hrd hx hfN ro h0 h1
          by_cases h2 : x < 0
          · have q1 : decide (o.length ≤ fN) = false := by simp; omega
            have q2 : decide (x < 0) = true := decide_eq_true h2
            have q3 : (decide (o.length ≤ fN) || decide (x < 0)) = true := by rw [q2]; simp
            go_wp2
            go_quiet (fail)
            go_wp2
            refine bodyPost_ret (v := .tuple #[.int .i64 0, .int .i64 1]) (by simp [results, Tryd.f26, go_sem]) rfl ⟨?_, below_drew2 HST.out.below _⟩
            rw [← HEV.out]
            simp only [evK]
            rw [← HNI.out, if_neg (by rw [HFN.out]; omega), if_pos (by rw [HRD.out]; omega)]
          · by_cases h3 : (n.f2.length : Int) ≤ x
            · go_wp2
              go_quiet (fail)
              go_wp2
              refine bodyPost_ret (v := .tuple #[.int .i64 0, .int .i64 1]) (by simp [results, Tryd.f26, go_sem]) rfl ⟨?_, below_drew2 HST.out.below _⟩
              rw [← HEV.out]
              simp only [evK]
              rw [← HNI.out, if_neg (by rw [HFN.out]; omega), if_pos (by rw [HRD.out]; omega)]
            · obtain ⟨xN, rfl⟩ : ∃ xN : Nat, x = xN := ⟨x.toNat, by omega⟩
              have hxl : xN < n.f2.length := by omega
              obtain ⟨a3, rfl, r3⟩ := reads_at HG3.out (by intro e; rw [e] at hxl; simp at hxl)
              have e3 := r3 xN hxl
              have hmem : n.f2.getD xN 0 ∈ n.f2 := by rw [List.getD_eq_getElem?_getD, List.getElem?_eq_getElem hxl]; exact List.getElem_mem hxl
              have hdn := (gr_fit HGR.out).1 i (by have := HM.out; omega) (n.f2.getD xN 0) (by rw [← HNI.out]; exact hmem)
              obtain ⟨kN, hkN⟩ : ∃ kN : Nat, n.f2.getD xN 0 = kN := ⟨(n.f2.getD xN 0).toNat, by omega⟩
              rw [hkN] at e3 hdn
              have HKN := Lib.hid hkN
              obtain ⟨ad4, A4, c4, had4, d0, d1, d2, l4, g4⟩ := at_T60 HC.out (kN : Int) (by omega) (by have := HM.out; omega)
              injection had4 with had4
              subst had4
              rw [Int.toNat_natCast] at d0 d1 d2
              rw [rd_nth] at d0 d1 d2 l4 g4
              obtain ⟨m, hm⟩ : ∃ m, m = nth nodes (kN : Int) := ⟨_, rfl⟩
              rw [← hm] at d0 d1 d2 l4 g4
              replace d0 := pw_cell_below HST.out.below d0
              replace d1 := pw_cell_below HST.out.below d1
              replace d2 := pw_cell_below HST.out.below d2
              have HMM := Lib.hid hm
              have HG4 := Lib.hid g4
              have hkM : (kN : Int) < (M : Int) + 1 := by omega
              have hkb : kN < 4000000000000 := by omega
              have hxli : (xN : Int) < (n.f2.length : Int) := by omega
              have hkq : kN < q := by omega
              clear hm g4 hdn hmem r3
              go_wp2
              go_quiet (fail)
              have q1 : decide (o.length ≤ fN) = false := by simp; omega
              have q2 : decide ((xN : Int) < 0) = false := by simp
              have q3 : decide (n.f2.length ≤ xN) = false := by simp; omega
              obtain ⟨w3, hw3⟩ : ∃ w3, w3 = wr.drewN nq := ⟨_, rfl⟩
              rw [← hw3]
              have hb3 : Below wr.heap.size wr w3 := by rw [hw3]; exact below_drew2 (Below.refl _ wr) nq
              have hbx3 := (hb3.block _ (by have := HST.out.below2.size; omega)).trans ((HST.out.below2.block _ hlt).trans HBX2.out)
              have b3 : w3.cell? ⟨w.heap.size, 0, none⟩ = some (.slice (some ad) (M + 1) c) := (blk_cell hbx3 0).trans rfl
              replace n0 := pw_cell_below hb3 n0
              replace n1 := pw_cell_below hb3 n1
              replace n2 := pw_cell_below hb3 n2
              replace e0 := pw_cell_below hb3 e0
              replace e3 := pw_cell_below hb3 e3
              replace d0 := pw_cell_below hb3 d0
              replace d1 := pw_cell_below hb3 d1
              replace d2 := pw_cell_below hb3 d2
              have hbn3 := (hb3.block _ (blk_lt HBN.out)).trans HBN.out
              have f7 := blk_frozen hbn3 0
              have f71 := blk_frozen hbn3 1
              have f72 := blk_frozen hbn3 2
              have HBX3 := Lib.hid hbx3
              have HBN3 := Lib.hid hbn3
              have HB3 := Lib.hid hb3
              clear hw3 hb3 hbx3 hbn3 b0
              go_upto_region 8 with (fail)
              go_still_tail 13, (by kernel_rfl)
              change wpList _ _ _ _ _ w3.drew
              go_wp2
              go_roundg q
              case measure => omega
              case rel =>
                have hwm : w.heap.size ≤ w2.heap.size := by omega
                have hbF := ((((HST.out.below.trans (HB3.out.mono (HST.out.below.size))).setCell (p := ⟨w2.heap.size, 0, none⟩) hwm (.int .i64 m.f0)).setCell (p := ⟨w2.heap.size, 1, none⟩) hwm (.int .i64 m.f1)).setCell (p := ⟨w2.heap.size, 2, none⟩) hwm (.slice A4 m.f2.length c4)).drew
                refine ⟨kN, hkq, by omega, ⟨?_⟩, ⟨?_, ?_, A4, c4, ?_, ?_, ?_⟩⟩
                · rw [← HEV.out]
                  conv => rhs; simp only [evK]
                  rw [← HNI.out, if_neg (by rw [HFN.out]; omega), if_neg (by rw [HFN.out] at *; rw [← HFN.out, HRD.out]; omega), HRD.out]
                  congr 1
                  unfold rd
                  rw [Int.toNat_natCast, HKN.out]
                · exact hbF
                · exact ((((HST.out.below2.trans (HB3.out.mono (HST.out.below2.size))).setCell (p := ⟨w2.heap.size, 0, none⟩) (Nat.le_refl _) _).setCell (p := ⟨w2.heap.size, 1, none⟩) (Nat.le_refl _) _).setCell (p := ⟨w2.heap.size, 2, none⟩) (Nat.le_refl _) _).drew
                · rw [← HMM.out]
                  exact blk_set (blk_set (blk_set HBN3.out 0 _) 1 _) 2 _
                · rw [← HMM.out]; exact l4
                · rw [← HMM.out]
                  exact Kd.C_below HG4.out hbF
  · have hv : evR nodes o = (0, valE nodes) := by unfold evR; rw [if_neg h0]
    rw [hv]
    obtain ⟨er, her⟩ : ∃ er, er = valE nodes := ⟨_, rfl⟩
    rw [← her] at hV h0 ⊢
    clear her hv
    go_enter Tryd.func26, Tryd.ntmps26
    go_wp2_with (go_at_call 21; refine hV.mono ?_; clear hV; rintro e w2 ⟨rfl, hb2⟩; have HB2 := Lib.hid hb2; clear hb2)
    refine bodyPost_ret (v := .tuple #[.int .i64 0, .int .i64 er]) (by simp [results, Tryd.f26, go_sem]) rfl ⟨rfl, HB0.out.trans (HB2.out.mono (show w.heap.size ≤ (w.alloc (.cells #[.slice A N c] 31)).heap.size by simp))⟩
end Go.Proofs.YtopbjginpmdebaaDoor.K
-- exactppllaw19.awake
namespace Go.Proofs.YtopbjginpmdebaaDoor.K
open Go.RowKit Go.Maps Go.Proofs.YtopbjginpmdebaaDoorW.PrintWords Go.Proofs.YtopbjginpmdebaaDoorW.PrintLast Go.Proofs.YtopbjginpmdebaaDoorW.PrintMore
set_option linter.unusedVariables false
set_option linter.unusedSimpArgs false
theorem ints_C {W : World} {b : Nat} {xs : List Int} {cs : Array Value} (h : W.heap[b]? = some (.cells cs 3 (0, 0))) (hl : xs.length ≤ 1073741824) (hcs : ∀ j, j < xs.length → cs[j]? = some (.int .i64 (xs.getD j 0))) : (Kd.int .i64).C W (some ⟨b, 0, none⟩) xs.length xs := by
  refine ⟨rfl, by omega, fun _ => ⟨_, rfl, fun j p hp => ⟨[.int .i64 p], rfl, rfl, fun i u hi => ?_⟩⟩⟩
  have hj : j < xs.length := by
    rcases Nat.lt_or_ge j xs.length with h1 | h1
    · exact h1
    · rw [List.getElem?_eq_none h1] at hp; cases hp
  have hi0 : i = 0 := by
    rcases i with _ | i
    · rfl
    · simp at hi
  subst hi0
  have hu : u = .int .i64 p := by simpa using hi.symm
  subst hu
  have h1 := blk_cell h j
  rw [hcs j hj] at h1
  rw [List.getD_eq_getElem?_getD, hp] at h1
  have e : (Addr.add ⟨b, 0, none⟩ (j * 1 + 0)) = ⟨b, j, none⟩ := by simp [Addr.add]; intro h; simp [h]
  show W.cell? (Addr.add ⟨b, 0, none⟩ (j * 1 + 0)) = _
  rw [e, h1]; rfl
theorem nodes_C {W : World} {b : Nat} {xs : List Nd} {cs : Array Value} (h : W.heap[b]? = some (.cells cs 60 (0, 0))) (hl : xs.length ≤ 1073741824)
    (hx : ∀ j p, xs[j]? = some p → ∃ A c, cs[j * 3]? = some (.int .i64 p.f0) ∧ cs[j * 3 + 1]? = some (.int .i64 p.f1) ∧ cs[j * 3 + 2]? = some (.slice A p.f2.length c) ∧ p.f2.length ≤ c ∧ (Kd.int .i64).C W A p.f2.length p.f2) : k60.C W (some ⟨b, 0, none⟩) xs.length xs := by
  refine ⟨rfl, by omega, fun _ => ⟨_, rfl, fun j p hp => ?_⟩⟩
  obtain ⟨A, c, c0, c1, c2, l2, g2⟩ := hx j p hp
  refine ⟨_, rfl, k60_mk W p l2 g2, fun i u hi => ?_⟩
  have h1 := blk_cell h (j * 3 + i)
  have e : ∀ n, (Addr.add ⟨b, 0, none⟩ n) = ⟨b, n, none⟩ := fun n => by simp [Addr.add]; intro h; simp [h]
  show W.cell? (Addr.add ⟨b, 0, none⟩ (j * 3 + i)) = some u
  rw [e, h1]
  rcases i with _ | _ | _ | i
  · rw [← hi]; exact c0
  · rw [← hi]; exact c1
  · rw [← hi]; exact c2
  · simp at hi
/-- awake's list -/
def awL : List Nd := [⟨-1, 0, []⟩, ⟨-1, 1, []⟩, ⟨2, 0, [1, 1]⟩, ⟨0, 0, [0, 2]⟩]
def awM : List Nd := [⟨-1, 0, []⟩, ⟨-1, 1, []⟩, ⟨0, 0, [0, 1]⟩]
theorem aw_red : redE awL = 0 := by kernel_rfl
theorem aw_redL : redL awL = awM := by kernel_rfl
theorem aw_ev : evR awM [1] = (1, 0) := by kernel_rfl
theorem aw_C {W : World} {b k1 k2 : Nat} (h : W.heap[b]? = some (.cells #[.int .i64 (-1), .int .i64 0, .slice none 0 0, .int .i64 (-1), .int .i64 1, .slice none 0 0, .int .i64 2, .int .i64 0, .slice (some ⟨k1, 0, none⟩) 2 2, .int .i64 0, .int .i64 0, .slice (some ⟨k2, 0, none⟩) 2 2] 60 (0, 0)))
    (h1 : W.heap[k1]? = some (.cells #[.int .i64 1, .int .i64 1] 3 (0, 0))) (h2 : W.heap[k2]? = some (.cells #[.int .i64 0, .int .i64 2] 3 (0, 0))) : k60.C W (some ⟨b, 0, none⟩) 4 awL := by
  refine nodes_C (xs := awL) h (by decide) fun j p hp => ?_
  rcases j with _ | _ | _ | _ | j
  · obtain rfl : (⟨-1, 0, []⟩ : Nd) = p := by simpa [awL] using hp
    exact ⟨none, 0, rfl, rfl, rfl, Nat.le_refl _, Kd.C_nil _ _⟩
  · obtain rfl : (⟨-1, 1, []⟩ : Nd) = p := by simpa [awL] using hp
    exact ⟨none, 0, rfl, rfl, rfl, Nat.le_refl _, Kd.C_nil _ _⟩
  · obtain rfl : (⟨2, 0, [1, 1]⟩ : Nd) = p := by simpa [awL] using hp
    exact ⟨_, 2, rfl, rfl, rfl, Nat.le_refl _, ints_C h1 (by decide) (fun j hj => by rcases j with _ | _ | j; rfl; rfl; simp at hj; omega)⟩
  · obtain rfl : (⟨0, 0, [0, 2]⟩ : Nd) = p := by simpa [awL] using hp
    exact ⟨_, 2, rfl, rfl, rfl, Nat.le_refl _, ints_C h2 (by decide) (fun j hj => by rcases j with _ | _ | j; rfl; rfl; simp at hj; omega)⟩
  · simp [awL] at hp
theorem awL_I : ∀ n ∈ awL, I64 n.f0 ∧ I64 n.f1 ∧ n.f2.length ≤ 1073741824 := by
  intro n hn
  simp only [awL, List.mem_cons, List.not_mem_nil, or_false] at hn
  rcases hn with rfl | rfl | rfl | rfl <;> exact ⟨⟨by decide, by decide⟩, ⟨by decide, by decide⟩, by decide⟩
theorem awM_I : ∀ n ∈ awM, I64 n.f0 ∧ I64 n.f1 ∧ n.f2.length ≤ 1073741824 := by
  intro n hn
  simp only [awM, List.mem_cons, List.not_mem_nil, or_false] at hn
  rcases hn with rfl | rfl | rfl <;> exact ⟨⟨by decide, by decide⟩, ⟨by decide, by decide⟩, by decide⟩
set_option maxHeartbeats 8000000 in
set_option maxRecDepth 100000 in
theorem awake_calls (w : World) (htab : PowTab w.heap.size w) : Calls Tryd.prog 17 #[] w fun e w' => e = .returned (.bool true) ∧ Below w.heap.size w w' := by
  obtain ⟨W1, hW1⟩ : ∃ W1, W1 = ((w.alloc (Obj.cells #[.int .i64 1, .int .i64 1] 3)).alloc (Obj.cells #[.int .i64 0, .int .i64 2] 3)).alloc (Obj.cells #[.int .i64 (-1), .int .i64 0, .slice none 0 0, .int .i64 (-1), .int .i64 1, .slice none 0 0, .int .i64 2, .int .i64 0, .slice (some ⟨w.heap.size, 0, none⟩) 2 2, .int .i64 0, .int .i64 0, .slice (some ⟨w.heap.size + 1, 0, none⟩) 2 2] 60) := ⟨_, rfl⟩
  have hb1 : Below w.heap.size w W1 := by rw [hW1]; exact (((Below.refl _ w).alloc (Nat.le_refl _) _).alloc (by simp) _).alloc (by simp; omega) _
  have hC1 : k60.C W1 (some ⟨w.heap.size + 1 + 1, 0, none⟩) 4 awL := by
    rw [hW1]
    refine aw_C (k1 := w.heap.size) (k2 := w.heap.size + 1) ?_ ?_ ?_
    · have := heap_alloc_new ((w.alloc (Obj.cells #[.int .i64 1, .int .i64 1] 3)).alloc (Obj.cells #[.int .i64 0, .int .i64 2] 3)) (Obj.cells #[.int .i64 (-1), .int .i64 0, .slice none 0 0, .int .i64 (-1), .int .i64 1, .slice none 0 0, .int .i64 2, .int .i64 0, .slice (some ⟨w.heap.size, 0, none⟩) 2 2, .int .i64 0, .int .i64 0, .slice (some ⟨w.heap.size + 1, 0, none⟩) 2 2] 60)
      simpa using this
    · exact (Below.heap_alloc _ _ _ (by simp; omega)).trans ((Below.heap_alloc _ _ _ (by simp)).trans (heap_alloc_new w _))
    · refine (Below.heap_alloc _ _ _ (by simp)).trans ?_
      have := heap_alloc_new (w.alloc (Obj.cells #[.int .i64 1, .int .i64 1] 3)) (Obj.cells #[.int .i64 0, .int .i64 2] 3)
      simpa using this
  have hA := reduce_calls awL _ 4 W1 hC1 (by decide) awL_I (by decide) (PowTab.up (htab.on hb1) hb1.size)
  rw [aw_red, aw_redL] at hA
  have hs1 := hb1.size
  have HB1 := Lib.hid hb1
  have HTAB := Lib.hid htab
  rw [hW1] at hA
  have HW1 := Lib.hid hW1
  clear hb1 hC1 hW1 htab
  go_enter Tryd.func17, Tryd.ntmps17
  go_wp2_with (first
    | (go_at_call 19; refine hA.mono ?_; clear hA; rintro e w2 ⟨hb2, vo, rfl, hRo⟩; obtain ⟨A5, c5, rfl, hc5, hC5⟩ := Kd.R_reads hRo; rw [← HW1.out] at hb2; have HB2 := Lib.hid (HB1.out.trans (hb2.mono hs1)); have HC5 := Lib.hid hC5; have HCC := Lib.hid hc5; have hl5 : awM.length = 3 := rfl; clear hb2 hC5 hRo)
    | (go_at_call 26; have hb3 := ((Below.refl w2.heap.size w2).alloc (Nat.le_refl _) (.cells #[.slice A5 3 c5] 31)).alloc (by simp) (.cells #[.int .i64 1] 3); have hO := ints_C (W := (w2.alloc (Obj.cells #[.slice A5 3 c5] 31)).alloc (Obj.cells #[.int .i64 1] 3)) (b := w2.heap.size + 1) (xs := [1]) (cs := #[.int .i64 1]) (by have := heap_alloc_new (w2.alloc (Obj.cells #[.slice A5 3 c5] 31)) (Obj.cells #[.int .i64 1] 3); simpa using this) (by decide) (fun j hj => by rcases j with _ | j; rfl; simp at hj); have hA2 := eval_calls awM [1] A5 (some ⟨w2.heap.size + 1, 0, none⟩) c5 1 _ (Kd.C_below HC5.out hb3) HCC.out awM_I (by decide) (PowTab.up (HTAB.out.on (HB2.out.trans (hb3.mono HB2.out.size))) (by have := HB2.out.size; have := hb3.size; omega)) hO (by decide); rw [aw_ev] at hA2; refine hA2.mono ?_; clear hA2 hO; rintro e w3 ⟨rfl, hb4⟩; have hbx := (hb4.block w2.heap.size (by simp; omega)).trans ((Below.heap_alloc _ _ _ (by simp)).trans (heap_alloc_new w2 (.cells #[.slice A5 3 c5] 31))); have b0 := blk_cell hbx 0; have HBX := Lib.hid hbx; have HB4 := Lib.hid (HB2.out.trans ((hb3.trans (hb4.mono (by simp; omega))).mono HB2.out.size)); clear hbx hb3 hb4))
  go_ret
  exact ⟨rfl, HB4.out⟩
end Go.Proofs.YtopbjginpmdebaaDoor.K
-- the contracts of diagram's functions, in the form that the printed texts call them
namespace Go.Proofs.YtopbjginpmdebaaDoor.K
open Go.RowKit Go.Maps Go.Proofs.YtopbjginpmdebaaDoorW.PrintWords Go.Proofs.YtopbjginpmdebaaDoorW.PrintLast Go.Proofs.YtopbjginpmdebaaDoorW.PrintMore
set_option linter.unusedVariables false
set_option linter.unusedSimpArgs false
theorem ptab {w W : World} (h : PowTab w.heap.size w) (hb : Below w.heap.size w W) : PowTab W.heap.size W := PowTab.up (h.on hb) hb.size
/-- nodes whose numbers and lengths are a machine's -/
def ndOk (l : List Nd) : Bool := l.all (fun n => decide (-9223372036854775808 ≤ n.f0 ∧ n.f0 ≤ 9223372036854775807 ∧ -9223372036854775808 ≤ n.f1 ∧ n.f1 ≤ 9223372036854775807 ∧ n.f2.length ≤ 1073741824)) && decide ((l.length + 1) * 40 ≤ 140737488355328)
theorem ndOk_I {l : List Nd} (h : ndOk l = true) : ∀ n ∈ l, I64 n.f0 ∧ I64 n.f1 ∧ n.f2.length ≤ 1073741824 := by
  unfold ndOk at h
  rw [Bool.and_eq_true, List.all_eq_true] at h
  intro n hn
  have := of_decide_eq_true (h.1 n hn)
  exact ⟨⟨by omega, by omega⟩, ⟨by omega, by omega⟩, this.2.2.2.2⟩
theorem ndOk_room {l : List Nd} (h : ndOk l = true) : (l.length + 1) * 40 ≤ 140737488355328 := by
  unfold ndOk at h
  rw [Bool.and_eq_true] at h
  exact of_decide_eq_true h.2
theorem V_of_R {w w' : World} {vo : Value} {l : List Nd} (h : k60.R 60 w' w.heap.size (fun _ => True) vo l) : Kd.V k60 60 w' w.heap.size (fun k_ => (w.heap.size ≤ k_)) vo l :=
  Kd.R_V (Kd.R_mono (Kd.R_bound h) (fun k hk => hk.2.1))
def diagram_Reduce.f (l : List S60) : Option (List S60 × Int) := if ndOk l = true then some (redL l, redE l) else none
theorem diagram_Reduce.calls (A : Option Addr) (c : Nat) (l : List S60) (r1 : List S60) (r2 : Int) (w : World) (hr : Kd.C k60 w A l.length l) (hc : l.length ≤ c) (h : diagram_Reduce.f l = some (r1, r2)) (htab : PowTab w.heap.size w) :
    Calls Tryd.prog 19 #[.slice A l.length c] w fun e w' => ∃ v0_ : Value, e = .returned (.tuple #[.agg #[v0_], .int .i64 r2]) ∧ Kd.V k60 60 w' w.heap.size (fun k_ => (w.heap.size ≤ k_)) v0_ r1 ∧ Below w.heap.size w w' := by
  unfold diagram_Reduce.f at h
  by_cases hk : ndOk l = true
  · rw [if_pos hk] at h
    simp only [Option.some.injEq, Prod.mk.injEq] at h
    obtain ⟨rfl, rfl⟩ := h
    exact (reduce_calls l A c w hr hc (ndOk_I hk) (ndOk_room hk) htab).mono fun e w' ⟨hb, vo, he, hR⟩ => ⟨vo, he, V_of_R hR, hb⟩
  · rw [if_neg hk] at h; cases h
def diagram_Validate.f (l : List S60) : Option Int := if ndOk l = true then some (valE l) else none
theorem diagram_Validate.calls (A : Option Addr) (c : Nat) (l : List S60) (r : Int) (w : World) (hr : Kd.C k60 w A l.length l) (hc : l.length ≤ c) (h : diagram_Validate.f l = some r) (htab : PowTab w.heap.size w) :
    Calls Tryd.prog 21 #[.agg #[.slice A l.length c]] w fun e w' => e = .returned (.int .i64 r) ∧ Below w.heap.size w w' := by
  unfold diagram_Validate.f at h
  by_cases hk : ndOk l = true
  · rw [if_pos hk] at h
    obtain rfl := Option.some.inj h
    exact validate_calls l A c w hr hc (ndOk_I hk) (ndOk_room hk) htab (fun n hn => Nat.le_trans (redL_kids16 l n hn) (by decide))
  · rw [if_neg hk] at h; cases h
def diagram_Eval.f (l : List S60) (o : List Int) : Option (Int × Int) := if ndOk l = true then (if o.length ≤ 17592186044000 then some (evR l o) else none) else none
theorem diagram_Eval.calls (A : Option Addr) (c : Nat) (l : List S60) (Ao : Option Addr) (co : Nat) (o : List Int) (r1 r2 : Int) (w : World) (hr : Kd.C k60 w A l.length l) (hc : l.length ≤ c) (hro : (Kd.int .i64).C w Ao o.length o) (hco : o.length ≤ co) (h : diagram_Eval.f l o = some (r1, r2)) (htab : PowTab w.heap.size w) :
    Calls Tryd.prog 26 #[.agg #[.slice A l.length c], .slice Ao o.length co] w fun e w' => e = .returned (.tuple #[.int .i64 r1, .int .i64 r2]) ∧ Below w.heap.size w w' := by
  unfold diagram_Eval.f at h
  by_cases hk : ndOk l = true
  · rw [if_pos hk] at h
    by_cases ho : o.length ≤ 17592186044000
    · rw [if_pos ho] at h
      have h := Option.some.inj h
      have h1 : (evR l o).1 = r1 := by rw [h]
      have h2 : (evR l o).2 = r2 := by rw [h]
      rw [← h1, ← h2]
      exact eval_calls l o A Ao c co w hr hc (ndOk_I hk) (ndOk_room hk) htab hro ho
    · rw [if_neg ho] at h; cases h
  · rw [if_neg hk] at h; cases h
def exactppllaw19_awake.f : Option Bool := some true
theorem exactppllaw19_awake.calls (r : Bool) (w : World) (h : exactppllaw19_awake.f = some r) (htab : PowTab w.heap.size w) : Calls Tryd.prog 17 #[] w fun e w' => e = .returned (.bool r) ∧ Below w.heap.size w w' := by
  obtain rfl := Option.some.inj h
  exact awake_calls w htab
end Go.Proofs.YtopbjginpmdebaaDoor.K
-- what the references' SameInts, SameNode, Same say
namespace Go.Proofs.YtopbjginpmdebaaDoor.K
open Go.RowKit Go.Maps Go.Proofs.YtopbjginpmdebaaDoorW.PrintWords Go.Proofs.YtopbjginpmdebaaDoorW.PrintLast Go.Proofs.YtopbjginpmdebaaDoorW.PrintMore
set_option linter.unusedVariables false
set_option linter.unusedSimpArgs false
theorem w64_succ {j : Nat} (h : j < 4611686018427387904) : wrap64 ((j : Int) + 1) = ((j + 1 : Nat) : Int) := by unfold wrap64; omega
theorem rd_get {xs : List Int} {j : Nat} (h : j < xs.length) : rd xs (j : Int) = xs[j] := by unfold rd; rw [Int.toNat_natCast, List.getD_eq_getElem?_getD, List.getElem?_eq_getElem h]; rfl
theorem sameInts_l (xs ys : List Int) (hl : xs.length = ys.length) (hb : xs.length < 4611686018427387904) : ∀ (m j k : Nat), xs.length - j ≤ m → j ≤ xs.length → m < k → exactpplref07_SameInts.l0 k xs ys (j : Int) = some (decide (xs.drop j = ys.drop j)) := by
  intro m
  induction m with
  | zero =>
    intro j k h1 h2 h3
    obtain ⟨f, rfl⟩ : ∃ f, k = f + 1 := ⟨k - 1, by omega⟩
    have e : j = xs.length := by omega
    simp only [exactpplref07_SameInts.l0]
    rw [if_neg (by omega), List.drop_of_length_le (by omega), List.drop_of_length_le (by omega)]; simp
  | succ m ih =>
    intro j k h1 h2 h3
    obtain ⟨f, rfl⟩ : ∃ f, k = f + 1 := ⟨k - 1, by omega⟩
    by_cases hj : j < xs.length
    · have hj2 : j < ys.length := by omega
      simp only [exactpplref07_SameInts.l0]
      rw [if_pos (by omega), if_pos (by omega), if_pos (by omega), rd_get hj, rd_get hj2, w64_succ (by omega), ih (j + 1) f (by omega) (by omega) (by omega)]
      have hd : (xs.drop j = ys.drop j) ↔ (xs[j] = ys[j] ∧ xs.drop (j + 1) = ys.drop (j + 1)) := by rw [List.drop_eq_getElem_cons hj, List.drop_eq_getElem_cons hj2, List.cons.injEq]
      by_cases he : xs[j] = ys[j]
      · rw [if_pos he, decide_eq_decide.2 (hd.trans ⟨fun h => h.2, fun h => ⟨he, h⟩⟩)]
      · rw [if_neg he, decide_eq_false (fun h => he (hd.1 h).1)]
    · have e : j = xs.length := by omega
      simp only [exactpplref07_SameInts.l0]
      rw [if_neg (by omega), List.drop_of_length_le (by omega), List.drop_of_length_le (by omega)]; simp
theorem sameInts_f (xs ys : List Int) (hb : xs.length < 4611686018427387904) (k : Nat) (hk : xs.length < k) : exactpplref07_SameInts.f k xs ys = some (decide (xs = ys)) := by
  unfold exactpplref07_SameInts.f
  by_cases hl : xs.length = ys.length
  · rw [if_pos (by omega)]
    have := sameInts_l xs ys hl hb xs.length 0 k (by omega) (by omega) hk
    simpa using this
  · rw [if_neg (by omega), decide_eq_false (fun e => hl (by rw [e]))]
theorem sameNode_f (n m : Nd) (hb : n.f2.length < 4611686018427387904) (k : Nat) (hk : n.f2.length < k) : exactpplref19_SameNode.f k n.f0 n.f1 n.f2 m.f0 m.f1 m.f2 = some (decide (n = m)) := by
  unfold exactpplref19_SameNode.f
  rw [sameInts_f _ _ hb k hk]
  by_cases h0 : n.f0 = m.f0
  · rw [if_pos h0]
    by_cases h1 : n.f1 = m.f1
    · rw [if_pos h1]
      by_cases h2 : n.f2 = m.f2
      · have := nd_ext h0 h1 h2; subst this; simp
      · have : ¬ n = m := fun e => h2 (by rw [e])
        simp [h2, this]
    · have : ¬ n = m := fun e => h1 (by rw [e])
      rw [if_neg h1]; simp [this]
  · have : ¬ n = m := fun e => h0 (by rw [e])
    rw [if_neg h0]; simp [this]
theorem same_l (xs ys : List Nd) (hl : xs.length = ys.length) (hb : xs.length < 4611686018427387904) (q : Nat) (hq : q < 4611686018427387904) (hx : ∀ n ∈ xs, n.f2.length ≤ q) : ∀ (m j k : Nat), xs.length - j ≤ m → j ≤ xs.length → m + q + 1 < k → exactpplref19_Same.l0 k (j : Int) xs ys = some (decide (xs.drop j = ys.drop j)) := by
  intro m
  induction m with
  | zero =>
    intro j k h1 h2 h3
    obtain ⟨f, rfl⟩ : ∃ f, k = f + 1 := ⟨k - 1, by omega⟩
    have e : j = xs.length := by omega
    simp only [exactpplref19_Same.l0]
    rw [if_neg (by omega), List.drop_of_length_le (by omega), List.drop_of_length_le (by omega)]; simp
  | succ m ih =>
    intro j k h1 h2 h3
    obtain ⟨f, rfl⟩ : ∃ f, k = f + 1 := ⟨k - 1, by omega⟩
    by_cases hj : j < xs.length
    · have hj2 : j < ys.length := by omega
      have e1 : rd_T60 xs (j : Int) = xs[j] := (rd_nth xs j).trans (nth_lt hj)
      have e2 : rd_T60 ys (j : Int) = ys[j] := (rd_nth ys j).trans (nth_lt hj2)
      have hm := hx xs[j] (List.getElem_mem hj)
      simp only [exactpplref19_Same.l0]
      rw [if_pos (by omega), if_pos (by omega), if_pos (by omega), e1, e2, sameNode_f xs[j] ys[j] (by omega) f (by omega), Option.bind_some, w64_succ (by omega), ih (j + 1) f (by omega) (by omega) (by omega)]
      have hd : (xs.drop j = ys.drop j) ↔ (xs[j] = ys[j] ∧ xs.drop (j + 1) = ys.drop (j + 1)) := by rw [List.drop_eq_getElem_cons hj, List.drop_eq_getElem_cons hj2, List.cons.injEq]
      by_cases he : xs[j] = ys[j]
      · rw [decide_eq_true he, if_pos rfl, decide_eq_decide.2 (hd.trans ⟨fun h => h.2, fun h => ⟨he, h⟩⟩)]
      · rw [decide_eq_false he, if_neg (by decide), decide_eq_false (fun h => he (hd.1 h).1)]
    · have e : j = xs.length := by omega
      simp only [exactpplref19_Same.l0]
      rw [if_neg (by omega), List.drop_of_length_le (by omega), List.drop_of_length_le (by omega)]; simp
theorem same_f (xs ys : List Nd) (hb : xs.length < 4611686018427387904) (q : Nat) (hq : q < 4611686018427387904) (hx : ∀ n ∈ xs, n.f2.length ≤ q) (k : Nat) (hk : xs.length + q + 1 < k) : exactpplref19_Same.f k xs ys = some (decide (xs = ys)) := by
  unfold exactpplref19_Same.f
  by_cases hl : xs.length = ys.length
  · rw [if_pos (by omega)]
    have := same_l xs ys hl hb q hq hx xs.length 0 k (by omega) (by omega) hk
    simpa using this
  · rw [if_neg (by omega), decide_eq_false (fun e => hl (by rw [e]))]
/-- Same, as it is called -/
theorem sameD_calls (xs ys : List Nd) (A B : Option Addr) (c d : Nat) (w : World) (hA : k60.C w A xs.length xs) (hc : xs.length ≤ c) (hB : k60.C w B ys.length ys) (hd : ys.length ≤ d) (hb : xs.length < 4611686018427387904) (hx : ∀ n ∈ xs, n.f2.length ≤ 1073741824) :
    Calls Tryd.prog 20 #[.agg #[.slice A xs.length c], .agg #[.slice B ys.length d]] w fun e w' => e = .returned (.bool (decide (xs = ys))) ∧ Below w.heap.size w w' :=
  exactpplref19_Same.calls (xs.length + 1073741824 + 2) A c xs B d ys _ w hA hc hB hd (same_f xs ys hb 1073741824 (by decide) hx _ (by omega))
end Go.Proofs.YtopbjginpmdebaaDoor.K
-- the reference's Graph says what isGraph says
namespace Go.Proofs.YtopbjginpmdebaaDoor.K
open Go.RowKit Go.Maps Go.Proofs.YtopbjginpmdebaaDoorW.PrintWords Go.Proofs.YtopbjginpmdebaaDoorW.PrintLast Go.Proofs.YtopbjginpmdebaaDoorW.PrintMore
set_option linter.unusedVariables false
set_option linter.unusedSimpArgs false
/-- branches of one site ahead of node i have as many kids -/
def ShpAt (nodes : List Nd) (i : Nat) (s : Int) (n : Nat) (j : Nat) : Prop := ∀ k : Nat, j ≤ k → k < i → (nth nodes (k : Int)).f0 = s → (nth nodes (k : Int)).f2.length = n
/-- a kid, as the reference wants it -/
def KidR (nodes : List Nd) (i : Nat) (s c : Int) : Prop := (0 ≤ c ∧ c < (i : Int)) ∧ ¬ ((nth nodes c).f0 ≠ -1 ∧ (nth nodes c).f0 ≤ s)
theorem sd_l1 (nodes : List Nd) (i : Nat) (hi : i ≤ nodes.length) (hb : nodes.length < 4611686018427387904) (s v : Int) (ks : List Int) : ∀ (m j fuel : Nat), i - j ≤ m → j ≤ i → m < fuel →
    ∃ b, exactpplref19_sound.l1 fuel nodes (i : Int) (j : Int) s v ks = some b ∧ (b = true ↔ ShpAt nodes i s ks.length j) := by
  intro m
  induction m with
  | zero =>
    intro j fuel h1 h2 h3
    obtain ⟨f, rfl⟩ : ∃ f, fuel = f + 1 := ⟨fuel - 1, by omega⟩
    have e : j = i := by omega
    subst e
    simp only [exactpplref19_sound.l1]
    rw [if_neg (by omega)]
    exact ⟨true, rfl, fun _ k h4 h5 => by omega, fun _ => rfl⟩
  | succ m ih =>
    intro j fuel h1 h2 h3
    obtain ⟨f, rfl⟩ : ∃ f, fuel = f + 1 := ⟨fuel - 1, by omega⟩
    by_cases hj : j < i
    · simp only [exactpplref19_sound.l1]
      rw [if_pos (by omega), if_pos (by omega), if_pos (by omega), w64_succ (by omega), rd_nth]
      obtain ⟨b, hb1, hb2⟩ := ih (j + 1) f (by omega) (by omega) (by omega)
      by_cases hs : (nth nodes (j : Int)).f0 = s
      · rw [if_pos hs]
        by_cases hl : ((nth nodes (j : Int)).f2.length : Int) = (ks.length : Int)
        · rw [if_pos hl]
          refine ⟨b, hb1, hb2.trans ⟨fun h k h4 h5 h6 => ?_, fun h k h4 h5 h6 => h k (by omega) h5 h6⟩⟩
          rcases Nat.lt_or_ge j k with h7 | h7
          · exact h k h7 h5 h6
          · obtain rfl : k = j := by omega
            omega
        · rw [if_neg hl]
          exact ⟨false, rfl, (fun h => by cases h), fun h => absurd (h j (Nat.le_refl _) hj hs) (by omega)⟩
      · rw [if_neg hs]
        refine ⟨b, hb1, hb2.trans ⟨fun h k h4 h5 h6 => ?_, fun h k h4 h5 h6 => h k (by omega) h5 h6⟩⟩
        rcases Nat.lt_or_ge j k with h7 | h7
        · exact h k h7 h5 h6
        · obtain rfl : k = j := by omega
          exact absurd h6 hs
    · have e : j = i := by omega
      subst e
      simp only [exactpplref19_sound.l1]
      rw [if_neg (by omega)]
      exact ⟨true, rfl, fun _ k h4 h5 => by omega, fun _ => rfl⟩
theorem sd_l0 (nodes : List Nd) (i : Nat) (hi : i ≤ nodes.length) (hb : nodes.length < 4611686018427387904) (s v : Int) (ks : List Int) (hk : ks.length < 4611686018427387904) : ∀ (m j fuel : Nat), ks.length - j ≤ m → j ≤ ks.length → m + i + 1 < fuel →
    ∃ b, exactpplref19_sound.l0 fuel nodes (i : Int) (j : Int) s v ks = some b ∧ (b = true ↔ (∀ c ∈ ks.drop j, KidR nodes i s c) ∧ ShpAt nodes i s ks.length 0) := by
  intro m
  induction m with
  | zero =>
    intro j fuel h1 h2 h3
    obtain ⟨f, rfl⟩ : ∃ f, fuel = f + 1 := ⟨fuel - 1, by omega⟩
    have e : j = ks.length := by omega
    subst e
    simp only [exactpplref19_sound.l0]
    rw [if_neg (by omega)]
    obtain ⟨b, h4, h5⟩ := sd_l1 nodes i hi hb s v ks i 0 f (by omega) (by omega) (by omega)
    exact ⟨b, h4, h5.trans ⟨fun h => ⟨by simp, h⟩, fun h => h.2⟩⟩
  | succ m ih =>
    intro j fuel h1 h2 h3
    obtain ⟨f, rfl⟩ : ∃ f, fuel = f + 1 := ⟨fuel - 1, by omega⟩
    by_cases hj : j < ks.length
    · obtain ⟨b, hb1, hb2⟩ := ih (j + 1) f (by omega) (by omega) (by omega)
      have hd : ks.drop j = ks[j] :: ks.drop (j + 1) := List.drop_eq_getElem_cons hj
      simp only [exactpplref19_sound.l0]
      rw [if_pos (by omega), if_pos (by omega), rd_get hj, w64_succ (by omega), hd]
      have hno : ∀ h : ¬ KidR nodes i s ks[j], (false = true ↔ (∀ c ∈ ks[j] :: ks.drop (j + 1), KidR nodes i s c) ∧ ShpAt nodes i s ks.length 0) := fun h => ⟨(fun e => by cases e), fun e => absurd (e.1 _ List.mem_cons_self) h⟩
      by_cases h4 : ks[j] < 0
      · rw [if_pos h4]
        exact ⟨false, rfl, hno (fun e => by have := e.1.1; omega)⟩
      · rw [if_neg h4]
        by_cases h5 : ks[j] ≥ (i : Int)
        · rw [if_pos h5]
          exact ⟨false, rfl, hno (fun e => by have := e.1.2; omega)⟩
        · rw [if_neg h5, if_pos (by omega), if_pos (by omega), show rd_T60 nodes ks[j] = nth nodes ks[j] from rfl, exactpplref19_IsBranch.f, Option.bind_some]
          have hyes : ∀ h : KidR nodes i s ks[j], (b = true ↔ (∀ c ∈ ks[j] :: ks.drop (j + 1), KidR nodes i s c) ∧ ShpAt nodes i s ks.length 0) := fun h => hb2.trans ⟨fun e => ⟨fun c hc => (List.mem_cons.1 hc).elim (fun e2 => by rw [e2]; exact h) (e.1 c), e.2⟩, fun e => ⟨fun c hc => e.1 c (List.mem_cons_of_mem _ hc), e.2⟩⟩
          by_cases h6 : (nth nodes ks[j]).f0 = -1
          · rw [show ((nth nodes ks[j]).f0 != -1) = false by simp [h6], if_neg (by decide)]
            exact ⟨b, hb1, hyes ⟨⟨by omega, by omega⟩, fun e => e.1 h6⟩⟩
          · rw [show ((nth nodes ks[j]).f0 != -1) = true by simp [h6], if_pos rfl]
            by_cases h7 : (nth nodes ks[j]).f0 ≤ s
            · rw [if_pos h7]
              exact ⟨false, rfl, hno (fun e => e.2 ⟨h6, h7⟩)⟩
            · rw [if_neg h7]
              exact ⟨b, hb1, hyes ⟨⟨by omega, by omega⟩, fun e => h7 e.2⟩⟩
    · have e : j = ks.length := by omega
      subst e
      simp only [exactpplref19_sound.l0]
      rw [if_neg (by omega)]
      obtain ⟨b, h4, h5⟩ := sd_l1 nodes i hi hb s v ks i 0 f (by omega) (by omega) (by omega)
      exact ⟨b, h4, h5.trans ⟨fun h => ⟨by simp, h⟩, fun h => h.2⟩⟩
/-- node i is as a graph demands it, as the reference says it -/
def Snd (nodes : List Nd) (i : Nat) : Prop := ((nth nodes (i : Int)).f0 = -1 ∧ (nth nodes (i : Int)).f2 = [] ∧ -1073741824 ≤ (nth nodes (i : Int)).f1 ∧ (nth nodes (i : Int)).f1 ≤ 1073741824) ∨
  ((0 ≤ (nth nodes (i : Int)).f0 ∧ (nth nodes (i : Int)).f0 < 64 ∧ (nth nodes (i : Int)).f1 = 0 ∧ 1 ≤ (nth nodes (i : Int)).f2.length ∧ (nth nodes (i : Int)).f2.length ≤ 16) ∧ (∀ c ∈ (nth nodes (i : Int)).f2, KidR nodes i (nth nodes (i : Int)).f0 c) ∧ ShpAt nodes i (nth nodes (i : Int)).f0 (nth nodes (i : Int)).f2.length 0)
theorem sd_f (nodes : List Nd) (i : Nat) (hi : i < nodes.length) (hb : nodes.length < 4611686018427387904) (hk : (nth nodes (i : Int)).f2.length < 4611686018427387904) (fuel : Nat) (hf : (nth nodes (i : Int)).f2.length + i + 4 < fuel) :
    ∃ b, exactpplref19_sound.f fuel nodes (i : Int) = some b ∧ (b = true ↔ Snd nodes i) := by
  obtain ⟨f, rfl⟩ : ∃ f, fuel = f + 1 := ⟨fuel - 1, by omega⟩
  unfold exactpplref19_sound.f
  rw [if_pos (by omega), if_pos (by omega), rd_nth]
  have hnd : nth nodes (i : Int) = nth nodes (i : Int) := rfl
  unfold Snd
  generalize nth nodes (i : Int) = n at hk hf ⊢
  rw [exactpplref19_IsBranch.f, Option.bind_some]
  obtain ⟨b, h4, h5⟩ := sd_l0 nodes i (by omega) hb n.f0 n.f1 n.f2 hk n.f2.length 0 f (by omega) (by omega) (by omega)
  rw [List.drop_zero] at h5
  simp only [exactpplref19_sound.j0, if_true]
  by_cases h6 : n.f0 = -1
  · rw [show (n.f0 != -1) = false by simp [h6], if_neg (by decide)]
    have h0 : ((n.f2.length : Int) = 0) ↔ n.f2 = [] := by rw [← List.length_eq_zero_iff]; omega
    by_cases h7 : (n.f2.length : Int) = 0
    · rw [if_pos h7]
      by_cases h8 : n.f1 ≥ -1073741824
      · rw [if_pos h8]
        refine ⟨_, rfl, ?_⟩
        rw [decide_eq_true_eq]
        exact ⟨fun h => .inl ⟨h6, h0.1 h7, h8, h⟩, fun h => h.elim (fun e => e.2.2.2) (fun e => by omega)⟩
      · rw [if_neg h8]
        exact ⟨_, rfl, (fun h => by cases h), fun h => h.elim (fun e => by omega) (fun e => by omega)⟩
    · rw [if_neg h7]
      exact ⟨_, rfl, (fun h => by cases h), fun h => h.elim (fun e => absurd (h0.2 e.2.1) h7) (fun e => by omega)⟩
  · rw [show (n.f0 != -1) = true by simp [h6], if_pos rfl]
    have hno : ∀ h : ¬ (0 ≤ n.f0 ∧ n.f0 < 64 ∧ n.f1 = 0 ∧ 1 ≤ n.f2.length ∧ n.f2.length ≤ 16), (false = true ↔ (n.f0 = -1 ∧ n.f2 = [] ∧ -1073741824 ≤ n.f1 ∧ n.f1 ≤ 1073741824) ∨ ((0 ≤ n.f0 ∧ n.f0 < 64 ∧ n.f1 = 0 ∧ 1 ≤ n.f2.length ∧ n.f2.length ≤ 16) ∧ (∀ c ∈ n.f2, KidR nodes i n.f0 c) ∧ ShpAt nodes i n.f0 n.f2.length 0)) :=
      fun h => ⟨(fun e => by cases e), fun e => e.elim (fun e => absurd e.1 h6) (fun e => absurd e.1 h)⟩
    by_cases h7 : n.f0 < 0
    · rw [if_pos h7]; exact ⟨false, rfl, hno (by omega)⟩
    · rw [if_neg h7]
      by_cases h8 : n.f0 ≥ 64
      · rw [if_pos h8]; exact ⟨false, rfl, hno (by omega)⟩
      · rw [if_neg h8]
        by_cases h9 : n.f1 = 0
        · rw [if_pos h9]
          by_cases h10 : (n.f2.length : Int) < 1
          · rw [if_pos h10]; exact ⟨false, rfl, hno (by omega)⟩
          · rw [if_neg h10]
            by_cases h11 : (n.f2.length : Int) > 16
            · rw [decide_eq_true h11, if_pos rfl]; exact ⟨false, rfl, hno (by omega)⟩
            · rw [decide_eq_false h11, if_neg (by decide)]
              exact ⟨b, h4, h5.trans ⟨fun h => .inr ⟨by omega, h⟩, fun h => h.elim (fun e => absurd e.1 h6) (fun e => e.2)⟩⟩
        · rw [if_neg h9]; exact ⟨false, rfl, hno (fun e => h9 e.2.2.1)⟩
theorem gr_l0 (nodes : List Nd) (hb : nodes.length < 4611686018427387904) (q : Nat) (hq : q < 4611686018427387904) (hx : ∀ n ∈ nodes, n.f2.length ≤ q) : ∀ (m j fuel : Nat), nodes.length - j ≤ m → j ≤ nodes.length → m + q + nodes.length + 5 < fuel →
    ∃ b, exactpplref19_Graph.l0 fuel nodes (j : Int) = some b ∧ (b = true ↔ (∀ i : Nat, j ≤ i → i < nodes.length → Snd nodes i) ∧ 0 < nodes.length) := by
  intro m
  induction m with
  | zero =>
    intro j fuel h1 h2 h3
    obtain ⟨f, rfl⟩ : ∃ f, fuel = f + 1 := ⟨fuel - 1, by omega⟩
    have e : j = nodes.length := by omega
    subst e
    simp only [exactpplref19_Graph.l0]
    rw [if_neg (by omega)]
    exact ⟨_, rfl, by rw [decide_eq_true_eq]; exact ⟨fun h => ⟨fun i h4 h5 => by omega, by omega⟩, fun h => by omega⟩⟩
  | succ m ih =>
    intro j fuel h1 h2 h3
    obtain ⟨f, rfl⟩ : ∃ f, fuel = f + 1 := ⟨fuel - 1, by omega⟩
    by_cases hj : j < nodes.length
    · have hmem : nth nodes (j : Int) ∈ nodes := by rw [nth_lt hj]; exact List.getElem_mem hj
      have hl := hx _ hmem
      obtain ⟨b, h4, h5⟩ := sd_f nodes j hj hb (by omega) f (by omega)
      simp only [exactpplref19_Graph.l0]
      rw [if_pos (by omega), h4, Option.bind_some, w64_succ (by omega)]
      cases b with
      | true =>
        obtain ⟨c, h6, h7⟩ := ih (j + 1) f (by omega) (by omega) (by omega)
        rw [if_pos rfl]
        refine ⟨c, h6, h7.trans ⟨fun h => ⟨fun i h8 h9 => ?_, h.2⟩, fun h => ⟨fun i h8 h9 => h.1 i (by omega) h9, h.2⟩⟩⟩
        rcases Nat.lt_or_ge j i with h10 | h10
        · exact h.1 i h10 h9
        · obtain rfl : i = j := by omega
          exact h5.1 rfl
      | false =>
        rw [if_neg (by decide)]
        exact ⟨false, rfl, (fun h => by cases h), fun h => h5.2 (h.1 j (Nat.le_refl _) hj)⟩
    · have e : j = nodes.length := by omega
      subst e
      simp only [exactpplref19_Graph.l0]
      rw [if_neg (by omega)]
      exact ⟨_, rfl, by rw [decide_eq_true_eq]; exact ⟨fun h => ⟨fun i h4 h5 => by omega, by omega⟩, fun h => by omega⟩⟩
/-- what Shapes accepts -/
theorem shp_iff : ∀ (l : List Nd) (g : PM), (shp g l).isSome = true ↔ (∀ n ∈ l, 0 ≤ n.f0 → ∀ v, g n.f0 = some v → v = (n.f2.length : Int)) ∧ l.Pairwise (fun a b => 0 ≤ a.f0 → a.f0 = b.f0 → a.f2.length = b.f2.length)
  | [], g => by simp [shp]
  | n :: l, g => by
    simp only [shp]
    by_cases h0 : n.f0 < 0
    · rw [if_pos h0, shp_iff l g, List.pairwise_cons]
      constructor
      · rintro ⟨h1, h2⟩
        exact ⟨fun m hm h3 => (List.mem_cons.1 hm).elim (fun e => by subst e; omega) (fun h => h1 m h h3), fun b _ h3 => by omega, h2⟩
      · rintro ⟨h1, _, h2⟩
        exact ⟨fun m hm => h1 m (List.mem_cons_of_mem _ hm), h2⟩
    · rw [if_neg h0]
      by_cases h1 : (g n.f0).isSome = true ∧ (g n.f0).getD 0 ≠ (n.f2.length : Int)
      · rw [if_pos h1]
        constructor
        · intro h; cases h
        · rintro ⟨h2, _⟩
          obtain ⟨v, hv⟩ := Option.isSome_iff_exists.1 h1.1
          have := h2 n List.mem_cons_self (by omega) v hv
          rw [hv] at h1
          exact absurd this h1.2
      · rw [if_neg h1, shp_iff l _, List.pairwise_cons]
        have hg : ∀ v, g n.f0 = some v → v = (n.f2.length : Int) := by
          intro v hv
          refine Classical.byContradiction fun hne => h1 ⟨by rw [hv]; rfl, by rw [hv]; exact hne⟩
        constructor
        · rintro ⟨h2, h3⟩
          refine ⟨fun m hm h4 v hv => ?_, fun b hb h4 h5 => ?_, h3⟩
          · rcases List.mem_cons.1 hm with rfl | hm
            · exact hg v hv
            · by_cases e : m.f0 = n.f0
              · have := h2 m hm h4 (n.f2.length : Int) (by unfold upd; rw [if_pos e])
                rw [e] at hv
                rw [hg v hv]; exact this
              · exact h2 m hm h4 v (by unfold upd; rw [if_neg e]; exact hv)
          · have := h2 b hb (by omega) (n.f2.length : Int) (by unfold upd; rw [if_pos h5.symm])
            omega
        · rintro ⟨h2, h3, h4⟩
          refine ⟨fun m hm h5 v hv => ?_, h4⟩
          unfold upd at hv
          by_cases e : m.f0 = n.f0
          · rw [if_pos e] at hv
            have := h3 m hm (by omega) e.symm
            injection hv with hv
            omega
          · rw [if_neg e] at hv
            exact h2 m (List.mem_cons_of_mem _ hm) h5 v hv
theorem gr_snd (nodes : List Nd) : grB nodes = true ↔ (∀ i : Nat, 0 ≤ i → i < nodes.length → Snd nodes i) ∧ 0 < nodes.length := by
  unfold grB
  rw [Bool.and_eq_true, Bool.and_eq_true, decide_eq_true_eq, shp_iff, List.all_eq_true]
  constructor
  · rintro ⟨h1, h2, _, h3⟩
    have hlb : ∀ i : Nat, i < nodes.length → lfB (nth nodes (i : Int)) = true ∨ brB nodes (i : Int) (nth nodes (i : Int)) = true := fun i hi => by have := h1 i (List.mem_range.2 hi); simpa using this
    refine ⟨fun i _ hi => ?_, h2⟩
    rcases hlb i hi with h4 | h4
    · exact .inl (lf_iff.1 h4)
    · obtain ⟨h5, h6⟩ := br_iff.1 h4
      refine .inr ⟨h5, fun c hc => ⟨(h6 c hc).1, fun e => (h6 c hc).2 ⟨?_, e.2⟩⟩, fun k _ hk he => ?_⟩
      · have h7 := (h6 c hc).1
        rcases hlb c.toNat (by omega) with h8 | h8
        · have := (lf_iff.1 h8).1
          rw [show ((c.toNat : Nat) : Int) = c by omega] at this
          exact absurd this e.1
        · have := (br_iff.1 h8).1.1
          rw [show ((c.toNat : Nat) : Int) = c by omega] at this
          exact this
      · have h7 := (List.pairwise_iff_getElem.1 h3) k i (by omega) hi hk
        rw [← nth_lt (show k < nodes.length by omega), ← nth_lt hi] at h7
        exact h7 (by omega) he
  · rintro ⟨h1, h2⟩
    have hf0 : ∀ i : Nat, i < nodes.length → (nth nodes (i : Int)).f0 = -1 ∨ 0 ≤ (nth nodes (i : Int)).f0 := fun i hi => (h1 i (Nat.zero_le _) hi).elim (fun e => .inl e.1) (fun e => .inr e.1.1)
    refine ⟨fun i hi => ?_, h2, (fun n _ _ v hv => by cases hv), List.pairwise_iff_getElem.2 fun i j hi hj hij h3 h4 => ?_⟩
    · have hi := List.mem_range.1 hi
      rw [Bool.or_eq_true]
      rcases h1 i (Nat.zero_le _) hi with h3 | h3
      · exact .inl (lf_iff.2 h3)
      · refine .inr (br_iff.2 ⟨h3.1, fun c hc => ⟨(h3.2.1 c hc).1, fun e => (h3.2.1 c hc).2 ⟨by omega, e.2⟩⟩⟩)
    · rw [← nth_lt hi] at h3 h4 ⊢
      rw [← nth_lt hj] at h4 ⊢
      rcases h1 j (Nat.zero_le _) hj with h5 | h5
      · omega
      · exact h5.2.2 i (Nat.zero_le _) hij h4
theorem graph_f (nodes : List Nd) (hb : nodes.length < 4611686018427387904) (q : Nat) (hq : q < 4611686018427387904) (hx : ∀ n ∈ nodes, n.f2.length ≤ q) (fuel : Nat) (hf : q + nodes.length + nodes.length + 5 < fuel) : exactpplref19_Graph.f fuel nodes = some (grB nodes) := by
  unfold exactpplref19_Graph.f
  obtain ⟨b, h1, h2⟩ := gr_l0 nodes hb q hq hx nodes.length 0 fuel (by omega) (by omega) (by omega)
  have : b = grB nodes := by rw [Bool.eq_iff_iff, h2, gr_snd]
  rw [← this]
  exact h1
end Go.Proofs.YtopbjginpmdebaaDoor.K
-- tables of graphs: what is taken out of one is a graph, and canonical
namespace Go.Proofs.YtopbjginpmdebaaDoor.K
open Go.RowKit Go.Maps Go.Proofs.YtopbjginpmdebaaDoorW.PrintWords Go.Proofs.YtopbjginpmdebaaDoorW.PrintLast Go.Proofs.YtopbjginpmdebaaDoorW.PrintMore
set_option linter.unusedVariables false
set_option linter.unusedSimpArgs false
/-- a graph whose branches of site s have sh s kids -/
structure GrS (sh : Int → Nat) (l : List Nd) : Prop where
  nd : ∀ i : Nat, i < l.length → lfB (nth l (i : Int)) = true ∨ (brB l (i : Int) (nth l (i : Int)) = true ∧ (nth l (i : Int)).f2.length = sh (nth l (i : Int)).f0)
theorem gr_sh {l : List Nd} (h : grB l = true) : ∃ sh, GrS sh l := by
  have hp : l.Pairwise (fun a b => 0 ≤ a.f0 → a.f0 = b.f0 → a.f2.length = b.f2.length) := by
    unfold grB at h
    rw [Bool.and_eq_true, Bool.and_eq_true, shp_iff] at h
    exact h.2.2.2
  have hp' : ∀ i j : Nat, i < l.length → j < l.length → 0 ≤ (nth l (i : Int)).f0 → (nth l (i : Int)).f0 = (nth l (j : Int)).f0 → (nth l (i : Int)).f2.length = (nth l (j : Int)).f2.length := by
    intro i j hi hj h0 he
    rw [List.pairwise_iff_getElem] at hp
    rw [nth_lt hi] at h0 he ⊢
    rw [nth_lt hj] at he ⊢
    rcases Nat.lt_trichotomy i j with h1 | h1 | h1
    · exact hp i j hi hj h1 h0 he
    · subst h1; rfl
    · exact (hp j i hj hi h1 (by omega) he.symm).symm
  refine ⟨fun s => if hx : ∃ i : Nat, i < l.length ∧ (nth l (i : Int)).f0 = s then (nth l ((Classical.choose hx : Nat) : Int)).f2.length else 0, ⟨fun i hi => ?_⟩⟩
  rcases gr_nd h hi with h1 | h1
  · exact .inl h1
  · refine .inr ⟨h1, ?_⟩
    have hx : ∃ j : Nat, j < l.length ∧ (nth l (j : Int)).f0 = (nth l (i : Int)).f0 := ⟨i, hi, rfl⟩
    have hs := Classical.choose_spec hx
    rw [dif_pos hx]
    exact hp' i _ hi hs.1 (br_iff.1 h1).1.1 hs.2.symm
theorem GrS.gr {sh : Int → Nat} {l : List Nd} (h : GrS sh l) (h0 : 0 < l.length) : grB l = true := by
  unfold grB
  rw [Bool.and_eq_true, Bool.and_eq_true, decide_eq_true_eq, shp_iff, List.all_eq_true]
  have hl : ∀ i : Nat, i < l.length → 0 ≤ (nth l (i : Int)).f0 → (nth l (i : Int)).f2.length = sh (nth l (i : Int)).f0 := by
    intro i hi h1
    rcases h.nd i hi with h2 | h2
    · have := (lf_iff.1 h2).1; omega
    · exact h2.2
  refine ⟨fun i hi => ?_, h0, (fun n _ _ v hv => by cases hv), List.pairwise_iff_getElem.2 fun i j hi hj hij h3 h4 => ?_⟩
  · rw [Bool.or_eq_true]
    rcases h.nd i (List.mem_range.1 hi) with h2 | h2
    · exact .inl h2
    · exact .inr h2.1
  · rw [← nth_lt hi] at h3 h4 ⊢
    rw [← nth_lt hj] at h4 ⊢
    rw [hl i hi h3, hl j hj (by omega), h4]
/-- a table of nodes of graphs -/
structure Tb (sh : Int → Nat) (u : List Nd) : Prop where
  red : Red u
  ord : ∀ i : Nat, i < u.length → ∀ k ∈ (nth u (i : Int)).f2, (nth u k).f0 < 0 ∨ (nth u (i : Int)).f0 < (nth u k).f0
  ok : ∀ n ∈ u, (n.f0 = -1 ∧ -1073741824 ≤ n.f1 ∧ n.f1 ≤ 1073741824) ∨ (0 ≤ n.f0 ∧ n.f0 < 64 ∧ n.f2.length = sh n.f0 ∧ n.f2.length ≤ 16)
theorem tb_nil (sh : Int → Nat) : Tb sh [] := ⟨red_nil, fun i hi => by simp at hi, by simp⟩
theorem Tb.tbl {sh : Int → Nat} {u : List Nd} (h : Tb sh u) : Tbl u [] := ⟨h.red.down, h.red.nodup, by simp⟩
theorem Tb.place0 {sh : Int → Nat} {u : List Nd} (h : Tb sh u) {n : Nd} (hk : ∀ k ∈ n.f2, 0 ≤ k ∧ k < (u.length : Int)) (hr : Red (place0 u n).1) (ho : ∀ k ∈ n.f2, (nth u k).f0 < 0 ∨ n.f0 < (nth u k).f0)
    (hok : (n.f0 = -1 ∧ -1073741824 ≤ n.f1 ∧ n.f1 ≤ 1073741824) ∨ (0 ≤ n.f0 ∧ n.f0 < 64 ∧ n.f2.length = sh n.f0 ∧ n.f2.length ≤ 16)) : Tb sh (K.place0 u n).1 := by
  refine ⟨hr, ?_, ?_⟩
  · unfold K.place0
    split
    · exact h.ord
    · intro i hi k hk'
      simp only at hi hk' ⊢
      rcases Nat.lt_or_ge i u.length with h1 | h1
      · rw [nth_append_left (u := u) (v := [n]) (a := (i : Int)) (by omega) (by omega)] at hk' ⊢
        have h2 := h.red.down i h1 k hk'
        rw [nth_append_left (u := u) (v := [n]) (a := k) h2.1 (by omega)]
        exact h.ord i h1 k hk'
      · have e : i = u.length := by simp at hi; omega
        subst e
        have e2 : nth (u ++ [n]) ((u.length : Nat) : Int) = n := by simp [nth]
        rw [e2] at hk' ⊢
        rw [nth_append_left (u := u) (v := [n]) (a := k) (hk k hk').1 (hk k hk').2]
        exact ho k hk'
  · unfold K.place0
    split
    · exact h.ok
    · intro m hm
      rcases List.mem_append.1 hm with hm | hm
      · exact h.ok m hm
      · rw [List.mem_singleton.1 hm]; exact hok
/-- the node that stands for another is a leaf or no higher -/
def AtOk (l u : List Nd) (at_ : List Int) (k : Nat) : Prop := ∀ c : Nat, c < k → (nth u (lk at_ (c : Int))).f0 < 0 ∨ (0 ≤ (nth l (c : Int)).f0 ∧ (nth l (c : Int)).f0 ≤ (nth u (lk at_ (c : Int))).f0)
theorem GrS.fit {sh : Int → Nat} {l : List Nd} (h : GrS sh l) : Fit l := by
  refine ⟨fun i hi k hk => ?_, fun n hn h0 => ?_⟩
  · rcases h.nd i hi with h1 | h1
    · rw [(lf_iff.1 h1).2.1] at hk; cases hk
    · exact ((br_iff.1 h1.1).2 k hk).1
  · obtain ⟨i, hi, rfl⟩ := mem_nth hn
    rcases h.nd i hi with h1 | h1
    · have := (lf_iff.1 h1).1; omega
    · intro e
      have := (br_iff.1 h1.1).1
      rw [e] at this
      simp at this
theorem sameK_mem {l : List Int} (h : l ≠ []) : l.headD 0 ∈ l := by
  cases l with
  | nil => exact absurd rfl h
  | cons a l => exact List.mem_cons_self
theorem lk_snoc_old {at_ : List Int} {x : Int} {c : Nat} (h : c < at_.length) : lk (at_ ++ [x]) (c : Int) = lk at_ (c : Int) := by
  unfold lk
  rw [List.getD_eq_getElem?_getD, List.getD_eq_getElem?_getD, List.getElem?_append_left (by omega)]
theorem lk_snoc_new (at_ : List Int) (x : Int) : lk (at_ ++ [x]) ((at_.length : Nat) : Int) = x := by
  unfold lk
  rw [List.getD_eq_getElem?_getD, Int.toNat_natCast, List.getElem?_append_right (Nat.le_refl _)]
  simp
/-- one node more: what stands for it -/
theorem Tb.step {sh : Int → Nat} {l u : List Nd} {at_ : List Int} {k : Nat} (h : Tb sh u) (hl : GrS sh l) (hk : k < l.length) (hat : at_.length = k) (hA : AtOk l u at_ k) (hT : ∀ a ∈ at_, 0 ≤ a ∧ a < (u.length : Int)) :
    Tb sh (place1 u at_ (nth l (k : Int))).1 ∧ AtOk l (place1 u at_ (nth l (k : Int))).1 (at_ ++ [(place1 u at_ (nth l (k : Int))).2]) (k + 1) := by
  have hfit := hl.fit
  have hmem : nth l (k : Int) ∈ l := by rw [nth_lt hk]; exact List.getElem_mem hk
  have hkr : ∀ c ∈ (nth l (k : Int)).f2, 0 ≤ c ∧ c < (at_.length : Int) := fun c hc => by rw [hat]; exact hfit.1 k hk c hc
  have hred := h.red.place1 hT (n := nth l (k : Int)) hkr (hfit.2 _ hmem)
  have hkk := (Tbl.mk h.red.down h.red.nodup hT).kids hkr
  -- the old ones stay
  have hold : ∀ (x : Int) (v : List Nd), u <+: v → ∀ c : Nat, c < k → (nth v (lk (at_ ++ [x]) (c : Int))).f0 < 0 ∨ (0 ≤ (nth l (c : Int)).f0 ∧ (nth l (c : Int)).f0 ≤ (nth v (lk (at_ ++ [x]) (c : Int))).f0) := by
    intro x v hv c hc
    rw [lk_snoc_old (by omega)]
    have h1 := hT _ (lk_mem (at_ := at_) (c := (c : Int)) (by omega) (by omega))
    rw [nth_prefix hv h1.1 h1.2]
    exact hA c hc
  have hnewk : ∀ (x : Int) (v : List Nd), u <+: v → ((nth v x).f0 < 0 ∨ (0 ≤ (nth l (k : Int)).f0 ∧ (nth l (k : Int)).f0 ≤ (nth v x).f0)) → AtOk l v (at_ ++ [x]) (k + 1) := by
    intro x v hv hx c hc
    rcases Nat.lt_or_ge c k with h1 | h1
    · exact hold x v hv c h1
    · have e : c = at_.length := by omega
      subst e
      rw [lk_snoc_new, hat]
      exact hx
  rcases hl.nd k hk with h1 | ⟨h1, h2⟩
  · obtain ⟨l0, l1, l2, l3⟩ := lf_iff.1 h1
    have e : place1 u at_ (nth l (k : Int)) = K.place0 u ⟨-1, (nth l (k : Int)).f1, []⟩ := by unfold K.place1; rw [if_pos (by omega)]
    rw [e] at hred ⊢
    refine ⟨h.place0 (by simp) hred (by simp) (.inl ⟨rfl, l2, l3⟩), hnewk _ _ (place0_pre _ _) (.inl ?_)⟩
    rw [place0_nth]
    show (-1 : Int) < 0
    omega
  · obtain ⟨⟨b0, b1, b2, b3, b4⟩, b5⟩ := br_iff.1 h1
    have hlow : ∀ c ∈ (nth l (k : Int)).f2, (nth u (lk at_ c)).f0 < 0 ∨ (nth l (k : Int)).f0 < (nth u (lk at_ c)).f0 := by
      intro c hc
      obtain ⟨⟨c0, c1⟩, c2⟩ := b5 c hc
      rcases hA c.toNat (by omega) with h3 | h3
      · rw [show ((c.toNat : Nat) : Int) = c by omega] at h3
        exact .inl h3
      · rw [show ((c.toNat : Nat) : Int) = c by omega] at h3
        exact .inr (by omega)
    have hne : (nth l (k : Int)).f2 ≠ [] := by intro e; rw [e] at b3; simp at b3
    have e : place1 u at_ (nth l (k : Int)) = placeB u (nth l (k : Int)).f0 ((nth l (k : Int)).f2.map (lk at_)) := by unfold K.place1; rw [if_neg (by omega)]
    rw [e] at hred ⊢
    by_cases hs : sameK ((nth l (k : Int)).f2.map (lk at_)) = true
    · have e2 : placeB u (nth l (k : Int)).f0 ((nth l (k : Int)).f2.map (lk at_)) = (u, ((nth l (k : Int)).f2.map (lk at_)).headD 0) := by unfold K.placeB; rw [if_pos hs]
      rw [e2]
      refine ⟨h, hnewk _ _ (List.prefix_refl _) ?_⟩
      obtain ⟨c, hc, hce⟩ := List.mem_map.1 (sameK_mem (l := (nth l (k : Int)).f2.map (lk at_)) (by simpa using hne))
      show (nth u (((nth l (k : Int)).f2.map (lk at_)).headD 0)).f0 < 0 ∨ (0 ≤ (nth l (k : Int)).f0 ∧ (nth l (k : Int)).f0 ≤ (nth u (((nth l (k : Int)).f2.map (lk at_)).headD 0)).f0)
      rw [← hce]
      rcases hlow c hc with h3 | h3
      · exact .inl h3
      · exact .inr ⟨b0, by omega⟩
    · have e2 : placeB u (nth l (k : Int)).f0 ((nth l (k : Int)).f2.map (lk at_)) = K.place0 u ⟨(nth l (k : Int)).f0, 0, (nth l (k : Int)).f2.map (lk at_)⟩ := by unfold K.placeB; rw [if_neg hs]
      rw [e2] at hred ⊢
      refine ⟨h.place0 hkk hred (fun q hq => ?_) (.inr ⟨b0, b1, by simpa using h2, by simpa using b4⟩), hnewk _ _ (place0_pre _ _) (.inr ⟨b0, ?_⟩)⟩
      · obtain ⟨c, hc, rfl⟩ := List.mem_map.1 hq
        exact hlow c hc
      · rw [place0_nth]
        exact Int.le_refl _
theorem imp_tb {sh : Int → Nat} {l u : List Nd} (h : Tb sh u) (hl : GrS sh l) : ∀ k, k ≤ l.length → Tb sh (imp u [] (l.take k)).1 ∧ AtOk l (imp u [] (l.take k)).1 (imp u [] (l.take k)).2 k := by
  intro k
  induction k with
  | zero => intro _; exact ⟨by simpa [imp] using h, fun c hc => by omega⟩
  | succ k ih =>
    intro hk
    obtain ⟨h1, h2⟩ := ih (by omega)
    have h3 := (imp_tbl hl.fit h.tbl k (by omega)).1
    rw [take_snoc' (by omega), imp_snoc]
    exact h1.step hl (by omega) (by rw [imp_len]; simp; omega) h2 h3.at_lt
theorem Tb.expo {sh : Int → Nat} {u : List Nd} (h : Tb sh u) {r : Nat} (hr : r < u.length) : Tb sh (K.expo u (r : Nat)) := by
  obtain ⟨g, hP, _, _⟩ := expo_pl h.red.down hr
  have hnode : ∀ a : Nat, a < (K.expo u (r : Nat)).length → ∃ i : Int, g i = some (a : Int) := hP.all
  refine ⟨hP.red h.red, fun a ha k hk => ?_, fun n hn => ?_⟩
  · obtain ⟨i, hi⟩ := hnode a ha
    obtain ⟨i0, _, i2, _, i4, i5⟩ := hP.node i _ hi
    simp only at i4 i5
    rw [i4] at hk ⊢
    obtain ⟨c, hc, rfl⟩ := List.mem_map.1 hk
    obtain ⟨b, hb, _⟩ := i5 c hc
    obtain ⟨_, b1, _, b3, b4, _⟩ := hP.node c b hb
    simp only at b4
    simp only [hb, Option.getD_some]
    rw [b4]
    have := h.ord i.toNat (by omega) c (by rw [show ((i.toNat : Nat) : Int) = i by omega]; exact hc)
    rw [show ((i.toNat : Nat) : Int) = i by omega] at this
    exact this
  · obtain ⟨a, ha, rfl⟩ := mem_nth hn
    obtain ⟨i, hi⟩ := hnode a ha
    obtain ⟨i0, _, i2, _, i4, _⟩ := hP.node i _ hi
    simp only at i4
    rw [i4]
    have := h.ok _ (nth_mem i0 i2)
    simpa [mp] using this
theorem Tb.grs {sh : Int → Nat} {d : List Nd} (h : Tb sh d) : GrS sh d := by
  refine ⟨fun i hi => ?_⟩
  have hm : nth d (i : Int) ∈ d := by rw [nth_lt hi]; exact List.getElem_mem hi
  rcases h.ok _ hm with h1 | h1
  · exact .inl (lf_iff.2 ⟨h1.1, (h.red.leafy _ hm (by omega)).2, h1.2.1, h1.2.2⟩)
  · have hf := h.red.full _ hm h1.1
    refine .inr ⟨br_iff.2 ⟨⟨h1.1, h1.2.1, hf.2, List.length_pos_iff.2 hf.1, h1.2.2.2⟩, fun k hk => ⟨h.red.down i hi k hk, fun e => ?_⟩⟩, h1.2.2.1⟩
    rcases h.ord i hi k hk with h2 | h2 <;> omega
theorem Tb.can {sh : Int → Nat} {u : List Nd} (h : Tb sh u) {r : Nat} (hr : r < u.length) : grB (K.expo u (r : Nat)) = true ∧ Can (K.expo u (r : Nat)) := by
  have hc := expo_can h.red hr
  exact ⟨(h.expo hr).grs.gr hc.ne, hc⟩
theorem can_cn {d : List Nd} (hg : grB d = true) (hc : Can d) : cn d = d := by
  have := imp_expo hc red_nil
  unfold cn
  rw [(gr_root hg).1] at this
  exact this
theorem cn_tb {l : List Nd} (h : grB l = true) : ∃ sh, GrS sh l ∧ Tb sh (imp [] [] l).1 := by
  obtain ⟨sh, hs⟩ := gr_sh h
  have := (imp_tb (tb_nil sh) hs l.length (Nat.le_refl _)).1
  rw [List.take_length] at this
  exact ⟨sh, hs, this⟩
theorem cn_gr {l : List Nd} (h : grB l = true) : grB (cn l) = true ∧ Can (cn l) := by
  obtain ⟨sh, _, ht⟩ := cn_tb h
  exact ht.can (gr_root h).2
theorem cn_cn {l : List Nd} (h : grB l = true) : cn (cn l) = cn l := can_cn (cn_gr h).1 (cn_gr h).2
/-- a diagram that Validate accepts -/
theorem val_ok {l : List Nd} (h : valE l = 0) : grB l = true ∧ cn l = l ∧ l.length ≤ 20000 := by
  unfold valE at h
  by_cases h0 : redE l = 0
  · rw [if_pos h0] at h
    have hg : grB l = true := by
      unfold redE at h0
      by_cases hg : grB l = true
      · exact hg
      · rw [if_neg hg] at h0; cases h0
    have hc : cn l = l := by
      by_cases hq : cn l = l
      · exact hq
      · rw [if_neg hq] at h; cases h
    refine ⟨hg, hc, ?_⟩
    unfold redE at h0
    rw [if_pos hg, hc] at h0
    by_cases hl : l.length ≤ 20000
    · exact hl
    · rw [if_neg hl] at h0; cases h0
  · rw [if_neg h0] at h; exact absurd h h0
theorem val_of {l : List Nd} (hg : grB l = true) (hc : cn l = l) (hl : l.length ≤ 20000) : valE l = 0 ∧ redE l = 0 ∧ redL l = l := by
  have h0 : redE l = 0 := by unfold redE; rw [if_pos hg, hc, if_pos hl]
  refine ⟨?_, h0, ?_⟩
  · unfold valE; rw [if_pos h0, if_pos hc]
  · unfold redL; rw [if_pos h0, hc]
theorem red_settles {l : List Nd} (h : redE l = 0) : valE (redL l) = 0 ∧ redE (redL l) = 0 ∧ redL (redL l) = redL l := by
  have hg : grB l = true := by
    unfold redE at h
    by_cases hg : grB l = true
    · exact hg
    · rw [if_neg hg] at h; cases h
  have e : redL l = cn l := by unfold redL; rw [if_pos h]
  rw [e]
  exact val_of (cn_gr hg).1 (cn_cn hg) (by rw [← e]; exact redL_kids)
theorem gr_ok {l : List Nd} (h : grB l = true) (hl : l.length ≤ 1000000) : ndOk l = true := by
  unfold ndOk
  rw [Bool.and_eq_true, List.all_eq_true]
  refine ⟨fun n hn => decide_eq_true ?_, decide_eq_true (by omega)⟩
  have hk := gr_kids h n hn
  obtain ⟨i, hi, rfl⟩ := mem_nth hn
  rcases gr_nd h hi with h1 | h1
  · have := lf_iff.1 h1; omega
  · have := (br_iff.1 h1).1; omega
end Go.Proofs.YtopbjginpmdebaaDoor.K
