/- The plain law of DualGraph: which two triangles are a pair; at most three beside one; a walk through all twos in their order. -/
import Derived.Test.YtagofpmcbbkmgaaCM
import Derived.Test.YtagofpmcbbkmgaaR1
import Derived.Test.YtagofpmcbbkmgaaC1
namespace Go.Proofs.Ytagofpmcbbkmgaa
open Go.RowKit Go.Sort

theorem shStep_none (s : (Int × Int × Int × Int) × Int) (x y : Int × Int × Int) (h : ¬ (x.1 = y.2.1 ∧ x.2.1 = y.1)) : shStep s x y = s := by unfold shStep; rw [if_neg h]
theorem shRow_none (s : (Int × Int × Int × Int) × Int) (x b : Int × Int × Int) : ∀ n, n ≤ 3 → (∀ j, j < 3 → ¬ (x.1 = (sideT b j).2.1 ∧ x.2.1 = (sideT b j).1)) → shRow s x b n = s
  | 0, _, _ => rfl
  | n + 1, hn, h => by
    simp only [shRow]
    rw [shRow_none s x b n (by omega) h, shStep_none _ _ _ (h n (by omega))]
theorem shAll_none (a b : Int × Int × Int) : ∀ n, n ≤ 3 → (∀ p, p < 3 → ¬ meets a b p) → (shAll a b n).2 = 0
  | 0, _, _ => rfl
  | n + 1, hn, h => by
    simp only [shAll]
    rw [shRow_none _ _ _ 3 (Nat.le_refl _) (fun j hj hc => h n (by omega) ⟨j, hj, hc⟩)]
    exact shAll_none a b n (by omega) h
theorem shared_meets {a b : Int × Int × Int} (h : (sharedP a b).2 = true) : ∃ p, p < 3 ∧ meets a b p := by
  apply Classical.byContradiction
  intro hn
  have h0 := shAll_none a b 3 (Nat.le_refl _) (fun p hp hm => hn ⟨p, hp, hm⟩)
  unfold sharedP at h
  rw [h0] at h
  cases h
theorem whoE_edge {ts : List (Int × Int × Int)} (hd : (allE ts).Nodup) {m : Nat} (hm : m < 3 * ts.length) : whoE ts (edgeN ts m) = some (m / 3) := by
  unfold whoE edgeIx
  cases hf : (List.range (3 * ts.length)).find? (fun i => decide (edgeN ts m = edgeN ts i)) with
  | none =>
    rw [List.find?_eq_none] at hf
    exact absurd (hf m (List.mem_range.2 hm)) (by simp)
  | some i =>
    have h1 := List.find?_some hf
    have h2 := List.mem_range.1 (List.mem_of_find?_eq_some hf)
    simp only [decide_eq_true_eq] at h1
    rw [← edgeN_inj hd hm h2 h1]
    rfl
theorem edgeN_at (ts : List (Int × Int × Int)) (i p : Nat) (hp : p < 3) : edgeN ts (3 * i + p) = ((sideT (at3 ts i) p).1, (sideT (at3 ts i) p).2.1) := by
  unfold edgeN
  rw [show (3 * i + p) / 3 = i by omega, show (3 * i + p) % 3 = p by omega]
theorem mem_sortS {l : List (Int × Int)} {x : Int × Int} : x ∈ sortS l ↔ x ∈ l := (List.mergeSort_perm l _).mem_iff
/-- the pairs -/
theorem pairsP_spec {ps : List (Int × Int)} {ts : List (Int × Int × Int)} {ss : List (Int × Int)} {x : Int × Int} (h : x ∈ pairsP ps ts ss) :
    chkI ps ts ss = 0 ∧ ∃ n, n < 3 * ts.length ∧ x ∈ candN ps ts ss n := by
  unfold pairsP at h
  by_cases h0 : chkI ps ts ss = 0
  · rw [if_pos h0] at h
    exact ⟨h0, outN_mem.1 (mem_sortS.1 h)⟩
  · rw [if_neg h0] at h; cases h
theorem pairsP_lt {ps : List (Int × Int)} {ts : List (Int × Int × Int)} {ss : List (Int × Int)} {x : Int × Int} (h : x ∈ pairsP ps ts ss) : 0 ≤ x.1 ∧ x.1 < x.2 ∧ x.2 < ts.length := by
  obtain ⟨_, n, _, hc⟩ := pairsP_spec h
  obtain ⟨k, rfl, hw, hlt, _, _⟩ := candN_spec hc
  have := whoE_lt hw
  simp only
  omega
theorem pairsP_mem {ps : List (Int × Int)} {ts : List (Int × Int × Int)} {ss : List (Int × Int)} (h0 : chkI ps ts ss = 0) {i k : Nat} (hik : i < k) (hk : k < ts.length) :
    ((i : Int), (k : Int)) ∈ pairsP ps ts ss ↔ (QuadP ps ts ss i k).isSome = true := by
  have hq : QuadP ps ts ss i k = quadP ps ss (at3 ts i) (at3 ts k) := by
    unfold QuadP
    rw [if_pos ⟨h0, by omega, by omega⟩, Int.toNat_natCast, Int.toNat_natCast]
  rw [hq]
  constructor
  · intro h
    obtain ⟨_, n, _, hc⟩ := pairsP_spec h
    obtain ⟨k', he, hw, hlt, hs, _⟩ := candN_spec hc
    simp only [Prod.mk.injEq, Int.natCast_inj] at he
    obtain ⟨rfl, rfl⟩ := he
    exact hs
  · intro h
    obtain ⟨p, hp, j, hj, e1, e2⟩ := shared_meets (quadP_shared h)
    unfold pairsP
    rw [if_pos h0]
    refine mem_sortS.2 (outN_mem.2 ⟨3 * i + p, by omega, ?_⟩)
    have hw : whoE ts (revS (edgeN ts (3 * i + p))) = some k := by
      have hd := chk_nodup h0
      have := whoE_edge hd (m := 3 * k + j) (by omega)
      rw [show (3 * k + j) / 3 = k by omega, edgeN_at ts k j hj] at this
      rw [edgeN_at ts i p hp]
      unfold revS
      simp only
      rw [e1, e2]
      exact this
    unfold candN
    rw [hw]
    simp only
    rw [if_pos ⟨by omega, by rw [show (3 * i + p) / 3 = i by omega]; exact h⟩, show (3 * i + p) / 3 = i by omega]
    exact List.mem_singleton.2 rfl

/-- in which order the pairs lie -/
def ltS (x y : Int × Int) : Prop := x.1 < y.1 ∨ x.1 = y.1 ∧ x.2 < y.2
theorem nodup_pairs (ps : List (Int × Int)) (ts : List (Int × Int × Int)) (ss : List (Int × Int)) : (pairsP ps ts ss).Nodup := by
  unfold pairsP
  split
  · exact (List.mergeSort_perm _ _).nodup_iff.2 (outN_nodup ps ts ss _)
  · exact List.nodup_nil
theorem pairs_up (ps : List (Int × Int)) (ts : List (Int × Int × Int)) (ss : List (Int × Int)) : (pairsP ps ts ss).Pairwise ltS := by
  have hn := nodup_pairs ps ts ss
  have hp : (pairsP ps ts ss).Pairwise (fun x y => (!ltOf ordS y x) = true) := by
    unfold pairsP
    split
    · refine List.pairwise_mergeSort ?_ ?_ _
      · intro a b c h1 h2
        simp only [lt_ordS] at *
        simp at *
        omega
      · intro a b
        simp only [lt_ordS]
        simp
        omega
    · exact List.Pairwise.nil
  have := hp.and hn
  refine this.imp ?_
  rintro ⟨a, b⟩ ⟨c, d⟩ ⟨h1, h2⟩
  simp only [lt_ordS] at h1
  simp at h1 h2
  unfold ltS
  simp only
  omega
theorem at2_mem {l : List (Int × Int)} {j : Nat} (h : j < l.length) : at2 l j ∈ l := List.mem_of_getElem? (i := j) (by simp [at2, List.getD, List.getElem?_eq_getElem h])
theorem pairwise_at2 {R : Int × Int → Int × Int → Prop} {l : List (Int × Int)} (h : l.Pairwise R) {i j : Nat} (hij : i < j) (hj : j < l.length) : R (at2 l i) (at2 l j) := by
  have := (List.pairwise_iff_getElem.1 h) i j (by omega) hj hij
  simpa [at2, List.getD, List.getElem?_eq_getElem hj, List.getElem?_eq_getElem (by omega : i < l.length)] using this
/-- n of the pairs come before x -/
def CutAt (pl : List (Int × Int)) (x : Int × Int) (n : Nat) : Prop := n ≤ pl.length ∧ (∀ j, j < n → ltS (at2 pl j) x) ∧ ∀ j, n ≤ j → j < pl.length → ¬ ltS (at2 pl j) x
theorem cut_told {pl : List (Int × Int)} (hp : pl.Pairwise ltS) {x : Int × Int} {n : Nat} (h : CutAt pl x n) : (n < pl.length ∧ at2 pl n = x) ↔ x ∈ pl := by
  constructor
  · rintro ⟨h1, rfl⟩
    exact at2_mem h1
  · intro hm
    obtain ⟨j, hj⟩ := List.getElem?_of_mem hm
    have hjl := (List.getElem?_eq_some_iff.1 hj).1
    have hx : at2 pl j = x := by simp [at2, List.getD, hj]
    have h1 : n ≤ j := by
      apply Classical.byContradiction
      intro hc
      have := h.2.1 j (by omega)
      rw [hx] at this
      unfold ltS at this
      omega
    have h2 : n = j := by
      apply Classical.byContradiction
      intro hc
      have h3 := h.2.2 n (Nat.le_refl _) (by omega)
      have h4 := pairwise_at2 hp (i := n) (j := j) (by omega) hjl
      rw [hx] at h4
      exact h3 h4
    subst h2
    exact ⟨hjl, hx⟩
theorem cut_yes {pl : List (Int × Int)} (hp : pl.Pairwise ltS) {i k : Int} {n : Nat} (h : CutAt pl (i, k) n) (hn : n < pl.length) (he : at2 pl n = (i, k)) : CutAt pl (i, k + 1) (n + 1) := by
  refine ⟨by omega, fun j hj => ?_, fun j hj hjl hc => ?_⟩
  · by_cases e : j = n
    · subst e; rw [he]; exact Or.inr ⟨rfl, by simp only; omega⟩
    · have := h.2.1 j (by omega)
      unfold ltS at *
      simp only at *
      omega
  · have := pairwise_at2 hp (i := n) (j := j) (by omega) hjl
    rw [he] at this
    unfold ltS at *
    simp only at *
    omega
theorem cut_no {pl : List (Int × Int)} {i k : Int} {n : Nat} (h : CutAt pl (i, k) n) (hx : (i, k) ∉ pl) : CutAt pl (i, k + 1) n := by
  refine ⟨h.1, fun j hj => ?_, fun j hj hjl hc => ?_⟩
  · have := h.2.1 j hj
    unfold ltS at *
    simp only at *
    omega
  · have h1 := h.2.2 j hj hjl
    have h2 := at2_mem hjl
    have h3 : at2 pl j ≠ (i, k) := fun e => hx (e ▸ h2)
    have h4 : ¬ ((at2 pl j).1 = i ∧ (at2 pl j).2 = k) := fun e => h3 (by rw [← e.1, ← e.2])
    unfold ltS at *
    simp only at *
    omega
theorem cut_row {pl : List (Int × Int)} {T : Nat} (hb : ∀ x ∈ pl, 0 ≤ x.1 ∧ x.1 < x.2 ∧ x.2 < T) {i n : Nat} (h : CutAt pl (i, T) n) : CutAt pl (((i + 1 : Nat) : Int), ((i + 1 + 1 : Nat) : Int)) n := by
  refine ⟨h.1, fun j hj => ?_, fun j hj hjl hc => ?_⟩
  · have := h.2.1 j hj
    unfold ltS at *
    simp only at *
    omega
  · have h1 := h.2.2 j hj hjl
    have h2 := hb _ (at2_mem hjl)
    unfold ltS at *
    simp only at *
    omega
theorem cut_first {pl : List (Int × Int)} {T : Nat} (hb : ∀ x ∈ pl, 0 ≤ x.1 ∧ x.1 < x.2 ∧ x.2 < T) : CutAt pl (0, 1) 0 := by
  refine ⟨Nat.zero_le _, fun j hj => absurd hj (Nat.not_lt_zero _), fun j hj hjl hc => ?_⟩
  have h2 := hb _ (at2_mem hjl)
  unfold ltS at *
  simp only at *
  omega
theorem cut_last {pl : List (Int × Int)} {T : Nat} (hb : ∀ x ∈ pl, 0 ≤ x.1 ∧ x.1 < x.2 ∧ x.2 < T) {n : Nat} {k : Int} (h : CutAt pl (T, k) n) : n = pl.length := by
  apply Classical.byContradiction
  intro hc
  have hl := h.1
  have h1 := h.2.2 n (Nat.le_refl _) (by omega)
  have h2 := hb _ (at2_mem (l := pl) (j := n) (by omega))
  unfold ltS at h1
  simp only at h1
  omega

theorem nodup_le {α : Type} [DecidableEq α] : ∀ (l m : List α), l.Nodup → (∀ x ∈ l, x ∈ m) → l.length ≤ m.length
  | [], _, _, _ => Nat.zero_le _
  | x :: l, m, hn, hs => by
    have hx := hs x (List.mem_cons_self ..)
    have h1 := nodup_le l (m.erase x) (List.nodup_cons.1 hn).2 (fun y hy => by
      have hne : y ≠ x := fun e => (List.nodup_cons.1 hn).1 (e ▸ hy)
      exact (List.mem_erase_of_ne hne).2 (hs y (List.mem_cons_of_mem _ hy)))
    rw [List.length_erase_of_mem hx] at h1
    have := List.length_pos_of_mem hx
    simp only [List.length_cons]
    omega
theorem besideS_mem {i y : Int} {s : Int × Int} (h : y ∈ besideS i s) (hlt : s.1 < s.2) : (i = s.1 ∧ y = s.2) ∨ (i = s.2 ∧ y = s.1) := by
  unfold besideS at h
  split at h
  · rename_i e; exact Or.inl ⟨e, List.mem_singleton.1 h⟩
  · split at h
    · rename_i e; exact Or.inr ⟨e, List.mem_singleton.1 h⟩
    · cases h
theorem besideL_nodup (i : Int) : ∀ (l : List (Int × Int)), l.Nodup → (∀ x ∈ l, x.1 < x.2) → (besideL i l).Nodup
  | [], _, _ => List.nodup_nil
  | s :: l, hn, hb => by
    have ih := besideL_nodup i l (List.nodup_cons.1 hn).2 (fun x hx => hb x (List.mem_cons_of_mem _ hx))
    unfold besideL at ih ⊢
    rw [List.flatMap_cons, List.nodup_append]
    refine ⟨?_, ih, ?_⟩
    · unfold besideS
      split
      · simp
      · split <;> simp
    · rintro x hx y hy rfl
      obtain ⟨t, ht, hy⟩ := List.mem_flatMap.1 hy
      have h1 := besideS_mem hx (hb s (List.mem_cons_self ..))
      have h2 := besideS_mem hy (hb t (List.mem_cons_of_mem _ ht))
      have h3 := hb s (List.mem_cons_self ..)
      have h4 := hb t (List.mem_cons_of_mem _ ht)
      have : s = t := by
        obtain ⟨s1, s2⟩ := s
        obtain ⟨t1, t2⟩ := t
        simp only [Prod.mk.injEq] at *
        omega
      exact (List.nodup_cons.1 hn).1 (this ▸ ht)
theorem beside_three (ps : List (Int × Int)) (ts : List (Int × Int × Int)) (ss : List (Int × Int)) (i : Nat) (hi : i < ts.length) : (besideP ps ts ss i).length ≤ 3 := by
  unfold besideP sortI
  rw [List.length_mergeSort]
  have hb : ∀ x ∈ pairsP ps ts ss, x.1 < x.2 := fun x hx => (pairsP_lt hx).2.1
  refine nodup_le _ ([0, 1, 2].map fun p => (((whoE ts (revS (edgeN ts (3 * i + p)))).getD 0 : Nat) : Int)) (besideL_nodup _ _ (nodup_pairs ps ts ss) hb) (fun y hy => ?_)
  unfold besideL at hy
  obtain ⟨s, hs, hy⟩ := List.mem_flatMap.1 hy
  obtain ⟨h0, n, hn, hc⟩ := pairsP_spec hs
  obtain ⟨k, rfl, hw, hlt, hq, _⟩ := candN_spec hc
  rw [List.mem_map]
  have hp3 : ∀ p, p < 3 → p ∈ [0, 1, 2] := by intro p hp; simp; omega
  rcases besideS_mem hy (by simp only; omega) with ⟨e1, e2⟩ | ⟨e1, e2⟩
  · simp only [Int.natCast_inj] at e1 e2
    subst e1
    refine ⟨n % 3, hp3 _ (by omega), ?_⟩
    rw [show 3 * (n / 3) + n % 3 = n by omega, hw, e2]
    rfl
  · simp only [Int.natCast_inj] at e1 e2
    subst e1
    obtain ⟨j, hj, he⟩ := whoE_spec hw
    refine ⟨j, hp3 j hj, ?_⟩
    rw [edgeN_at ts i j hj, ← he, show revS (revS (edgeN ts n)) = edgeN ts n from rfl, whoE_edge (chk_nodup h0) hn, e2]
    rfl
end Go.Proofs.Ytagofpmcbbkmgaa
