/- parquetref12: Check, in plain Lean: it is fill.Check. -/
import Derived.Test.YtagofpmcbbkmgaaD2
import Derived.Test.YtagofpmcbbkmgaaCM
namespace Go.Proofs.Ytagofpmcbbkmgaa
open Go.RowKit Go.Sort

theorem leftF_ge (s : Int × Int) : ∀ (l : List (Int × Int × Int)) (k : Nat), (∃ t ∈ l, s ∈ edgesT t) → 0 ≤ leftF s k l
  | [], _, h => by obtain ⟨t, ht, _⟩ := h; cases ht
  | t :: l, k, h => by
    by_cases h0 : s ∈ edgesT t
    · simp only [leftF, h0, if_true]; omega
    · simp only [leftF, h0, if_false]
      refine leftF_ge s l (k + 1) ?_
      obtain ⟨t', ht', hs⟩ := h
      rcases List.mem_cons.1 ht' with rfl | h'
      · exact absurd hs h0
      · exact ⟨t', h', hs⟩
theorem leftF_lt (s : Int × Int) : ∀ (l : List (Int × Int × Int)) (k : Nat), leftF s k l = -1 ∨ ((k : Int) ≤ leftF s k l ∧ leftF s k l < k + l.length ∧ s ∈ edgesT (at3 l (leftF s k l - k).toNat))
  | [], _ => Or.inl rfl
  | t :: l, k => by
    by_cases h0 : s ∈ edgesT t
    · right
      have e : leftF s k (t :: l) = k := by simp only [leftF, h0, if_true]
      rw [e]
      refine ⟨Int.le_refl _, by simp; omega, ?_⟩
      rw [Int.sub_self]
      exact h0
    · have e : leftF s k (t :: l) = leftF s (k + 1) l := by simp only [leftF, h0, if_false]
      rw [e]
      rcases leftF_lt s l (k + 1) with h | ⟨h1, h2, h3⟩
      · exact Or.inl h
      · right
        refine ⟨by omega, by simp only [List.length_cons]; omega, ?_⟩
        have e2 : (leftF s (k + 1) l - k).toNat = (leftF s (k + 1) l - ((k + 1 : Nat) : Int)).toNat + 1 := by omega
        rw [e2]
        simpa [at3] using h3
theorem allE_iff {ts : List (Int × Int × Int)} {s : Int × Int} : s ∈ allE ts ↔ ∃ t ∈ ts, s ∈ edgesT t := by unfold allE; rw [List.mem_flatMap]
theorem leftI_ge {ts : List (Int × Int × Int)} {s : Int × Int} : 0 ≤ leftI ts s ↔ s ∈ allE ts := by
  rw [allE_iff]
  constructor
  · intro h
    rcases leftF_lt s ts 0 with h1 | ⟨h1, h2, h3⟩
    · unfold leftI at h; omega
    · have hl : (leftF s 0 ts - (0 : Nat)).toNat < ts.length := by omega
      exact ⟨_, List.mem_of_getElem? (at3_get hl), h3⟩
  · exact leftF_ge s ts 0
theorem leftI_lt {ts : List (Int × Int × Int)} {s : Int × Int} : leftI ts s < 0 ↔ s ∉ allE ts := by
  rw [← leftI_ge]; omega

/-- a side of triangle i may be -/
def sideOK (ts : List (Int × Int × Int)) (ss : List (Int × Int)) (i : Nat) (s : Int × Int) : Prop := leftI ts s = (i : Int) ∧ ¬ (leftI ts (revS s) < 0 ∧ hasB ss s.1 s.2 = false)
def segOK (ts : List (Int × Int × Int)) (ss : List (Int × Int)) (i : Nat) : Prop :=
  ¬ (at2 ss i).2 ≤ (at2 ss i).1 ∧ ¬ (0 < i ∧ ((at2 ss i).1 < (at2 ss (i - 1)).1 ∨ (at2 ss (i - 1)).1 = (at2 ss i).1 ∧ (at2 ss i).2 ≤ (at2 ss (i - 1)).2)) ∧ ¬ (leftI ts (at2 ss i) < 0 ∧ leftI ts (revS (at2 ss i)) < 0)
theorem segOK_iff (ts : List (Int × Int × Int)) (ss : List (Int × Int)) (i : Nat) : segOK ts ss i ↔ okS ts ss i = true := by
  unfold segOK okS
  rw [leftI_lt, leftI_lt]
  simp only [Bool.and_eq_true, Bool.or_eq_true, decide_eq_true_eq, beq_iff_eq, bySegI_neg]
  have h1 : ¬ (at2 ss i ∉ allE ts ∧ revS (at2 ss i) ∉ allE ts) ↔ (at2 ss i ∈ allE ts ∨ revS (at2 ss i) ∈ allE ts) := by
    constructor
    · intro h
      by_cases h2 : at2 ss i ∈ allE ts
      · exact Or.inl h2
      · exact Or.inr (Decidable.byContradiction fun h3 => h ⟨h2, h3⟩)
    · rintro (h | h) ⟨h2, h3⟩
      · exact h2 h
      · exact h3 h
  rw [h1]
  constructor
  · rintro ⟨h2, h3, h4⟩; exact ⟨⟨by omega, by omega⟩, h4⟩
  · rintro ⟨⟨h2, h3⟩, h4⟩; exact ⟨by omega, by omega, h4⟩
theorem edge_in (ts : List (Int × Int × Int)) (i k : Nat) (hk : k < 3) : edgeN ts (3 * i + k) = at2 (edgesT (at3 ts i)) k := by
  unfold edgeN
  rw [show (3 * i + k) / 3 = i by omega, show (3 * i + k) % 3 = k by omega]
  have : k = 0 ∨ k = 1 ∨ k = 2 := by omega
  rcases this with rfl | rfl | rfl <;> rfl
theorem mem_edges {t : Int × Int × Int} {s : Int × Int} (h : s ∈ edgesT t) : ∃ k, k < 3 ∧ at2 (edgesT t) k = s := by
  simp only [edgesT, List.mem_cons, List.not_mem_nil, or_false] at h
  rcases h with rfl | rfl | rfl
  · exact ⟨0, by omega, rfl⟩
  · exact ⟨1, by omega, rfl⟩
  · exact ⟨2, by omega, rfl⟩
theorem edge_mem (ts : List (Int × Int × Int)) (i : Nat) (hi : i < ts.length) {s : Int × Int} (h : s ∈ edgesT (at3 ts i)) : s ∈ allE ts := allE_iff.2 ⟨_, List.mem_of_getElem? (at3_get hi), h⟩
theorem chk12_of {ps : List (Int × Int)} {ts : List (Int × Int × Int)} {ss : List (Int × Int)} (h : chkI ps ts ss = 0) :
    (∀ i, i < ts.length → okT ps ts i = true) ∧ (∀ i, i < ts.length → ∀ s ∈ edgesT (at3 ts i), sideOK ts ss i s) ∧ (∀ i, i < ss.length → segOK ts ss i) := by
  have hc := chk_check h
  have hn := chk_nodup h
  unfold checkB at hc
  simp only [Bool.and_eq_true, List.all_eq_true, List.mem_range, Bool.or_eq_true, decide_eq_true_eq] at hc
  obtain ⟨⟨⟨hT, _⟩, hS⟩, hE⟩ := hc
  refine ⟨hT, fun i hi s hs => ⟨?_, ?_⟩, fun i hi => (segOK_iff ts ss i).2 (hS i hi)⟩
  · refine (leftF_take s ts 0 i hi (fun j hj hm => ?_) hs).trans (by simp)
    obtain ⟨k, hk, rfl⟩ := mem_edges hs
    obtain ⟨k', hk', he⟩ := mem_edges hm
    have := edgeN_inj hn (i := 3 * i + k) (j := 3 * j + k') (by omega) (by omega) (by rw [edge_in _ _ _ hk, edge_in _ _ _ hk', he])
    omega
  · rintro ⟨h1, h2⟩
    rw [leftI_lt] at h1
    rcases hE s (edge_mem ts i hi hs) with h3 | h3
    · exact h1 h3
    · obtain ⟨j, hj⟩ := List.getElem?_of_mem h3
      have hjl := (List.getElem?_eq_some_iff.1 hj).1
      rw [at2_get hjl] at hj
      have hu := Option.some.inj hj
      have := hasB_some (a := s.1) (b := s.2) hjl (by
        rw [hu]
        unfold hasS upS
        simp
        omega)
      rw [h2] at this; cases this
theorem nodup_range_map {α : Type} (f : Nat → α) (n : Nat) (h : ∀ i j, i < j → j < n → f i ≠ f j) : ((List.range n).map f).Nodup := by
  unfold List.Nodup
  rw [List.pairwise_map]
  exact List.Pairwise.imp_of_mem (fun _ hb hab => h _ _ hab (List.mem_range.1 hb)) List.pairwise_lt_range
theorem chk12_to {ps : List (Int × Int)} {ts : List (Int × Int × Int)} {ss : List (Int × Int)} (hT : ∀ i, i < ts.length → okT ps ts i = true) (hE : ∀ i, i < ts.length → ∀ s ∈ edgesT (at3 ts i), sideOK ts ss i s) (hS : ∀ i, i < ss.length → segOK ts ss i) : chkI ps ts ss = 0 := by
  have hdist : ∀ i, i < ts.length → ∀ k k', k < 3 → k' < 3 → at2 (edgesT (at3 ts i)) k = at2 (edgesT (at3 ts i)) k' → k = k' := fun i hi k k' hk hk' he => by
    have h1 := hT i hi
    unfold okT at h1
    simp only [Bool.and_eq_true] at h1
    have h2 := eq_of_beq h1.1
    have hd : (at3 ts i).1 ≠ (at3 ts i).2.1 ∧ (at3 ts i).2.1 ≠ (at3 ts i).2.2 ∧ (at3 ts i).2.2 ≠ (at3 ts i).1 := by
      have h0 : orientP (at2 ps (at3 ts i).1.toNat) (at2 ps (at3 ts i).2.1.toNat) (at2 ps (at3 ts i).2.2.toNat) ≠ 0 := fun e => by
        unfold triP at h2
        split at h2
        · simp only [e, if_true] at h2; cases h2
        · cases h2
      refine ⟨fun e => h0 (by rw [e, orientP_same]), fun e => h0 (by rw [e, orientP_cyc, orientP_same]), fun e => h0 (by rw [e, orientP_cyc, orientP_cyc, orientP_same])⟩
    have a3 : k = 0 ∨ k = 1 ∨ k = 2 := by omega
    have b3 : k' = 0 ∨ k' = 1 ∨ k' = 2 := by omega
    rcases a3 with rfl | rfl | rfl <;> rcases b3 with rfl | rfl | rfl <;> first | rfl | (exfalso; simp [edgesT, at2] at he; omega)
  have hn : (allE ts).Nodup := by
    have ha := allE_edgeN ts ts.length (Nat.le_refl _)
    rw [List.take_length] at ha
    rw [ha]
    refine nodup_range_map _ _ fun m m' hmm hm' he => ?_
    have e1 := edge_in ts (m / 3) (m % 3) (by omega)
    have e2 := edge_in ts (m' / 3) (m' % 3) (by omega)
    rw [show 3 * (m / 3) + m % 3 = m by omega] at e1
    rw [show 3 * (m' / 3) + m' % 3 = m' by omega] at e2
    have l1 := (hE (m / 3) (by omega) _ (edges_at _ (m % 3) (by omega))).1
    have l2 := (hE (m' / 3) (by omega) _ (edges_at _ (m' % 3) (by omega))).1
    rw [← e1] at l1
    rw [← e2, ← he, l1] at l2
    have hq : m / 3 = m' / 3 := by omega
    rw [e1, e2, ← hq] at he
    have := hdist (m / 3) (by omega) _ _ (by omega) (by omega) he
    omega
  unfold chkI
  rw [if_pos (check_yes (List.all_eq_true.2 fun i hi => hT i (List.mem_range.1 hi)) hn (List.all_eq_true.2 fun i hi => (segOK_iff ts ss i).1 (hS i (List.mem_range.1 hi))) fun s hs => ?_)]
  obtain ⟨t, ht, hst⟩ := allE_iff.1 hs
  obtain ⟨i, hi⟩ := List.getElem?_of_mem ht
  have hil := (List.getElem?_eq_some_iff.1 hi).1
  rw [at3_get hil] at hi
  rw [← Option.some.inj hi] at hst
  have h2 := (hE i hil s hst).2
  by_cases h3 : revS s ∈ allE ts
  · exact Or.inl h3
  · refine Or.inr ?_
    have h4 : hasB ss s.1 s.2 = true := by
      cases hc : hasB ss s.1 s.2
      · exact absurd ⟨leftI_lt.2 h3, hc⟩ h2
      · rfl
    unfold hasB at h4
    obtain ⟨u, hu, hus⟩ := List.any_eq_true.1 h4
    obtain ⟨j, hj⟩ := List.getElem?_of_mem hu
    have hjl := (List.getElem?_eq_some_iff.1 hj).1
    rw [at2_get hjl] at hj
    have h5 := (hS j hjl).1
    rw [Option.some.inj hj] at h5
    have : upS s = u := by
      unfold hasS at hus
      simp at hus
      unfold upS
      obtain ⟨u1, u2⟩ := u
      simp only at *
      apply Prod.ext <;> simp <;> omega
    rw [this]; exact hu
/-- What fails tells the number. -/
theorem chk12_bad {ps : List (Int × Int)} {ts : List (Int × Int × Int)} {ss : List (Int × Int)} (h : ¬ ((∀ i, i < ts.length → okT ps ts i = true) ∧ (∀ i, i < ts.length → ∀ s ∈ edgesT (at3 ts i), sideOK ts ss i s) ∧ (∀ i, i < ss.length → segOK ts ss i))) : chkI ps ts ss = 2 := by
  by_cases h0 : chkI ps ts ss = 0
  · exact absurd (chk12_of h0) h
  · unfold chkI at h0 ⊢
    split
    · rename_i hc; rw [if_pos hc] at h0; exact absurd rfl h0
    · rfl
end Go.Proofs.Ytagofpmcbbkmgaa
