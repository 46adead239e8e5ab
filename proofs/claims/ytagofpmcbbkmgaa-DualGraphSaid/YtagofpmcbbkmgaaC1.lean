/- DualCut: the plain law. -/
import Derived.Test.YtagofpmcbbkmgaaR14
namespace Go.Proofs.Ytagofpmcbbkmgaa
open Go.RowKit Go.Sort

theorem orientP_cyc (a b c : Int × Int) : orientP a b c = orientP b c a := by
  unfold orientP
  rw [← area_orient, ← area_orient]
  have e : areaI a.1 a.2 b.1 b.2 c.1 c.2 = areaI b.1 b.2 c.1 c.2 a.1 a.2 := by unfold areaI; omega
  rw [e]
  cases fitB a <;> cases fitB b <;> cases fitB c <;> rfl
theorem convex4 (p q r s : Int × Int) : convexB [p, q, r, s] = ((orientP p q r == 1) && (orientP p q s == 1) && (orientP p r s == 1) && (orientP q r s == 1)) := by
  rw [Bool.eq_iff_iff, convex_iff]
  simp only [Bool.and_eq_true]
  constructor
  · rintro ⟨h, -⟩
    exact ⟨⟨⟨h 0 1 2 (by omega) (by omega) (by simp), h 0 1 3 (by omega) (by omega) (by simp)⟩, h 0 2 3 (by omega) (by omega) (by simp)⟩, h 1 2 3 (by omega) (by omega) (by simp)⟩
  · rintro ⟨⟨⟨h0, h1⟩, h2⟩, h3⟩
    refine ⟨fun i k j hik hkj hj => ?_, by simp⟩
    have hj' : j < 4 := hj
    have : (i = 0 ∧ k = 1 ∧ j = 2) ∨ (i = 0 ∧ k = 1 ∧ j = 3) ∨ (i = 0 ∧ k = 2 ∧ j = 3) ∨ (i = 1 ∧ k = 2 ∧ j = 3) := by omega
    rcases this with ⟨rfl, rfl, rfl⟩ | ⟨rfl, rfl, rfl⟩ | ⟨rfl, rfl, rfl⟩ | ⟨rfl, rfl, rfl⟩
    · exact h0
    · exact h1
    · exact h2
    · exact h3
theorem convex_turn (p q r s : Int × Int) : convexB [q, r, s, p] = convexB [p, q, r, s] := by
  rw [convex4, convex4, orientP_cyc p q r, orientP_cyc p q s, orientP_cyc p r s]
  cases orientP q r s == 1 <;> cases orientP q r p == 1 <;> cases orientP q s p == 1 <;> cases orientP r s p == 1 <;> rfl

def cutT : List (Int × Int × Int) := [(0, 1, 2), (0, 2, 3)]
def cutU : List (Int × Int × Int) := [(0, 1, 3), (1, 2, 3)]
def cutS : List (Int × Int) := [(0, 1), (0, 3), (1, 2), (2, 3)]
def cutS2 : List (Int × Int) := [(0, 1), (0, 2), (0, 3), (1, 2), (2, 3)]

theorem tri_up (ps : List (Int × Int)) (i j k : Nat) (hi : i < ps.length) (hj : j < ps.length) (hk : k < ps.length) (hij : i < j) (hik : i < k) (h : orientP (at2 ps i) (at2 ps j) (at2 ps k) = 1) : triP ps i j k = some ((i : Int), (j : Int), (k : Int)) := by
  unfold triP
  have h1 : (inR ps.length i && inR ps.length j && inR ps.length k) = true := by
    unfold inR; simp; omega
  rw [if_pos h1]
  simp only [Int.toNat_natCast, h]
  rw [if_neg (by decide), if_neg (by decide)]
  unfold rotTri
  rw [if_pos (by omega)]
theorem cut_chk {a b c d : Int × Int} (h1 : orientP a b c = 1) (h2 : orientP a c d = 1) (ss : List (Int × Int)) (hs : ss = cutS ∨ ss = cutS2) : chkI [a, b, c, d] cutT ss = 0 := by
  have t1 := tri_up [a, b, c, d] 0 1 2 (by simp) (by simp) (by simp) (by omega) (by omega) h1
  have t2 := tri_up [a, b, c, d] 0 2 3 (by simp) (by simp) (by simp) (by omega) (by omega) h2
  have ho : ∀ i, i < 2 → okT [a, b, c, d] cutT i = true := fun i hi => by
    have : i = 0 ∨ i = 1 := by omega
    rcases this with rfl | rfl
    · show ((triP [a, b, c, d] 0 1 2 == some (0, 1, 2)) && _) = true
      have : triP [a, b, c, d] 0 1 2 = some (0, 1, 2) := t1
      rw [this]; decide
    · show ((triP [a, b, c, d] 0 2 3 == some (0, 2, 3)) && _) = true
      have : triP [a, b, c, d] 0 2 3 = some (0, 2, 3) := t2
      rw [this]; decide +kernel
  unfold chkI
  rw [if_pos]
  unfold checkB
  have e : (List.range cutT.length).all (okT [a, b, c, d] cutT) = true := by
    rw [List.all_eq_true]
    intro i hi
    exact ho i (by have := List.mem_range.1 hi; simpa [cutT] using this)
  rw [e]
  rcases hs with rfl | rfl <;> decide +kernel
theorem cut_quad {a b c d : Int × Int} (h1 : orientP a b c = 1) (h2 : orientP a c d = 1) : QuadP [a, b, c, d] cutT cutS 0 1 = if convexB [a, b, c, d] = true then some [0, 1, 2, 3] else none := by
  unfold QuadP
  rw [if_pos ⟨cut_chk h1 h2 _ (Or.inl rfl), by decide, by decide⟩]
  show quadP [a, b, c, d] cutS (0, 1, 2) (0, 2, 3) = _
  unfold quadP
  have e1 : sharedP (0, 1, 2) (0, 2, 3) = ((2, 3, 0, 1), true) := by decide +kernel
  rw [e1]
  have e2 : fromP (2, 3, 0, 1) = [0, 1, 2, 3] := by decide +kernel
  have e3 : upS (2, 0) ∉ cutS := by decide +kernel
  have e4 : convexB [at2 [a, b, c, d] (2 : Int).toNat, at2 [a, b, c, d] (3 : Int).toNat, at2 [a, b, c, d] (0 : Int).toNat, at2 [a, b, c, d] (1 : Int).toNat] = convexB [a, b, c, d] := by
    show convexB [c, d, a, b] = _
    rw [convex_turn b c d a, convex_turn a b c d]
  simp only [e2]
  rw [e4]
  cases convexB [a, b, c, d]
  · rw [if_neg (fun h => by cases h.2.2), if_neg (by decide)]
  · rw [if_pos ⟨trivial, e3, rfl⟩, if_pos rfl]
theorem cut_quad2 {a b c d : Int × Int} (h1 : orientP a b c = 1) (h2 : orientP a c d = 1) : QuadP [a, b, c, d] cutT cutS2 0 1 = none := by
  unfold QuadP
  rw [if_pos ⟨cut_chk h1 h2 _ (Or.inr rfl), by decide, by decide⟩]
  show quadP [a, b, c, d] cutS2 (0, 1, 2) (0, 2, 3) = _
  unfold quadP
  have e1 : sharedP (0, 1, 2) (0, 2, 3) = ((2, 3, 0, 1), true) := by decide +kernel
  rw [e1]
  have e3 : upS (2, 0) ∈ cutS2 := by decide +kernel
  simp only
  rw [if_neg (fun h => h.2.1 e3)]
theorem cut_chk3 {a b c d : Int × Int} (h : convexB [a, b, c, d] = true) : chkI [a, b, c, d] cutU cutS = 0 := by
  rw [convex4] at h
  simp only [Bool.and_eq_true, beq_iff_eq] at h
  have t1 := tri_up [a, b, c, d] 0 1 3 (by simp) (by simp) (by simp) (by omega) (by omega) h.1.1.2
  have t2 := tri_up [a, b, c, d] 1 2 3 (by simp) (by simp) (by simp) (by omega) (by omega) h.2
  have ho : ∀ i, i < 2 → okT [a, b, c, d] cutU i = true := fun i hi => by
    have : i = 0 ∨ i = 1 := by omega
    rcases this with rfl | rfl
    · show ((triP [a, b, c, d] 0 1 3 == some (0, 1, 3)) && _) = true
      have : triP [a, b, c, d] 0 1 3 = some (0, 1, 3) := t1
      rw [this]; decide
    · show ((triP [a, b, c, d] 1 2 3 == some (1, 2, 3)) && _) = true
      have : triP [a, b, c, d] 1 2 3 = some (1, 2, 3) := t2
      rw [this]; decide +kernel
  unfold chkI
  rw [if_pos]
  unfold checkB
  have e : (List.range cutU.length).all (okT [a, b, c, d] cutU) = true := by
    rw [List.all_eq_true]
    intro i hi
    exact ho i (by have := List.mem_range.1 hi; simpa [cutU] using this)
  rw [e]
  decide +kernel
theorem cut_quad3 {a b c d : Int × Int} (h : convexB [a, b, c, d] = true) : QuadP [a, b, c, d] cutU cutS 0 1 = some [0, 1, 2, 3] := by
  unfold QuadP
  rw [if_pos ⟨cut_chk3 h, by decide, by decide⟩]
  show quadP [a, b, c, d] cutS (0, 1, 3) (1, 2, 3) = _
  unfold quadP
  have e1 : sharedP (0, 1, 3) (1, 2, 3) = ((1, 2, 3, 0), true) := by decide +kernel
  rw [e1]
  have e2 : fromP (1, 2, 3, 0) = [0, 1, 2, 3] := by decide +kernel
  have e3 : upS (1, 3) ∉ cutS := by decide +kernel
  have e4 : convexB [at2 [a, b, c, d] (1 : Int).toNat, at2 [a, b, c, d] (2 : Int).toNat, at2 [a, b, c, d] (3 : Int).toNat, at2 [a, b, c, d] (0 : Int).toNat] = true := by
    show convexB [b, c, d, a] = _
    rw [convex_turn a b c d, h]
  simp only [e2]
  rw [if_pos ⟨trivial, e3, e4⟩]
end Go.Proofs.Ytagofpmcbbkmgaa
