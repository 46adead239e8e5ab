/- DualFan: the plain law: what is computed of each fan. -/
import Derived.Test.YtagofpmcbbkmgaaF1
import Derived.Test.YtagofpmcbbkmgaaR2
namespace Go.Proofs.Ytagofpmcbbkmgaa
open Go.RowKit Go.Sort

def fanP (w : Int) : List (Int × Int) := [(0, 0), (2 * w, 0), (w, 2 * w), (-w, 2 * w), (-2 * w, 0), (-w, -2 * w), (w, -2 * w)]
def fanT (n : Nat) : List (Int × Int × Int) := (List.range n).map fun (j : Nat) => ((0 : Int), (j : Int) + 1, (j : Int) + 1 + 1)
def fanS0 : Nat → List (Int × Int)
  | 0 => []
  | n + 1 => layP (fanS0 n) ((n : Int) + 1, (n : Int) + 1 + 1)
def fanS (n : Nat) : List (Int × Int) := layP (layP (fanS0 n) (0, 1)) (0, (n : Int) + 1)
def fanL (n : Nat) : List (Int × Int) := (List.range n).map fun (j : Nat) => ((j : Int), (j : Int) + 1)
def fanOK (n : Nat) (w : Int) : Bool := chkI ((fanP w).take (n + 2)) (fanT n) (fanS n) == 0 && outN ((fanP w).take (n + 2)) (fanT n) (fanS n) (3 * (fanT n).length) == fanL (n - 1)
theorem fan2 : (List.range 256).all (fun w : Nat => fanOK 2 (10 + (w : Int))) = true := by decide +kernel
theorem fan3 : (List.range 256).all (fun w : Nat => fanOK 3 (10 + (w : Int))) = true := by decide +kernel
theorem fan4 : (List.range 256).all (fun w : Nat => fanOK 4 (10 + (w : Int))) = true := by decide +kernel
theorem fan5 : (List.range 256).all (fun w : Nat => fanOK 5 (10 + (w : Int))) = true := by decide +kernel

theorem fanT_length (n : Nat) : (fanT n).length = n := by simp [fanT]
theorem fanT_succ (n : Nat) : fanT (n + 1) = fanT n ++ [((0 : Int), (n : Int) + 1, (n : Int) + 1 + 1)] := by simp [fanT, List.range_succ]
theorem fanL_length (n : Nat) : (fanL n).length = n := by simp [fanL]
theorem fanL_get {n j : Nat} (h : j < n) : at2 (fanL n) j = ((j : Int), (j : Int) + 1) := by
  simp [at2, fanL, List.getD, List.getElem?_range h]
theorem layP_length (l : List (Int × Int)) (s : Int × Int) : (layP l s).length ≤ l.length + 1 := by
  unfold layP layK layAt
  simp only [List.length_append, List.length_take, List.length_drop, List.length_singleton]
  split <;> omega
theorem fanS0_length : ∀ n, (fanS0 n).length ≤ n
  | 0 => by simp [fanS0]
  | n + 1 => by have := fanS0_length n; have := layP_length (fanS0 n) ((n : Int) + 1, (n : Int) + 1 + 1); unfold fanS0; omega
theorem fanS_length (n : Nat) : (fanS n).length ≤ n + 2 := by
  have := fanS0_length n
  have h1 := layP_length (fanS0 n) (0, 1)
  have h2 := layP_length (layP (fanS0 n) (0, 1)) (0, (n : Int) + 1)
  unfold fanS
  omega
theorem fanP_length (w : Int) (n : Nat) (h : n ≤ 5) : ((fanP w).take (n + 2)).length = n + 2 := by simp [fanP]; omega
theorem sortS_fanL (n : Nat) : sortS (fanL n) = fanL n := by
  unfold sortS
  apply List.mergeSort_of_pairwise
  unfold fanL
  rw [List.pairwise_map]
  refine List.Pairwise.imp ?_ List.pairwise_lt_range
  intro a b h
  rw [lt_ordS]
  simp
  omega
theorem fan_all {n : Nat} {w : Int} (h2 : 2 ≤ n) (h5 : n ≤ 5) (hw : 10 ≤ w) (hw' : w ≤ 265) : chkI ((fanP w).take (n + 2)) (fanT n) (fanS n) = 0 ∧ pairsP ((fanP w).take (n + 2)) (fanT n) (fanS n) = fanL (n - 1) := by
  have key : fanOK n w = true := by
    have hb : ∀ m, (List.range 256).all (fun w : Nat => fanOK m (10 + (w : Int))) = true → fanOK m w = true := fun m h => by
      have := List.all_eq_true.1 h (w - 10).toNat (List.mem_range.2 (by omega))
      rw [show 10 + ((w - 10).toNat : Int) = w by omega] at this
      exact this
    have : n = 2 ∨ n = 3 ∨ n = 4 ∨ n = 5 := by omega
    rcases this with rfl | rfl | rfl | rfl
    · exact hb _ fan2
    · exact hb _ fan3
    · exact hb _ fan4
    · exact hb _ fan5
  unfold fanOK at key
  simp only [Bool.and_eq_true, beq_iff_eq] at key
  refine ⟨key.1, ?_⟩
  unfold pairsP
  rw [if_pos key.1, key.2, sortS_fanL]
end Go.Proofs.Ytagofpmcbbkmgaa
