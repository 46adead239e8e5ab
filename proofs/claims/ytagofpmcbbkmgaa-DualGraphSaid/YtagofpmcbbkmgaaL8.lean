/- cmp.Or of a few numbers; package fill: bySeg, byTri, up, edges. -/
import Derived.Test.YtagofpmcbbkmgaaL7
import Derived.StillTailTactics
namespace Go.Proofs.Ytagofpmcbbkmgaa
open Go.RowKit

/-- the first that is not 0 -/
def orL : List Int → Int
  | [] => 0
  | x :: l => if x = 0 then orL l else x
theorem orL_skip (l : List Int) (k : Nat) (h : l[k]? = some 0) : orL (l.drop k) = orL (l.drop (k + 1)) := by
  obtain ⟨hk, e⟩ := List.getElem?_eq_some_iff.1 h
  rw [List.drop_eq_getElem_cons hk, e]; simp [orL]
theorem orL_hit (l : List Int) (k : Nat) (x : Int) (h : l[k]? = some x) (h0 : x ≠ 0) : orL (l.drop k) = x := by
  obtain ⟨hk, e⟩ := List.getElem?_eq_some_iff.1 h
  rw [List.drop_eq_getElem_cons hk, e]; simp [orL, h0]

set_option maxHeartbeats 400000 in
theorem or_any (A : Option Addr) (c : Nat) (l : List Int) (w : World) (hl : l.length ≤ 1000000) (hR : Rd1 w A l) :
    Calls Try.prog 55 #[.slice A l.length c] w fun e w' => e = .returned (.int .i64 (orL l)) ∧ w = w' := by
  go_enter Try.func55, Try.ntmps55
  go_wp2_with fail
  go_loop [8] (fun i => ∃ k : Nat, k ≤ l.length ∧ i = .int .i64 k ∧ Hid (orL l = orL (l.drop k))) (fun i => l.length - (intOf i).toNat)
  case atStart => exact ⟨0, Nat.zero_le _, rfl, rfl⟩
  case round =>
    obtain ⟨k, hk, rfl, HS⟩ := hrel
    by_cases hlt : k < l.length
    · obtain ⟨b, o, p, rfl, hg, c0⟩ := hR.at_ hlt
      clear hR
      by_cases hp : p = 0
      · subst hp
        have HN := Lib.hid (orL_skip l k hg)
        clear hg
        go_wp2
        go_round
        case rel => exact ⟨k + 1, by omega, by go_num, show orL l = _ from HS.out.trans HN.out⟩
        case measure => simp [intOf]; omega
      · have HN := Lib.hid (orL_hit l k p hg hp)
        have hp' : (p == 0) = false := beq_eq_false_iff_ne.2 hp
        clear hg hp
        go_wp2
        go_ret
        exact ⟨ret_i64 (HN.out.symm.trans HS.out.symm), rfl⟩
    · have HN : Hid (l.drop k = []) := List.drop_of_length_le (by omega)
      go_wp2
      go_ret
      exact ⟨ret_i64 (by rw [HS.out, HN.out]; rfl), rfl⟩

theorem rd1_2 (w : World) (B : Nat) (x y : Int) (h0 : w.cell? ⟨B, 0, none⟩ = some (.int .i64 x)) (h1 : w.cell? ⟨B, 1, none⟩ = some (.int .i64 y)) : Rd1 w (some ⟨B, 0, none⟩) [x, y] := by
  refine Or.inr ⟨B, 0, rfl, fun j x hj => ?_⟩
  match j, hj with
  | 0, hj => simp at hj; subst hj; exact h0
  | 1, hj => simp at hj; subst hj; exact h1
  | n + 2, hj => simp at hj
theorem rd1_3 (w : World) (B : Nat) (x y z : Int) (h0 : w.cell? ⟨B, 0, none⟩ = some (.int .i64 x)) (h1 : w.cell? ⟨B, 1, none⟩ = some (.int .i64 y)) (h2 : w.cell? ⟨B, 2, none⟩ = some (.int .i64 z)) : Rd1 w (some ⟨B, 0, none⟩) [x, y, z] := by
  refine Or.inr ⟨B, 0, rfl, fun j x hj => ?_⟩
  match j, hj with
  | 0, hj => simp at hj; subst hj; exact h0
  | 1, hj => simp at hj; subst hj; exact h1
  | 2, hj => simp at hj; subst hj; exact h2
  | n + 3, hj => simp at hj

def byTriI (a b : Int × Int × Int) : Int := orL [Lib.compareInt a.1 b.1, Lib.compareInt a.2.1 b.2.1, Lib.compareInt a.2.2 b.2.2]
def bySegI (a b : Int × Int) : Int := orL [Lib.compareInt a.1 b.1, Lib.compareInt a.2 b.2]

set_option maxHeartbeats 1000000 in
set_option maxRecDepth 100000 in
theorem byTri_any (a0 a1 a2 b0 b1 b2 : Int) (w : World) :
    Calls Try.prog 68 #[.agg #[.int .i64 a0, .int .i64 a1, .int .i64 a2], .agg #[.int .i64 b0, .int .i64 b1, .int .i64 b2]] w fun e w' => e = .returned (.int .i64 (byTriI (a0, a1, a2) (b0, b1, b2))) ∧ Ext w w' := by
  unfold byTriI
  simp only
  have h0 := fun W => Try.cmp_Compare_int a0 b0 W
  have h1 := fun W => Try.cmp_Compare_int a1 b1 W
  have h2 := fun W => Try.cmp_Compare_int a2 b2 W
  generalize Lib.compareInt a0 b0 = x at *
  generalize Lib.compareInt a1 b1 = y at *
  generalize Lib.compareInt a2 b2 = z at *
  have H0 := Lib.hid h0
  have H1 := Lib.hid h1
  have H2 := Lib.hid h2
  clear h0 h1 h2
  have HO := Lib.hid (fun B c W h => or_any (some ⟨B, 0, none⟩) c [x, y, z] W (by simp) h)
  go_enter Try.func68, Try.ntmps68
  go_wp2_with fail
  refine wp_world (fun W => Ext w W ∧ W.cell? ⟨w.heap.size, 0, none⟩ = some (.int .i64 a0) ∧ W.cell? ⟨w.heap.size, 1, none⟩ = some (.int .i64 a1) ∧ W.cell? ⟨w.heap.size, 2, none⟩ = some (.int .i64 a2) ∧ W.cell? ⟨w.heap.size + 1, 0, none⟩ = some (.int .i64 b0) ∧ W.cell? ⟨w.heap.size + 1, 1, none⟩ = some (.int .i64 b1) ∧ W.cell? ⟨w.heap.size + 1, 2, none⟩ = some (.int .i64 b2))
    ⟨((Ext.refl _).alloc _).alloc _, by simp [go_sem], by simp [go_sem], by simp [go_sem], by simp [go_sem], by simp [go_sem], by simp [go_sem]⟩ ?_
  rintro W ⟨hW, c0, c1, c2, c3, c4, c5⟩
  go_still_tail 15, (by kernel_rfl)
  still_call (H0.out _)
  repeat still_step
  still_call (H1.out _)
  repeat still_step
  still_call (H2.out _)
  refine wpStill_nil ?_
  change wpList _ _ _ _ _ W.drew
  have hW1 := hW.drew
  generalize W.drew = W1 at *
  go_wp2_with fail
  refine (HO.out _ _ _ (rd1_3 _ _ _ _ _ (by simp [go_sem]) (by simp [go_sem]) (by simp [go_sem]))).mono ?_
  rintro e w' ⟨rfl, rfl⟩
  go_wp2_with fail
  go_ret
  exact ⟨rfl, hW1.alloc _⟩

set_option maxHeartbeats 1000000 in
set_option maxRecDepth 100000 in
theorem bySeg_any (a0 a1 b0 b1 : Int) (w : World) :
    Calls Try.prog 70 #[.agg #[.int .i64 a0, .int .i64 a1], .agg #[.int .i64 b0, .int .i64 b1]] w fun e w' => e = .returned (.int .i64 (bySegI (a0, a1) (b0, b1))) ∧ Ext w w' := by
  unfold bySegI
  simp only
  have h0 := fun W => Try.cmp_Compare_int a0 b0 W
  have h1 := fun W => Try.cmp_Compare_int a1 b1 W
  generalize Lib.compareInt a0 b0 = x at *
  generalize Lib.compareInt a1 b1 = y at *
  have H0 := Lib.hid h0
  have H1 := Lib.hid h1
  clear h0 h1
  have HO := Lib.hid (fun B c W h => or_any (some ⟨B, 0, none⟩) c [x, y] W (by simp) h)
  go_enter Try.func70, Try.ntmps70
  go_wp2_with fail
  refine wp_world (fun W => Ext w W ∧ W.cell? ⟨w.heap.size, 0, none⟩ = some (.int .i64 a0) ∧ W.cell? ⟨w.heap.size, 1, none⟩ = some (.int .i64 a1) ∧ W.cell? ⟨w.heap.size + 1, 0, none⟩ = some (.int .i64 b0) ∧ W.cell? ⟨w.heap.size + 1, 1, none⟩ = some (.int .i64 b1))
    ⟨((Ext.refl _).alloc _).alloc _, by simp [go_sem], by simp [go_sem], by simp [go_sem], by simp [go_sem]⟩ ?_
  rintro W ⟨hW, c0, c1, c2, c3⟩
  go_still_tail 10, (by kernel_rfl)
  still_call (H0.out _)
  repeat still_step
  still_call (H1.out _)
  refine wpStill_nil ?_
  change wpList _ _ _ _ _ W.drew
  have hW1 := hW.drew
  generalize W.drew = W1 at *
  go_wp2_with fail
  refine (HO.out _ _ _ (rd1_2 _ _ _ _ (by simp [go_sem]) (by simp [go_sem]))).mono ?_
  rintro e w' ⟨rfl, rfl⟩
  go_wp2_with fail
  go_ret
  exact ⟨rfl, hW1.alloc _⟩

set_option maxHeartbeats 1000000 in
set_option maxRecDepth 100000 in
theorem edges_any (a b c : Int) (w : World) :
    Calls Try.prog 69 #[.agg #[.int .i64 a, .int .i64 b, .int .i64 c]] w fun e w' => e = .returned (.agg #[.int .i64 a, .int .i64 b, .int .i64 b, .int .i64 c, .int .i64 c, .int .i64 a]) ∧ Ext w w' := by
  go_enter Try.func69, Try.ntmps69
  go_wp2_with fail
  refine bodyPost_ret (v := .agg #[.int .i64 a, .int .i64 b, .int .i64 b, .int .i64 c, .int .i64 c, .int .i64 a]) (by simp [results, Try.results69, go_sem]) rfl ⟨rfl, ?_⟩
  repeat (first | exact Ext.refl _ | apply Ext.drewN | apply Ext.drew | apply Ext.alloc)

set_option maxHeartbeats 1000000 in
set_option maxRecDepth 100000 in
theorem up_any (a b : Int) (w : World) :
    Calls Try.prog 71 #[.agg #[.int .i64 a, .int .i64 b]] w fun e w' => e = .returned (.agg #[.int .i64 (min a b), .int .i64 (max a b)]) ∧ Ext w w' := by
  go_enter Try.func71, Try.ntmps71
  go_wp2_with fail
  all_goals
    refine bodyPost_ret (v := .agg #[.int .i64 (min a b), .int .i64 (max a b)]) (by simp [results, Try.results71, go_sem]) rfl ⟨rfl, ?_⟩
    repeat (first | exact Ext.refl _ | apply Ext.drewN | apply Ext.drew | apply Ext.alloc)
end Go.Proofs.Ytagofpmcbbkmgaa
