/- Package wide: Cmp; package pred: product, cross. Conditions: the limbs are uint64s; the factors are int64s above the least one. -/
import Derived.Test.YtagofpmcbbkmgaaL2
namespace Go.Proofs.Ytagofpmcbbkmgaa
open Go.RowKit

theorem compareInt_bd (x y : Int) : -1 ≤ Lib.compareInt x y ∧ Lib.compareInt x y ≤ 1 := by unfold Lib.compareInt; (repeat' split) <;> omega
theorem sizeW_bd (a0 a1 a2 a3 b0 b1 b2 b3 : Int) : -1 ≤ sizeW a0 a1 a2 a3 b0 b1 b2 b3 ∧ sizeW a0 a1 a2 a3 b0 b1 b2 b3 ≤ 1 := by
  have := compareInt_bd a0 b0
  have := compareInt_bd a1 b1
  have := compareInt_bd a2 b2
  have := compareInt_bd a3 b3
  unfold sizeW
  (repeat' split) <;> omega
theorem signW_cases (m : Bool) (l0 l1 l2 l3 : Int) : signW m l0 l1 l2 l3 = 0 ∨ signW m l0 l1 l2 l3 = 1 ∨ signW m l0 l1 l2 l3 = -1 := by
  unfold signW
  (repeat' split) <;> simp

def cmpW (m : Bool) (a0 a1 a2 a3 : Int) (n : Bool) (b0 b1 b2 b3 : Int) : Int :=
  if signW m a0 a1 a2 a3 ≠ signW n b0 b1 b2 b3 ∨ signW m a0 a1 a2 a3 = 0 then Lib.compareInt (signW m a0 a1 a2 a3) (signW n b0 b1 b2 b3) else signW m a0 a1 a2 a3 * sizeW a0 a1 a2 a3 b0 b1 b2 b3

set_option maxHeartbeats 1000000 in
set_option maxRecDepth 100000 in
theorem wcmp_any (m n : Bool) (a0 a1 a2 a3 b0 b1 b2 b3 : Int) (w : World) :
    Calls Try.prog 130 #[.agg #[.bool m, .int .u64 a0, .int .u64 a1, .int .u64 a2, .int .u64 a3], .agg #[.bool n, .int .u64 b0, .int .u64 b1, .int .u64 b2, .int .u64 b3]] w fun e w' => e = .returned (.int .i64 (cmpW m a0 a1 a2 a3 n b0 b1 b2 b3)) ∧ Ext w w' := by
  have hs1 := fun W => wsign_any m a0 a1 a2 a3 W
  have hs2 := fun W => wsign_any n b0 b1 b2 b3 W
  have hz := fun W => wsize_any a0 a1 a2 a3 b0 b1 b2 b3 W
  have hzb := sizeW_bd a0 a1 a2 a3 b0 b1 b2 b3
  have h1 := signW_cases m a0 a1 a2 a3
  have h2 := signW_cases n b0 b1 b2 b3
  unfold cmpW
  generalize signW m a0 a1 a2 a3 = x at *
  generalize signW n b0 b1 b2 b3 = y at *
  generalize sizeW a0 a1 a2 a3 b0 b1 b2 b3 = z at *
  obtain ⟨hz1, hz2⟩ := hzb
  have HS1 := Lib.hid hs1
  have HS2 := Lib.hid hs2
  have HZ := Lib.hid hz
  clear hs1 hs2 hz
  have HC := Lib.hid (Try.cmp_Compare_int)
  have hd : x = y ∧ x = 0 ∨ x = y ∧ x ≠ 0 ∨ x ≠ y := by omega
  rcases hd with ⟨rfl, rfl⟩ | ⟨rfl, hx0⟩ | hxy
  · rw [if_pos (Or.inr rfl)]
    go_enter Try.func130, Try.ntmps130
    go_wp2_with fail
    refine wp_world (fun W => Ext w W ∧ W.cell? ⟨w.heap.size, 0, none⟩ = some (.bool m) ∧ W.cell? ⟨w.heap.size, 1, none⟩ = some (.int .u64 a0) ∧ W.cell? ⟨w.heap.size, 2, none⟩ = some (.int .u64 a1) ∧ W.cell? ⟨w.heap.size, 3, none⟩ = some (.int .u64 a2) ∧ W.cell? ⟨w.heap.size, 4, none⟩ = some (.int .u64 a3) ∧
      W.cell? ⟨w.heap.size + 1, 0, none⟩ = some (.bool n) ∧ W.cell? ⟨w.heap.size + 1, 1, none⟩ = some (.int .u64 b0) ∧ W.cell? ⟨w.heap.size + 1, 2, none⟩ = some (.int .u64 b1) ∧ W.cell? ⟨w.heap.size + 1, 3, none⟩ = some (.int .u64 b2) ∧ W.cell? ⟨w.heap.size + 1, 4, none⟩ = some (.int .u64 b3))
      ⟨((Ext.refl _).alloc _).alloc _, by simp, by simp, by simp, by simp, by simp, by simp, by simp, by simp, by simp, by simp⟩ ?_
    rintro W ⟨hW, c0, c1, c2, c3, c4, d0, d1, d2, d3, d4⟩
    have x0 := cell_ext c0
    have x1 := cell_ext c1
    have x2 := cell_ext c2
    have x3 := cell_ext c3
    have x4 := cell_ext c4
    have y0 := cell_ext d0
    have y1 := cell_ext d1
    have y2 := cell_ext d2
    have y3 := cell_ext d3
    have y4 := cell_ext d4
    refine wp_region_ext (by kernel_rfl) (by kernel_rfl) ?_
    repeat (go_big_quiet_step ((first | (go_at_call 133; with_reducible exact ext_call (HS1.out _)) | (go_at_call 133; with_reducible exact ext_call (HS2.out _)))))
    refine wpQuiet_nil ?_
    intro W1 hW1_
    have hW1 := ext_of hW1_
    clear hW1_
    clear x0 x1 x2 x3 x4 y0 y1 y2 y3 y4
    replace hW := hW.trans hW1
    go_wp2_with fail
    refine (HC.out _ _ _).mono ?_
    rintro e w' ⟨rfl, rfl⟩
    go_wp2_with fail
    go_ret
    exact ⟨rfl, hW⟩
  · rw [if_neg (by simp [hx0])]
    have hx0' : (x == 0) = false := beq_eq_false_iff_ne.2 hx0
    go_enter Try.func130, Try.ntmps130
    go_wp2_with fail
    refine wp_world (fun W => Ext w W ∧ W.cell? ⟨w.heap.size, 0, none⟩ = some (.bool m) ∧ W.cell? ⟨w.heap.size, 1, none⟩ = some (.int .u64 a0) ∧ W.cell? ⟨w.heap.size, 2, none⟩ = some (.int .u64 a1) ∧ W.cell? ⟨w.heap.size, 3, none⟩ = some (.int .u64 a2) ∧ W.cell? ⟨w.heap.size, 4, none⟩ = some (.int .u64 a3) ∧
      W.cell? ⟨w.heap.size + 1, 0, none⟩ = some (.bool n) ∧ W.cell? ⟨w.heap.size + 1, 1, none⟩ = some (.int .u64 b0) ∧ W.cell? ⟨w.heap.size + 1, 2, none⟩ = some (.int .u64 b1) ∧ W.cell? ⟨w.heap.size + 1, 3, none⟩ = some (.int .u64 b2) ∧ W.cell? ⟨w.heap.size + 1, 4, none⟩ = some (.int .u64 b3))
      ⟨((Ext.refl _).alloc _).alloc _, by simp, by simp, by simp, by simp, by simp, by simp, by simp, by simp, by simp, by simp⟩ ?_
    rintro W ⟨hW, c0, c1, c2, c3, c4, d0, d1, d2, d3, d4⟩
    have x0 := cell_ext c0
    have x1 := cell_ext c1
    have x2 := cell_ext c2
    have x3 := cell_ext c3
    have x4 := cell_ext c4
    have y0 := cell_ext d0
    have y1 := cell_ext d1
    have y2 := cell_ext d2
    have y3 := cell_ext d3
    have y4 := cell_ext d4
    refine wp_region_ext (by kernel_rfl) (by kernel_rfl) ?_
    repeat (go_big_quiet_step ((first | (go_at_call 133; with_reducible exact ext_call (HS1.out _)) | (go_at_call 133; with_reducible exact ext_call (HS2.out _)))))
    refine wpQuiet_nil ?_
    intro W1 hW1_
    have hW1 := ext_of hW1_
    clear hW1_
    clear x0 x1 x2 x3 x4 y0 y1 y2 y3 y4
    replace hW := hW.trans hW1
    have e1 := hW1.cell c1
    have e2 := hW1.cell c2
    have e3 := hW1.cell c3
    have e4 := hW1.cell c4
    have g1 := hW1.cell d1
    have g2 := hW1.cell d2
    have g3 := hW1.cell d3
    have g4 := hW1.cell d4
    go_wp2_with fail
    refine (HZ.out _).mono ?_
    rintro e W2 ⟨rfl, hW2⟩
    go_wp2_with fail
    go_ret
    exact ⟨ret_i64 (by rw [IntWalk.wrap64_in]; rcases h1 with h | h | h <;> rw [h] <;> omega), hW.trans hW2⟩
  · rw [if_pos (Or.inl hxy)]
    have hxy' : (x == y) = false := beq_eq_false_iff_ne.2 hxy
    go_enter Try.func130, Try.ntmps130
    go_wp2_with fail
    refine wp_world (fun W => Ext w W ∧ W.cell? ⟨w.heap.size, 0, none⟩ = some (.bool m) ∧ W.cell? ⟨w.heap.size, 1, none⟩ = some (.int .u64 a0) ∧ W.cell? ⟨w.heap.size, 2, none⟩ = some (.int .u64 a1) ∧ W.cell? ⟨w.heap.size, 3, none⟩ = some (.int .u64 a2) ∧ W.cell? ⟨w.heap.size, 4, none⟩ = some (.int .u64 a3) ∧
      W.cell? ⟨w.heap.size + 1, 0, none⟩ = some (.bool n) ∧ W.cell? ⟨w.heap.size + 1, 1, none⟩ = some (.int .u64 b0) ∧ W.cell? ⟨w.heap.size + 1, 2, none⟩ = some (.int .u64 b1) ∧ W.cell? ⟨w.heap.size + 1, 3, none⟩ = some (.int .u64 b2) ∧ W.cell? ⟨w.heap.size + 1, 4, none⟩ = some (.int .u64 b3))
      ⟨((Ext.refl _).alloc _).alloc _, by simp, by simp, by simp, by simp, by simp, by simp, by simp, by simp, by simp, by simp⟩ ?_
    rintro W ⟨hW, c0, c1, c2, c3, c4, d0, d1, d2, d3, d4⟩
    have x0 := cell_ext c0
    have x1 := cell_ext c1
    have x2 := cell_ext c2
    have x3 := cell_ext c3
    have x4 := cell_ext c4
    have y0 := cell_ext d0
    have y1 := cell_ext d1
    have y2 := cell_ext d2
    have y3 := cell_ext d3
    have y4 := cell_ext d4
    refine wp_region_ext (by kernel_rfl) (by kernel_rfl) ?_
    repeat (go_big_quiet_step ((first | (go_at_call 133; with_reducible exact ext_call (HS1.out _)) | (go_at_call 133; with_reducible exact ext_call (HS2.out _)))))
    refine wpQuiet_nil ?_
    intro W1 hW1_
    have hW1 := ext_of hW1_
    clear hW1_
    clear x0 x1 x2 x3 x4 y0 y1 y2 y3 y4
    replace hW := hW.trans hW1
    go_wp2_with fail
    refine (HC.out _ _ _).mono ?_
    rintro e w' ⟨rfl, rfl⟩
    go_wp2_with fail
    go_ret
    exact ⟨rfl, hW⟩
end Go.Proofs.Ytagofpmcbbkmgaa
