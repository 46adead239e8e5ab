/- Package wide: none, Sign, size, Cmp, of numbers of four limbs; package pred: product, cross. Conditions: the limbs are uint64s; the factors are int64s above the least one. -/
import Derived.Test.YtagofpmcbbkmgaaL1
import Derived.Test.YtagofpmcbbkmgaaSh
namespace Go.Proofs.Ytagofpmcbbkmgaa
open Go.RowKit

theorem cellsOf_u64 : Try.prog.cellsOf 142 = 1 := by kernel_rfl
theorem range4 : List.range 4 = [0, 1, 2, 3] := rfl
theorem eqA4 (a0 a1 a2 a3 b0 b1 b2 b3 : Int) (w : World) : (binOp .eql 166 (.agg #[.int .u64 a0, .int .u64 a1, .int .u64 a2, .int .u64 a3]) (.agg #[.int .u64 b0, .int .u64 b1, .int .u64 b2, .int .u64 b3])).run Try.prog w = .ok (.bool (a0 == b0 && a1 == b1 && a2 == b2 && a3 == b3)) w := by
  obtain ⟨i, hi⟩ : ∃ i, Try.prog.info? 142 = some i := Option.isSome_iff_exists.1 (by kernel_rfl)
  have u := Try.underlying142
  have a := Try.isAgg142
  have z := Try.sizeOf142
  rw [run_eql_struct, show (10000 : Nat) = 9999 + 1 from rfl, run_equalIn_array w 9999 _ _ Try.underlying166 hi, cellsOf_u64, range4]
  simp only [Op.eqItems]
  go_simp
  by_cases h0 : a0 = b0 <;> by_cases h1 : a1 = b1 <;> by_cases h2 : a2 = b2 <;> by_cases h3 : a3 = b3 <;> simp [h0, h1, h2, h3]

/-- no limb at all -/
def noneB (l0 l1 l2 l3 : Int) : Bool := l0 == 0 && l1 == 0 && l2 == 0 && l3 == 0

set_option maxHeartbeats 400000 in
theorem none_any (l0 l1 l2 l3 : Int) (w : World) :
    Calls Try.prog 135 #[.agg #[.int .u64 l0, .int .u64 l1, .int .u64 l2, .int .u64 l3]] w fun e w' => e = .returned (.bool (noneB l0 l1 l2 l3)) ∧ Ext w w' := by
  have he := eqA4 l0 l1 l2 l3 0 0 0 0
  unfold noneB
  generalize (l0 == 0 && l1 == 0 && l2 == 0 && l3 == 0) = b at he ⊢
  go_enter Try.func135, Try.ntmps135
  go_wp2_with fail
  go_ret
  exact ⟨rfl, (Ext.refl _).alloc _⟩

def signW (m : Bool) (l0 l1 l2 l3 : Int) : Int := if noneB l0 l1 l2 l3 then 0 else if m then -1 else 1

set_option maxHeartbeats 400000 in
theorem wsign_any (m : Bool) (l0 l1 l2 l3 : Int) (w : World) :
    Calls Try.prog 133 #[.agg #[.bool m, .int .u64 l0, .int .u64 l1, .int .u64 l2, .int .u64 l3]] w fun e w' => e = .returned (.int .i64 (signW m l0 l1 l2 l3)) ∧ Ext w w' := by
  have hn := fun W => none_any l0 l1 l2 l3 W
  unfold signW
  generalize noneB l0 l1 l2 l3 = b at hn ⊢
  have HN := Lib.hid hn
  clear hn
  cases b
  all_goals cases m
  all_goals
    go_enter Try.func133, Try.ntmps133
    go_wp2_with fail
    refine (HN.out _).mono ?_
    rintro e w1 ⟨rfl, hx⟩
    have hx' := ((Ext.refl w).alloc _).trans hx
    have hm := Ext.cell hx (cell_new w (i := 0) rfl)
    go_wp2
    go_ret
    exact ⟨rfl, hx'⟩

set_option maxHeartbeats 400000 in
theorem isNaNu_any (x : Int) (w : World) : Calls Try.prog 137 #[.int .u64 x] w fun e w' => e = .returned (.bool false) ∧ w = w' := by
  go_enter Try.func137, Try.ntmps137
  go_wp2
  all_goals (go_ret; simp)
set_option maxHeartbeats 400000 in
theorem compareU_any (x y : Int) (w : World) : Calls Try.prog 136 #[.int .u64 x, .int .u64 y] w fun e w' => e = .returned (.int .i64 (Lib.compareInt x y)) ∧ w = w' := by
  unfold Lib.compareInt
  go_enter Try.func136, Try.ntmps136
  go_wp2_with (go_at_call 137; refine (isNaNu_any _ _).mono ?_; rintro e w' ⟨rfl, rfl⟩)
  all_goals
    go_ret
    exact ⟨ret_i64 (by (repeat' split) <;> omega), rfl⟩

/-- limbs against limbs -/
def sizeW (a0 a1 a2 a3 b0 b1 b2 b3 : Int) : Int :=
  if a3 ≠ b3 then Lib.compareInt a3 b3 else if a2 ≠ b2 then Lib.compareInt a2 b2 else if a1 ≠ b1 then Lib.compareInt a1 b1 else if a0 ≠ b0 then Lib.compareInt a0 b0 else 0

set_option maxHeartbeats 1000000 in
theorem wsize_any (a0 a1 a2 a3 b0 b1 b2 b3 : Int) (w : World) :
    Calls Try.prog 134 #[.agg #[.int .u64 a0, .int .u64 a1, .int .u64 a2, .int .u64 a3], .agg #[.int .u64 b0, .int .u64 b1, .int .u64 b2, .int .u64 b3]] w fun e w' => e = .returned (.int .i64 (sizeW a0 a1 a2 a3 b0 b1 b2 b3)) ∧ Ext w w' := by
  have tail : ∀ (x y : Int) (W : World), Calls Try.prog 136 #[.int .u64 x, .int .u64 y] W fun e w' => e = .returned (.int .i64 (Lib.compareInt x y)) ∧ W = w' := compareU_any
  have HT := Lib.hid tail
  clear tail
  by_cases h3 : a3 = b3
  · subst h3
    by_cases h2 : a2 = b2
    · subst h2
      by_cases h1 : a1 = b1
      · subst h1
        by_cases h0 : a0 = b0
        · subst h0
          have hs : sizeW a0 a1 a2 a3 a0 a1 a2 a3 = 0 := by simp [sizeW]
          rw [hs]
          clear hs
          go_enter Try.func134, Try.ntmps134
          go_wp2_with fail
          refine wp_loop_rounds 5 ?_
          refine wp_world' (fun W => Ext w W ∧ W.cell? ⟨w.heap.size, 0, none⟩ = some (.int .u64 a0) ∧ W.cell? ⟨w.heap.size, 1, none⟩ = some (.int .u64 a1) ∧ W.cell? ⟨w.heap.size, 2, none⟩ = some (.int .u64 a2) ∧ W.cell? ⟨w.heap.size, 3, none⟩ = some (.int .u64 a3) ∧ W.cell? ⟨w.heap.size + 1, 0, none⟩ = some (.int .u64 a0) ∧ W.cell? ⟨w.heap.size + 1, 1, none⟩ = some (.int .u64 a1) ∧ W.cell? ⟨w.heap.size + 1, 2, none⟩ = some (.int .u64 a2) ∧ W.cell? ⟨w.heap.size + 1, 3, none⟩ = some (.int .u64 a3)) ⟨((Ext.refl _).alloc _).alloc _, by simp, by simp, by simp, by simp, by simp, by simp, by simp, by simp⟩ ?_
          rintro W ⟨hW, c0, c1, c2, c3, d0, d1, d2, d3⟩
          rw [rounds_succ]
          go_wp2_with fail
          have c0x := cell_ext c0
          have c1x := cell_ext c1
          have c2x := cell_ext c2
          have c3x := cell_ext c3
          have d0x := cell_ext d0
          have d1x := cell_ext d1
          have d2x := cell_ext d2
          have d3x := cell_ext d3
          refine wp_region_ext (by kernel_rfl) (by kernel_rfl) ?_
          repeat (go_big_quiet_step ((fail)))
          refine wpQuiet_nil ?_
          intro W0 hW0_
          have hW0 := ext_of hW0_
          clear hW0_
          clear c0x c1x c2x c3x d0x d1x d2x d3x
          replace hW := hW.trans hW0
          replace c0 := hW0.cell c0
          replace c1 := hW0.cell c1
          replace c2 := hW0.cell c2
          replace c3 := hW0.cell c3
          replace d0 := hW0.cell d0
          replace d1 := hW0.cell d1
          replace d2 := hW0.cell d2
          replace d3 := hW0.cell d3
          go_wp2_with fail
          rw [rounds_succ]
          go_wp2_with fail
          have c0x := cell_ext c0
          have c1x := cell_ext c1
          have c2x := cell_ext c2
          have c3x := cell_ext c3
          have d0x := cell_ext d0
          have d1x := cell_ext d1
          have d2x := cell_ext d2
          have d3x := cell_ext d3
          refine wp_region_ext (by kernel_rfl) (by kernel_rfl) ?_
          repeat (go_big_quiet_step ((fail)))
          refine wpQuiet_nil ?_
          intro W1 hW1_
          have hW1 := ext_of hW1_
          clear hW1_
          clear c0x c1x c2x c3x d0x d1x d2x d3x
          replace hW := hW.trans hW1
          replace c0 := hW1.cell c0
          replace c1 := hW1.cell c1
          replace c2 := hW1.cell c2
          replace c3 := hW1.cell c3
          replace d0 := hW1.cell d0
          replace d1 := hW1.cell d1
          replace d2 := hW1.cell d2
          replace d3 := hW1.cell d3
          go_wp2_with fail
          rw [rounds_succ]
          go_wp2_with fail
          have c0x := cell_ext c0
          have c1x := cell_ext c1
          have c2x := cell_ext c2
          have c3x := cell_ext c3
          have d0x := cell_ext d0
          have d1x := cell_ext d1
          have d2x := cell_ext d2
          have d3x := cell_ext d3
          refine wp_region_ext (by kernel_rfl) (by kernel_rfl) ?_
          repeat (go_big_quiet_step ((fail)))
          refine wpQuiet_nil ?_
          intro W2 hW2_
          have hW2 := ext_of hW2_
          clear hW2_
          clear c0x c1x c2x c3x d0x d1x d2x d3x
          replace hW := hW.trans hW2
          replace c0 := hW2.cell c0
          replace c1 := hW2.cell c1
          replace c2 := hW2.cell c2
          replace c3 := hW2.cell c3
          replace d0 := hW2.cell d0
          replace d1 := hW2.cell d1
          replace d2 := hW2.cell d2
          replace d3 := hW2.cell d3
          go_wp2_with fail
          rw [rounds_succ]
          go_wp2_with fail
          have c0x := cell_ext c0
          have c1x := cell_ext c1
          have c2x := cell_ext c2
          have c3x := cell_ext c3
          have d0x := cell_ext d0
          have d1x := cell_ext d1
          have d2x := cell_ext d2
          have d3x := cell_ext d3
          refine wp_region_ext (by kernel_rfl) (by kernel_rfl) ?_
          repeat (go_big_quiet_step ((fail)))
          refine wpQuiet_nil ?_
          intro W3 hW3_
          have hW3 := ext_of hW3_
          clear hW3_
          clear c0x c1x c2x c3x d0x d1x d2x d3x
          replace hW := hW.trans hW3
          replace c0 := hW3.cell c0
          replace c1 := hW3.cell c1
          replace c2 := hW3.cell c2
          replace c3 := hW3.cell c3
          replace d0 := hW3.cell d0
          replace d1 := hW3.cell d1
          replace d2 := hW3.cell d2
          replace d3 := hW3.cell d3
          go_wp2_with fail
          rw [rounds_succ]
          go_wp2_with fail
          go_ret
          exact ⟨rfl, hW⟩
        · have hs : sizeW a0 a1 a2 a3 b0 a1 a2 a3 = Lib.compareInt a0 b0 := by simp [sizeW, h0]
          rw [hs]
          clear hs
          have hn : (a0 == b0) = false := beq_eq_false_iff_ne.2 h0
          go_enter Try.func134, Try.ntmps134
          go_wp2_with fail
          refine wp_loop_rounds 5 ?_
          refine wp_world' (fun W => Ext w W ∧ W.cell? ⟨w.heap.size, 0, none⟩ = some (.int .u64 a0) ∧ W.cell? ⟨w.heap.size, 1, none⟩ = some (.int .u64 a1) ∧ W.cell? ⟨w.heap.size, 2, none⟩ = some (.int .u64 a2) ∧ W.cell? ⟨w.heap.size, 3, none⟩ = some (.int .u64 a3) ∧ W.cell? ⟨w.heap.size + 1, 0, none⟩ = some (.int .u64 b0) ∧ W.cell? ⟨w.heap.size + 1, 1, none⟩ = some (.int .u64 a1) ∧ W.cell? ⟨w.heap.size + 1, 2, none⟩ = some (.int .u64 a2) ∧ W.cell? ⟨w.heap.size + 1, 3, none⟩ = some (.int .u64 a3)) ⟨((Ext.refl _).alloc _).alloc _, by simp, by simp, by simp, by simp, by simp, by simp, by simp, by simp⟩ ?_
          rintro W ⟨hW, c0, c1, c2, c3, d0, d1, d2, d3⟩
          rw [rounds_succ]
          go_wp2_with fail
          have c0x := cell_ext c0
          have c1x := cell_ext c1
          have c2x := cell_ext c2
          have c3x := cell_ext c3
          have d0x := cell_ext d0
          have d1x := cell_ext d1
          have d2x := cell_ext d2
          have d3x := cell_ext d3
          refine wp_region_ext (by kernel_rfl) (by kernel_rfl) ?_
          repeat (go_big_quiet_step ((fail)))
          refine wpQuiet_nil ?_
          intro W0 hW0_
          have hW0 := ext_of hW0_
          clear hW0_
          clear c0x c1x c2x c3x d0x d1x d2x d3x
          replace hW := hW.trans hW0
          replace c0 := hW0.cell c0
          replace c1 := hW0.cell c1
          replace c2 := hW0.cell c2
          replace c3 := hW0.cell c3
          replace d0 := hW0.cell d0
          replace d1 := hW0.cell d1
          replace d2 := hW0.cell d2
          replace d3 := hW0.cell d3
          go_wp2_with fail
          rw [rounds_succ]
          go_wp2_with fail
          have c0x := cell_ext c0
          have c1x := cell_ext c1
          have c2x := cell_ext c2
          have c3x := cell_ext c3
          have d0x := cell_ext d0
          have d1x := cell_ext d1
          have d2x := cell_ext d2
          have d3x := cell_ext d3
          refine wp_region_ext (by kernel_rfl) (by kernel_rfl) ?_
          repeat (go_big_quiet_step ((fail)))
          refine wpQuiet_nil ?_
          intro W1 hW1_
          have hW1 := ext_of hW1_
          clear hW1_
          clear c0x c1x c2x c3x d0x d1x d2x d3x
          replace hW := hW.trans hW1
          replace c0 := hW1.cell c0
          replace c1 := hW1.cell c1
          replace c2 := hW1.cell c2
          replace c3 := hW1.cell c3
          replace d0 := hW1.cell d0
          replace d1 := hW1.cell d1
          replace d2 := hW1.cell d2
          replace d3 := hW1.cell d3
          go_wp2_with fail
          rw [rounds_succ]
          go_wp2_with fail
          have c0x := cell_ext c0
          have c1x := cell_ext c1
          have c2x := cell_ext c2
          have c3x := cell_ext c3
          have d0x := cell_ext d0
          have d1x := cell_ext d1
          have d2x := cell_ext d2
          have d3x := cell_ext d3
          refine wp_region_ext (by kernel_rfl) (by kernel_rfl) ?_
          repeat (go_big_quiet_step ((fail)))
          refine wpQuiet_nil ?_
          intro W2 hW2_
          have hW2 := ext_of hW2_
          clear hW2_
          clear c0x c1x c2x c3x d0x d1x d2x d3x
          replace hW := hW.trans hW2
          replace c0 := hW2.cell c0
          replace c1 := hW2.cell c1
          replace c2 := hW2.cell c2
          replace c3 := hW2.cell c3
          replace d0 := hW2.cell d0
          replace d1 := hW2.cell d1
          replace d2 := hW2.cell d2
          replace d3 := hW2.cell d3
          go_wp2_with fail
          rw [rounds_succ]
          go_wp2_with fail
          have c0x := cell_ext c0
          have c1x := cell_ext c1
          have c2x := cell_ext c2
          have c3x := cell_ext c3
          have d0x := cell_ext d0
          have d1x := cell_ext d1
          have d2x := cell_ext d2
          have d3x := cell_ext d3
          refine wp_region_ext (by kernel_rfl) (by kernel_rfl) ?_
          repeat (go_big_quiet_step ((fail)))
          refine wpQuiet_nil ?_
          intro W3 hW3_
          have hW3 := ext_of hW3_
          clear hW3_
          clear c0x c1x c2x c3x d0x d1x d2x d3x
          replace hW := hW.trans hW3
          replace c0 := hW3.cell c0
          replace c1 := hW3.cell c1
          replace c2 := hW3.cell c2
          replace c3 := hW3.cell c3
          replace d0 := hW3.cell d0
          replace d1 := hW3.cell d1
          replace d2 := hW3.cell d2
          replace d3 := hW3.cell d3
          go_wp2_with fail
          have c0x := cell_ext c0
          have c1x := cell_ext c1
          have c2x := cell_ext c2
          have c3x := cell_ext c3
          have d0x := cell_ext d0
          have d1x := cell_ext d1
          have d2x := cell_ext d2
          have d3x := cell_ext d3
          refine wp_region_ext (by kernel_rfl) (by kernel_rfl) ?_
          repeat (go_big_quiet_step (((go_at_call 136; exact ext_call0 (HT.out _ _ _)))))
          refine wpQuiet_nil ?_
          intro V hV_
          have hV := ext_of hV_
          clear hV_
          clear c0x c1x c2x c3x d0x d1x d2x d3x
          replace hW := hW.trans hV
          replace c0 := hV.cell c0
          replace c1 := hV.cell c1
          replace c2 := hV.cell c2
          replace c3 := hV.cell c3
          replace d0 := hV.cell d0
          replace d1 := hV.cell d1
          replace d2 := hV.cell d2
          replace d3 := hV.cell d3
          go_wp2_with fail
          go_ret
          exact ⟨rfl, hW⟩
      · have hs : sizeW a0 a1 a2 a3 b0 b1 a2 a3 = Lib.compareInt a1 b1 := by simp [sizeW, h1]
        rw [hs]
        clear hs
        have hn : (a1 == b1) = false := beq_eq_false_iff_ne.2 h1
        go_enter Try.func134, Try.ntmps134
        go_wp2_with fail
        refine wp_loop_rounds 5 ?_
        refine wp_world' (fun W => Ext w W ∧ W.cell? ⟨w.heap.size, 0, none⟩ = some (.int .u64 a0) ∧ W.cell? ⟨w.heap.size, 1, none⟩ = some (.int .u64 a1) ∧ W.cell? ⟨w.heap.size, 2, none⟩ = some (.int .u64 a2) ∧ W.cell? ⟨w.heap.size, 3, none⟩ = some (.int .u64 a3) ∧ W.cell? ⟨w.heap.size + 1, 0, none⟩ = some (.int .u64 b0) ∧ W.cell? ⟨w.heap.size + 1, 1, none⟩ = some (.int .u64 b1) ∧ W.cell? ⟨w.heap.size + 1, 2, none⟩ = some (.int .u64 a2) ∧ W.cell? ⟨w.heap.size + 1, 3, none⟩ = some (.int .u64 a3)) ⟨((Ext.refl _).alloc _).alloc _, by simp, by simp, by simp, by simp, by simp, by simp, by simp, by simp⟩ ?_
        rintro W ⟨hW, c0, c1, c2, c3, d0, d1, d2, d3⟩
        rw [rounds_succ]
        go_wp2_with fail
        have c0x := cell_ext c0
        have c1x := cell_ext c1
        have c2x := cell_ext c2
        have c3x := cell_ext c3
        have d0x := cell_ext d0
        have d1x := cell_ext d1
        have d2x := cell_ext d2
        have d3x := cell_ext d3
        refine wp_region_ext (by kernel_rfl) (by kernel_rfl) ?_
        repeat (go_big_quiet_step ((fail)))
        refine wpQuiet_nil ?_
        intro W0 hW0_
        have hW0 := ext_of hW0_
        clear hW0_
        clear c0x c1x c2x c3x d0x d1x d2x d3x
        replace hW := hW.trans hW0
        replace c0 := hW0.cell c0
        replace c1 := hW0.cell c1
        replace c2 := hW0.cell c2
        replace c3 := hW0.cell c3
        replace d0 := hW0.cell d0
        replace d1 := hW0.cell d1
        replace d2 := hW0.cell d2
        replace d3 := hW0.cell d3
        go_wp2_with fail
        rw [rounds_succ]
        go_wp2_with fail
        have c0x := cell_ext c0
        have c1x := cell_ext c1
        have c2x := cell_ext c2
        have c3x := cell_ext c3
        have d0x := cell_ext d0
        have d1x := cell_ext d1
        have d2x := cell_ext d2
        have d3x := cell_ext d3
        refine wp_region_ext (by kernel_rfl) (by kernel_rfl) ?_
        repeat (go_big_quiet_step ((fail)))
        refine wpQuiet_nil ?_
        intro W1 hW1_
        have hW1 := ext_of hW1_
        clear hW1_
        clear c0x c1x c2x c3x d0x d1x d2x d3x
        replace hW := hW.trans hW1
        replace c0 := hW1.cell c0
        replace c1 := hW1.cell c1
        replace c2 := hW1.cell c2
        replace c3 := hW1.cell c3
        replace d0 := hW1.cell d0
        replace d1 := hW1.cell d1
        replace d2 := hW1.cell d2
        replace d3 := hW1.cell d3
        go_wp2_with fail
        rw [rounds_succ]
        go_wp2_with fail
        have c0x := cell_ext c0
        have c1x := cell_ext c1
        have c2x := cell_ext c2
        have c3x := cell_ext c3
        have d0x := cell_ext d0
        have d1x := cell_ext d1
        have d2x := cell_ext d2
        have d3x := cell_ext d3
        refine wp_region_ext (by kernel_rfl) (by kernel_rfl) ?_
        repeat (go_big_quiet_step ((fail)))
        refine wpQuiet_nil ?_
        intro W2 hW2_
        have hW2 := ext_of hW2_
        clear hW2_
        clear c0x c1x c2x c3x d0x d1x d2x d3x
        replace hW := hW.trans hW2
        replace c0 := hW2.cell c0
        replace c1 := hW2.cell c1
        replace c2 := hW2.cell c2
        replace c3 := hW2.cell c3
        replace d0 := hW2.cell d0
        replace d1 := hW2.cell d1
        replace d2 := hW2.cell d2
        replace d3 := hW2.cell d3
        go_wp2_with fail
        have c0x := cell_ext c0
        have c1x := cell_ext c1
        have c2x := cell_ext c2
        have c3x := cell_ext c3
        have d0x := cell_ext d0
        have d1x := cell_ext d1
        have d2x := cell_ext d2
        have d3x := cell_ext d3
        refine wp_region_ext (by kernel_rfl) (by kernel_rfl) ?_
        repeat (go_big_quiet_step (((go_at_call 136; exact ext_call0 (HT.out _ _ _)))))
        refine wpQuiet_nil ?_
        intro V hV_
        have hV := ext_of hV_
        clear hV_
        clear c0x c1x c2x c3x d0x d1x d2x d3x
        replace hW := hW.trans hV
        replace c0 := hV.cell c0
        replace c1 := hV.cell c1
        replace c2 := hV.cell c2
        replace c3 := hV.cell c3
        replace d0 := hV.cell d0
        replace d1 := hV.cell d1
        replace d2 := hV.cell d2
        replace d3 := hV.cell d3
        go_wp2_with fail
        go_ret
        exact ⟨rfl, hW⟩
    · have hs : sizeW a0 a1 a2 a3 b0 b1 b2 a3 = Lib.compareInt a2 b2 := by simp [sizeW, h2]
      rw [hs]
      clear hs
      have hn : (a2 == b2) = false := beq_eq_false_iff_ne.2 h2
      go_enter Try.func134, Try.ntmps134
      go_wp2_with fail
      refine wp_loop_rounds 5 ?_
      refine wp_world' (fun W => Ext w W ∧ W.cell? ⟨w.heap.size, 0, none⟩ = some (.int .u64 a0) ∧ W.cell? ⟨w.heap.size, 1, none⟩ = some (.int .u64 a1) ∧ W.cell? ⟨w.heap.size, 2, none⟩ = some (.int .u64 a2) ∧ W.cell? ⟨w.heap.size, 3, none⟩ = some (.int .u64 a3) ∧ W.cell? ⟨w.heap.size + 1, 0, none⟩ = some (.int .u64 b0) ∧ W.cell? ⟨w.heap.size + 1, 1, none⟩ = some (.int .u64 b1) ∧ W.cell? ⟨w.heap.size + 1, 2, none⟩ = some (.int .u64 b2) ∧ W.cell? ⟨w.heap.size + 1, 3, none⟩ = some (.int .u64 a3)) ⟨((Ext.refl _).alloc _).alloc _, by simp, by simp, by simp, by simp, by simp, by simp, by simp, by simp⟩ ?_
      rintro W ⟨hW, c0, c1, c2, c3, d0, d1, d2, d3⟩
      rw [rounds_succ]
      go_wp2_with fail
      have c0x := cell_ext c0
      have c1x := cell_ext c1
      have c2x := cell_ext c2
      have c3x := cell_ext c3
      have d0x := cell_ext d0
      have d1x := cell_ext d1
      have d2x := cell_ext d2
      have d3x := cell_ext d3
      refine wp_region_ext (by kernel_rfl) (by kernel_rfl) ?_
      repeat (go_big_quiet_step ((fail)))
      refine wpQuiet_nil ?_
      intro W0 hW0_
      have hW0 := ext_of hW0_
      clear hW0_
      clear c0x c1x c2x c3x d0x d1x d2x d3x
      replace hW := hW.trans hW0
      replace c0 := hW0.cell c0
      replace c1 := hW0.cell c1
      replace c2 := hW0.cell c2
      replace c3 := hW0.cell c3
      replace d0 := hW0.cell d0
      replace d1 := hW0.cell d1
      replace d2 := hW0.cell d2
      replace d3 := hW0.cell d3
      go_wp2_with fail
      rw [rounds_succ]
      go_wp2_with fail
      have c0x := cell_ext c0
      have c1x := cell_ext c1
      have c2x := cell_ext c2
      have c3x := cell_ext c3
      have d0x := cell_ext d0
      have d1x := cell_ext d1
      have d2x := cell_ext d2
      have d3x := cell_ext d3
      refine wp_region_ext (by kernel_rfl) (by kernel_rfl) ?_
      repeat (go_big_quiet_step ((fail)))
      refine wpQuiet_nil ?_
      intro W1 hW1_
      have hW1 := ext_of hW1_
      clear hW1_
      clear c0x c1x c2x c3x d0x d1x d2x d3x
      replace hW := hW.trans hW1
      replace c0 := hW1.cell c0
      replace c1 := hW1.cell c1
      replace c2 := hW1.cell c2
      replace c3 := hW1.cell c3
      replace d0 := hW1.cell d0
      replace d1 := hW1.cell d1
      replace d2 := hW1.cell d2
      replace d3 := hW1.cell d3
      go_wp2_with fail
      have c0x := cell_ext c0
      have c1x := cell_ext c1
      have c2x := cell_ext c2
      have c3x := cell_ext c3
      have d0x := cell_ext d0
      have d1x := cell_ext d1
      have d2x := cell_ext d2
      have d3x := cell_ext d3
      refine wp_region_ext (by kernel_rfl) (by kernel_rfl) ?_
      repeat (go_big_quiet_step (((go_at_call 136; exact ext_call0 (HT.out _ _ _)))))
      refine wpQuiet_nil ?_
      intro V hV_
      have hV := ext_of hV_
      clear hV_
      clear c0x c1x c2x c3x d0x d1x d2x d3x
      replace hW := hW.trans hV
      replace c0 := hV.cell c0
      replace c1 := hV.cell c1
      replace c2 := hV.cell c2
      replace c3 := hV.cell c3
      replace d0 := hV.cell d0
      replace d1 := hV.cell d1
      replace d2 := hV.cell d2
      replace d3 := hV.cell d3
      go_wp2_with fail
      go_ret
      exact ⟨rfl, hW⟩
  · have hs : sizeW a0 a1 a2 a3 b0 b1 b2 b3 = Lib.compareInt a3 b3 := by simp [sizeW, h3]
    rw [hs]
    clear hs
    have hn : (a3 == b3) = false := beq_eq_false_iff_ne.2 h3
    go_enter Try.func134, Try.ntmps134
    go_wp2_with fail
    refine wp_loop_rounds 5 ?_
    refine wp_world' (fun W => Ext w W ∧ W.cell? ⟨w.heap.size, 0, none⟩ = some (.int .u64 a0) ∧ W.cell? ⟨w.heap.size, 1, none⟩ = some (.int .u64 a1) ∧ W.cell? ⟨w.heap.size, 2, none⟩ = some (.int .u64 a2) ∧ W.cell? ⟨w.heap.size, 3, none⟩ = some (.int .u64 a3) ∧ W.cell? ⟨w.heap.size + 1, 0, none⟩ = some (.int .u64 b0) ∧ W.cell? ⟨w.heap.size + 1, 1, none⟩ = some (.int .u64 b1) ∧ W.cell? ⟨w.heap.size + 1, 2, none⟩ = some (.int .u64 b2) ∧ W.cell? ⟨w.heap.size + 1, 3, none⟩ = some (.int .u64 b3)) ⟨((Ext.refl _).alloc _).alloc _, by simp, by simp, by simp, by simp, by simp, by simp, by simp, by simp⟩ ?_
    rintro W ⟨hW, c0, c1, c2, c3, d0, d1, d2, d3⟩
    rw [rounds_succ]
    go_wp2_with fail
    have c0x := cell_ext c0
    have c1x := cell_ext c1
    have c2x := cell_ext c2
    have c3x := cell_ext c3
    have d0x := cell_ext d0
    have d1x := cell_ext d1
    have d2x := cell_ext d2
    have d3x := cell_ext d3
    refine wp_region_ext (by kernel_rfl) (by kernel_rfl) ?_
    repeat (go_big_quiet_step ((fail)))
    refine wpQuiet_nil ?_
    intro W0 hW0_
    have hW0 := ext_of hW0_
    clear hW0_
    clear c0x c1x c2x c3x d0x d1x d2x d3x
    replace hW := hW.trans hW0
    replace c0 := hW0.cell c0
    replace c1 := hW0.cell c1
    replace c2 := hW0.cell c2
    replace c3 := hW0.cell c3
    replace d0 := hW0.cell d0
    replace d1 := hW0.cell d1
    replace d2 := hW0.cell d2
    replace d3 := hW0.cell d3
    go_wp2_with fail
    have c0x := cell_ext c0
    have c1x := cell_ext c1
    have c2x := cell_ext c2
    have c3x := cell_ext c3
    have d0x := cell_ext d0
    have d1x := cell_ext d1
    have d2x := cell_ext d2
    have d3x := cell_ext d3
    refine wp_region_ext (by kernel_rfl) (by kernel_rfl) ?_
    repeat (go_big_quiet_step (((go_at_call 136; exact ext_call0 (HT.out _ _ _)))))
    refine wpQuiet_nil ?_
    intro V hV_
    have hV := ext_of hV_
    clear hV_
    clear c0x c1x c2x c3x d0x d1x d2x d3x
    replace hW := hW.trans hV
    replace c0 := hV.cell c0
    replace c1 := hV.cell c1
    replace c2 := hV.cell c2
    replace c3 := hV.cell c3
    replace d0 := hV.cell d0
    replace d1 := hV.cell d1
    replace d2 := hV.cell d2
    replace d3 := hV.cell d3
    go_wp2_with fail
    go_ret
    exact ⟨rfl, hW⟩
end Go.Proofs.Ytagofpmcbbkmgaa
