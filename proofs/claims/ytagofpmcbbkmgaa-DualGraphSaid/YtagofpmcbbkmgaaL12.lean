/- Package dual: sides, shared. -/
import Derived.Test.YtagofpmcbbkmgaaL11
namespace Go.Proofs.Ytagofpmcbbkmgaa
open Go.RowKit

/-- a triangle's edges and third places -/
def sideT (t : Int × Int × Int) : Nat → Int × Int × Int
  | 0 => (t.1, t.2.1, t.2.2)
  | 1 => (t.2.1, t.2.2, t.1)
  | _ => (t.2.2, t.1, t.2.1)

set_option maxHeartbeats 1000000 in
set_option maxRecDepth 100000 in
theorem sides_any (a b c : Int) (w : World) :
    Calls Try.prog 52 #[.agg #[.int .i64 a, .int .i64 b, .int .i64 c]] w fun e w' => e = .returned (.agg #[.int .i64 a, .int .i64 b, .int .i64 c, .int .i64 b, .int .i64 c, .int .i64 a, .int .i64 c, .int .i64 a, .int .i64 b]) ∧ Ext w w' := by
  go_enter Try.func52, Try.ntmps52
  go_wp2_with fail
  refine bodyPost_ret (v := .agg #[.int .i64 a, .int .i64 b, .int .i64 c, .int .i64 b, .int .i64 c, .int .i64 a, .int .i64 c, .int .i64 a, .int .i64 b]) (by simp [results, Try.results52, go_sem]) rfl ⟨rfl, ?_⟩
  repeat (first | exact Ext.refl _ | apply Ext.drewN | apply Ext.drew | apply Ext.alloc)

theorem idx33_0 (a b c : Int) (w : World) : (Instr.index 88 (.agg #[.int .i64 a, .int .i64 b, .int .i64 c, .int .i64 b, .int .i64 c, .int .i64 a, .int .i64 c, .int .i64 a, .int .i64 b]) (.int .i64 0)).run Try.prog w = .ok (.agg #[.int .i64 a, .int .i64 b, .int .i64 c]) w := by kernel_rfl
theorem idx33_1 (a b c : Int) (w : World) : (Instr.index 88 (.agg #[.int .i64 a, .int .i64 b, .int .i64 c, .int .i64 b, .int .i64 c, .int .i64 a, .int .i64 c, .int .i64 a, .int .i64 b]) (.int .i64 1)).run Try.prog w = .ok (.agg #[.int .i64 b, .int .i64 c, .int .i64 a]) w := by kernel_rfl
theorem idx33_2 (a b c : Int) (w : World) : (Instr.index 88 (.agg #[.int .i64 a, .int .i64 b, .int .i64 c, .int .i64 b, .int .i64 c, .int .i64 a, .int .i64 c, .int .i64 a, .int .i64 b]) (.int .i64 2)).run Try.prog w = .ok (.agg #[.int .i64 c, .int .i64 a, .int .i64 b]) w := by kernel_rfl
theorem idx33 (a b c : Int) (i : Nat) (hi : i < 3) (w : World) : (Instr.index 88 (.agg #[.int .i64 a, .int .i64 b, .int .i64 c, .int .i64 b, .int .i64 c, .int .i64 a, .int .i64 c, .int .i64 a, .int .i64 b]) (.int .i64 i)).run Try.prog w = .ok (.agg #[.int .i64 (sideT (a, b, c) i).1, .int .i64 (sideT (a, b, c) i).2.1, .int .i64 (sideT (a, b, c) i).2.2]) w :=
  match i, hi with
  | 0, _ => idx33_0 a b c w
  | 1, _ => idx33_1 a b c w
  | 2, _ => idx33_2 a b c w

/-- Four numbers of the call's own. -/
def Own4 (w : World) (B : Nat) (q : Int × Int × Int × Int) : Prop :=
  (w.cell? ⟨B, 0, none⟩ = some (.int .i64 q.1) ∧ w.cell? ⟨B, 1, none⟩ = some (.int .i64 q.2.1) ∧ w.cell? ⟨B, 2, none⟩ = some (.int .i64 q.2.2.1) ∧ w.cell? ⟨B, 3, none⟩ = some (.int .i64 q.2.2.2)) ∧
  w.frozen? ⟨B, 0, none⟩ = false ∧ w.frozen? ⟨B, 1, none⟩ = false ∧ w.frozen? ⟨B, 2, none⟩ = false ∧ w.frozen? ⟨B, 3, none⟩ = false
theorem Own4.ext {w w' : World} {B : Nat} {q : Int × Int × Int × Int} (h : Own4 w B q) (hx : Ext w w') : Own4 w' B q := by
  obtain ⟨⟨c0, c1, c2, c3⟩, f0, f1, f2, f3⟩ := h
  exact ⟨⟨hx.cell c0, hx.cell c1, hx.cell c2, hx.cell c3⟩, hx.frozen c0 f0, hx.frozen c1 f1, hx.frozen c2 f2, hx.frozen c3 f3⟩
theorem Own4.lt {w : World} {B : Nat} {q : Int × Int × Int × Int} (h : Own4 w B q) : B < w.heap.size := World.block_lt_of_cell? w _ h.1.1
theorem Own4.other {w : World} {B : Nat} {q : Int × Int × Int × Int} (h : Own4 w B q) {p : Addr} (hp : p.block ≠ B) (u : Value) : Own4 (w.setCell p u) B q := by
  have hne : ∀ i, p ≠ (⟨B, i, none⟩ : Addr) := fun i e => hp (by rw [e])
  obtain ⟨⟨c0, c1, c2, c3⟩, f0, f1, f2, f3⟩ := h
  refine ⟨⟨?_, ?_, ?_, ?_⟩, ?_, ?_, ?_, ?_⟩
  · rw [World.cell?_setCell_other _ _ _ _ (hne 0)]; exact c0
  · rw [World.cell?_setCell_other _ _ _ _ (hne 1)]; exact c1
  · rw [World.cell?_setCell_other _ _ _ _ (hne 2)]; exact c2
  · rw [World.cell?_setCell_other _ _ _ _ (hne 3)]; exact c3
  · rw [World.frozen?_setCell]; exact f0
  · rw [World.frozen?_setCell]; exact f1
  · rw [World.frozen?_setCell]; exact f2
  · rw [World.frozen?_setCell]; exact f3
theorem Own4.put {w : World} {B : Nat} {q : Int × Int × Int × Int} (h : Own4 w B q) (p0 p1 p2 p3 : Int) :
    Own4 ((((w.setCell ⟨B, 0, none⟩ (.int .i64 p0)).setCell ⟨B, 1, none⟩ (.int .i64 p1)).setCell ⟨B, 2, none⟩ (.int .i64 p2)).setCell ⟨B, 3, none⟩ (.int .i64 p3)) B (p0, p1, p2, p3) := by
  obtain ⟨⟨c0, c1, c2, c3⟩, f0, f1, f2, f3⟩ := h
  refine ⟨⟨?_, ?_, ?_, ?_⟩, ?_, ?_, ?_, ?_⟩
  · simp [World.cell?_setCell_other, World.cell?_setCell_same _ _ _ c0]
  · rw [World.cell?_setCell_other _ _ _ _ (by simp), World.cell?_setCell_other _ _ _ _ (by simp), World.cell?_setCell_same _ _ _ (by rw [World.cell?_setCell_other _ _ _ _ (by simp)]; exact c1)]
  · rw [World.cell?_setCell_other _ _ _ _ (by simp), World.cell?_setCell_same _ _ _ (by rw [World.cell?_setCell_other _ _ _ _ (by simp), World.cell?_setCell_other _ _ _ _ (by simp)]; exact c2)]
  · rw [World.cell?_setCell_same _ _ _ (by rw [World.cell?_setCell_other _ _ _ _ (by simp), World.cell?_setCell_other _ _ _ _ (by simp), World.cell?_setCell_other _ _ _ _ (by simp)]; exact c3)]
  all_goals (simp only [World.frozen?_setCell]; assumption)

theorem cell4 {w : World} {B : Nat} {p : Addr} (hp : p.block ≠ B) (p0 p1 p2 p3 : Int) {v : Value} (h : w.cell? p = some v) :
    ((((w.setCell ⟨B, 0, none⟩ (.int .i64 p0)).setCell ⟨B, 1, none⟩ (.int .i64 p1)).setCell ⟨B, 2, none⟩ (.int .i64 p2)).setCell ⟨B, 3, none⟩ (.int .i64 p3)).cell? p = some v := by
  have hne : ∀ i, (⟨B, i, none⟩ : Addr) ≠ p := fun i e => hp (by rw [← e])
  rw [World.cell?_setCell_other _ _ _ _ (hne 3), World.cell?_setCell_other _ _ _ _ (hne 2), World.cell?_setCell_other _ _ _ _ (hne 1), World.cell?_setCell_other _ _ _ _ (hne 0)]
  exact h
/-- one edge against another -/
def shStep (s : (Int × Int × Int × Int) × Int) (x y : Int × Int × Int) : (Int × Int × Int × Int) × Int :=
  if x.1 = y.2.1 ∧ x.2.1 = y.1 then ((x.1, y.2.2, x.2.1, x.2.2), s.2 + 1) else s
def shRow (s : (Int × Int × Int × Int) × Int) (x b : Int × Int × Int) : Nat → (Int × Int × Int × Int) × Int
  | 0 => s
  | j + 1 => shStep (shRow s x b j) x (sideT b j)
def shAll (a b : Int × Int × Int) : Nat → (Int × Int × Int × Int) × Int
  | 0 => ((0, 0, 0, 0), 0)
  | i + 1 => shRow (shAll a b i) (sideT a i) b 3
theorem shStep_bd (s : (Int × Int × Int × Int) × Int) (x y : Int × Int × Int) : s.2 ≤ (shStep s x y).2 ∧ (shStep s x y).2 ≤ s.2 + 1 := by unfold shStep; split <;> simp <;> omega
theorem shRow_bd (s : (Int × Int × Int × Int) × Int) (x b : Int × Int × Int) : ∀ j, s.2 ≤ (shRow s x b j).2 ∧ (shRow s x b j).2 ≤ s.2 + j
  | 0 => by simp [shRow]
  | j + 1 => by have h1 := shRow_bd s x b j; have h2 := shStep_bd (shRow s x b j) x (sideT b j); simp only [shRow]; omega
theorem shAll_bd (a b : Int × Int × Int) : ∀ i, 0 ≤ (shAll a b i).2 ∧ (shAll a b i).2 ≤ 3 * i
  | 0 => by simp [shAll]
  | i + 1 => by have h1 := shAll_bd a b i; have h2 := shRow_bd (shAll a b i) (sideT a i) b 3; simp only [shAll]; omega
/-- dual.shared -/
def sharedP (a b : Int × Int × Int) : (Int × Int × Int × Int) × Bool := ((shAll a b 3).1, decide ((shAll a b 3).2 = 1))

set_option maxHeartbeats 4000000 in
set_option maxRecDepth 100000 in
theorem shared_any (a0 a1 a2 b0 b1 b2 : Int) (w : World) :
    Calls Try.prog 72 #[.agg #[.int .i64 a0, .int .i64 a1, .int .i64 a2], .agg #[.int .i64 b0, .int .i64 b1, .int .i64 b2]] w fun e w' => (∃ p q r s : Int, (sharedP (a0, a1, a2) (b0, b1, b2)).1 = (p, q, r, s) ∧ e = .returned (.tuple #[.agg #[.int .i64 p, .int .i64 q, .int .i64 r, .int .i64 s], .bool (sharedP (a0, a1, a2) (b0, b1, b2)).2])) ∧ Ext w w' := by
  go_enter Try.func72, Try.ntmps72
  go_wp2_with fail
  refine (sides_any a0 a1 a2 _).mono ?_
  rintro e W1 ⟨rfl, hW1⟩
  go_wp2_with fail
  have hx1 := ((((Ext.refl w).alloc _).alloc _).alloc _).alloc _ |>.trans hW1
  have o4 : Own4 W1 (w.heap.size + 1 + 1) (0, 0, 0, 0) := Own4.ext ⟨⟨by simp [go_sem], by simp [go_sem], by simp [go_sem], by simp [go_sem]⟩, by simp [go_sem], by simp [go_sem], by simp [go_sem], by simp [go_sem]⟩ hW1
  have o6 : Own4 W1 (w.heap.size + 1 + 1 + 1) (0, 0, 0, 0) := Own4.ext ⟨⟨by simp [go_sem], by simp [go_sem], by simp [go_sem], by simp [go_sem]⟩, by simp [go_sem], by simp [go_sem], by simp [go_sem], by simp [go_sem]⟩ hW1
  have y0 := hW1.cell (p := ⟨w.heap.size + 1, 0, none⟩) (v := .int .i64 b0) (by simp [go_sem])
  have y1 := hW1.cell (p := ⟨w.heap.size + 1, 1, none⟩) (v := .int .i64 b1) (by simp [go_sem])
  have y2 := hW1.cell (p := ⟨w.heap.size + 1, 2, none⟩) (v := .int .i64 b2) (by simp [go_sem])
  clear hW1
  go_loopw [7, 14] (fun n i wr => ∃ k : Nat, k ≤ 3 ∧ i = .int .i64 k ∧ n = .int .i64 (shAll (a0, a1, a2) (b0, b1, b2) k).2 ∧ Ext w wr ∧ Own4 wr (w.heap.size + 1 + 1) (0, 0, 0, 0) ∧ Own4 wr (w.heap.size + 1 + 1 + 1) (shAll (a0, a1, a2) (b0, b1, b2) k).1 ∧
    wr.cell? ⟨w.heap.size + 1, 0, none⟩ = some (.int .i64 b0) ∧ wr.cell? ⟨w.heap.size + 1, 1, none⟩ = some (.int .i64 b1) ∧ wr.cell? ⟨w.heap.size + 1, 2, none⟩ = some (.int .i64 b2)) (fun _ i _ => 3 - (intOf i).toNat)
  case atStart => exact ⟨0, by omega, rfl, rfl, hx1, o4, o6, y0, y1, y2⟩
  case round =>
    clear hx1 o4 o6 y0 y1 y2
    obtain ⟨i, hi, rfl, rfl, hx, o4, o6, y0, y1, y2⟩ := hrel
    have hbd := shAll_bd (a0, a1, a2) (b0, b1, b2) i
    have hz := o6.lt
    have hzb : w.heap.size + 1 < wr.heap.size := by omega
    by_cases hlt : i < 3
    · have hidx := idx33 a0 a1 a2 i hlt
      generalize hx33 : sideT (a0, a1, a2) i = x at *
      obtain ⟨x0, x1, x2⟩ := x
      simp only at hidx
      have hlt' : (i : Int) < 3 := by omega
      go_wp2_with fail
      refine (sides_any b0 b1 b2 _).mono ?_
      rintro e W2 ⟨rfl, hW2⟩
      go_wp2_with fail
      have hA := ((Ext.refl wr).alloc (Obj.cells #[Value.int IntKind.i64 x0, Value.int IntKind.i64 x1, Value.int IntKind.i64 x2] 87)).trans hW2
      have p0 := hW2.cell (p := ⟨wr.heap.size, 0, none⟩) (v := .int .i64 x0) (by simp [go_sem])
      have p1 := hW2.cell (p := ⟨wr.heap.size, 1, none⟩) (v := .int .i64 x1) (by simp [go_sem])
      have p2 := hW2.cell (p := ⟨wr.heap.size, 2, none⟩) (v := .int .i64 x2) (by simp [go_sem])
      obtain ⟨wo, rfl⟩ : ∃ wo : World, wo = wr := ⟨_, rfl⟩
      go_loopw [7, 19] (fun n j wr => ∃ k : Nat, k ≤ 3 ∧ j = .int .i64 k ∧ n = .int .i64 (shRow (shAll (a0, a1, a2) (b0, b1, b2) i) (x0, x1, x2) (b0, b1, b2) k).2 ∧ Ext w wr ∧ Own4 wr (w.heap.size + 1 + 1) (0, 0, 0, 0) ∧ Own4 wr (w.heap.size + 1 + 1 + 1) (shRow (shAll (a0, a1, a2) (b0, b1, b2) i) (x0, x1, x2) (b0, b1, b2) k).1 ∧
        (wr.cell? ⟨w.heap.size + 1, 0, none⟩ = some (.int .i64 b0) ∧ wr.cell? ⟨w.heap.size + 1, 1, none⟩ = some (.int .i64 b1) ∧ wr.cell? ⟨w.heap.size + 1, 2, none⟩ = some (.int .i64 b2)) ∧
        wr.cell? ⟨wo.heap.size, 0, none⟩ = some (.int .i64 x0) ∧ wr.cell? ⟨wo.heap.size, 1, none⟩ = some (.int .i64 x1) ∧ wr.cell? ⟨wo.heap.size, 2, none⟩ = some (.int .i64 x2)) (fun _ j _ => 3 - (intOf j).toNat)
      case atStart => exact ⟨0, by omega, rfl, rfl, hx.trans hA, o4.ext hA, o6.ext hA, ⟨hA.cell y0, hA.cell y1, hA.cell y2⟩, p0, p1, p2⟩
      case round =>
        clear p0 p1 p2 o4 o6 y0 y1 y2 hA hW2 hidx
        obtain ⟨j, hj, rfl, rfl, hx', o4, o6, ⟨y0, y1, y2⟩, p0, p1, p2⟩ := hrel
        have hbd2 := shRow_bd (shAll (a0, a1, a2) (b0, b1, b2) i) (x0, x1, x2) (b0, b1, b2) j
        have hz4 := o4.lt
        have hz6 := o6.lt
        have hzo := World.block_lt_of_cell? wr _ p0
        by_cases hltj : j < 3
        · have hidx := idx33 b0 b1 b2 j hltj
          have hst : shRow (shAll (a0, a1, a2) (b0, b1, b2) i) (x0, x1, x2) (b0, b1, b2) (j + 1) = shStep (shRow (shAll (a0, a1, a2) (b0, b1, b2) i) (x0, x1, x2) (b0, b1, b2) j) (x0, x1, x2) (sideT (b0, b1, b2) j) := rfl
          generalize sideT (b0, b1, b2) j = y at *
          obtain ⟨q0, q1, q2⟩ := y
          simp only at hidx
          have HST := Lib.hid hst
          clear hst
          have hltj' : (j : Int) < 3 := by omega
          generalize shRow (shAll (a0, a1, a2) (b0, b1, b2) i) (x0, x1, x2) (b0, b1, b2) j = st at *
          obtain ⟨q, n⟩ := st
          simp only at hbd2
          by_cases e1 : x0 = q1
          · by_cases e2 : x1 = q0
            · have HSV : Hid (shRow (shAll (a0, a1, a2) (b0, b1, b2) i) (x0, x1, x2) (b0, b1, b2) (j + 1) = ((x0, q2, x1, x2), n + 1)) := by
                show _ = _
                rw [HST.out]; unfold shStep; rw [if_pos ⟨e1, e2⟩]
              have f1 : (x0 == q1) = true := by simpa using e1
              have f2 : (x1 == q0) = true := by simpa using e2
              clear e1 e2
              obtain ⟨⟨r0, r1, r2, r3⟩, g0, g1, g2, g3⟩ := o6
              go_wp2_with fail
              have hB := (Ext.refl wr).alloc (Obj.cells #[Value.int IntKind.i64 q0, Value.int IntKind.i64 q1, Value.int IntKind.i64 q2] 87)
              have o6 : Own4 wr (w.heap.size + 1 + 1 + 1) q := ⟨⟨r0, r1, r2, r3⟩, g0, g1, g2, g3⟩
              go_roundw
              case rel =>
                have hC := (Ext.refl ((((wr.setCell ⟨w.heap.size + 1 + 1 + 1, 0, none⟩ (.int .i64 x0)).setCell ⟨w.heap.size + 1 + 1 + 1, 1, none⟩ (.int .i64 q2)).setCell ⟨w.heap.size + 1 + 1 + 1, 2, none⟩ (.int .i64 x1)).setCell ⟨w.heap.size + 1 + 1 + 1, 3, none⟩ (.int .i64 x2))).alloc (Obj.cells #[Value.int IntKind.i64 q0, Value.int IntKind.i64 q1, Value.int IntKind.i64 q2] 87)
                exact ⟨j + 1, by omega, by go_num, by rw [HSV.out], ((((hx'.setCell (by simp; omega) _).setCell (by simp; omega) _).setCell (by simp; omega) _).setCell (by simp; omega) _).trans hC,
                  (((((o4.other (by simp) _).other (by simp) _).other (by simp) _).other (by simp) _)).ext hC, by rw [HSV.out]; exact (o6.put x0 q2 x1 x2).ext hC,
                  ⟨hC.cell (cell4 (by simp) _ _ _ _ y0), hC.cell (cell4 (by simp) _ _ _ _ y1), hC.cell (cell4 (by simp) _ _ _ _ y2)⟩, hC.cell (cell4 (by simp; omega) _ _ _ _ p0), hC.cell (cell4 (by simp; omega) _ _ _ _ p1), hC.cell (cell4 (by simp; omega) _ _ _ _ p2)⟩
              case measure => simp [intOf]; omega
            · have HSV : Hid (shRow (shAll (a0, a1, a2) (b0, b1, b2) i) (x0, x1, x2) (b0, b1, b2) (j + 1) = (q, n)) := by
                show _ = _
                rw [HST.out]; unfold shStep; rw [if_neg (fun h => e2 h.2)]
              have f1 : (x0 == q1) = true := by simpa using e1
              have f2 : (x1 == q0) = false := by simpa using e2
              clear e1 e2
              have hB := (Ext.refl wr).alloc (Obj.cells #[Value.int IntKind.i64 q0, Value.int IntKind.i64 q1, Value.int IntKind.i64 q2] 87)
              go_wp2_with fail
              go_roundw
              case rel => exact ⟨j + 1, by omega, by go_num, by rw [HSV.out], hx'.trans hB, o4.ext hB, by rw [HSV.out]; exact o6.ext hB, ⟨hB.cell y0, hB.cell y1, hB.cell y2⟩, hB.cell p0, hB.cell p1, hB.cell p2⟩
              case measure => simp [intOf]; omega
          · have HSV : Hid (shRow (shAll (a0, a1, a2) (b0, b1, b2) i) (x0, x1, x2) (b0, b1, b2) (j + 1) = (q, n)) := by
              show _ = _
              rw [HST.out]; unfold shStep; rw [if_neg (fun h => e1 h.1)]
            have f1 : (x0 == q1) = false := by simpa using e1
            clear e1
            have hB := (Ext.refl wr).alloc (Obj.cells #[Value.int IntKind.i64 q0, Value.int IntKind.i64 q1, Value.int IntKind.i64 q2] 87)
            go_wp2_with fail
            go_roundw
            case rel => exact ⟨j + 1, by omega, by go_num, by rw [HSV.out], hx'.trans hB, o4.ext hB, by rw [HSV.out]; exact o6.ext hB, ⟨hB.cell y0, hB.cell y1, hB.cell y2⟩, hB.cell p0, hB.cell p1, hB.cell p2⟩
            case measure => simp [intOf]; omega
        · have hj3 : j = 3 := by omega
          have HE : Hid (shAll (a0, a1, a2) (b0, b1, b2) (i + 1) = shRow (shAll (a0, a1, a2) (b0, b1, b2) i) (x0, x1, x2) (b0, b1, b2) j) := by
            show shRow _ (sideT (a0, a1, a2) i) _ 3 = _
            rw [hx33, hj3]
          have hj4 : ¬ ((j : Int) < 3) := by omega
          clear hj3 hx33
          go_wp2_with fail
          go_roundw
          case rel => exact ⟨i + 1, by omega, by go_num, by rw [HE.out], hx', o4, by rw [HE.out]; exact o6, y0, y1, y2⟩
          case measure => simp [intOf]; omega
    · have hi3 : i = 3 := by omega
      have HE : Hid (sharedP (a0, a1, a2) (b0, b1, b2) = ((shAll (a0, a1, a2) (b0, b1, b2) i).1, decide ((shAll (a0, a1, a2) (b0, b1, b2) i).2 = 1))) := by
        show _ = _
        unfold sharedP
        rw [hi3]
      have hi4 : ¬ ((i : Int) < 3) := by omega
      clear hi3
      generalize shAll (a0, a1, a2) (b0, b1, b2) i = st at *
      obtain ⟨⟨p, q, r, s⟩, n⟩ := st
      obtain ⟨⟨r0, r1, r2, r3⟩, g0, g1, g2, g3⟩ := o6
      obtain ⟨⟨u0, u1, u2, u3⟩, v0, v1, v2, v3⟩ := o4
      simp only at r0 r1 r2 r3
      go_wp2_with fail
      refine bodyPost_ret (v := .tuple #[.agg #[.int .i64 p, .int .i64 q, .int .i64 r, .int .i64 s], .bool (n == 1)]) (by simp [results, Try.results72, go_sem, *]) rfl ⟨⟨p, q, r, s, by rw [HE.out], by rw [HE.out]; rfl⟩, ?_⟩
      exact (((hx.setCell (by simp; omega) _).setCell (by simp; omega) _).setCell (by simp; omega) _).setCell (by simp; omega) _
end Go.Proofs.Ytagofpmcbbkmgaa
