/- Package fill: Tri. -/
import Derived.Test.YtagofpmcbbkmgaaL8
namespace Go.Proofs.Ytagofpmcbbkmgaa
open Go.RowKit

/-- gone round to the least -/
def rotTri (a b c : Int) : Int × Int × Int := if a ≤ b ∧ a ≤ c then (a, b, c) else if b ≤ c ∧ b ≤ a then (b, c, a) else (c, a, b)
def rotM (a b c : Int) : Nat := if a ≤ b ∧ a ≤ c then 0 else if b ≤ c ∧ b ≤ a then 1 else 2
theorem rotTri_step (a b c : Int) (h : b < a ∨ c < a) : rotTri b c a = rotTri a b c := by
  unfold rotTri
  by_cases h1 : b ≤ c ∧ b ≤ a
  · rw [if_pos h1, if_neg (by omega), if_pos h1]
  · rw [if_neg h1, if_pos (by omega), if_neg (by omega), if_neg h1]
theorem rotM_step (a b c : Int) (h : b < a ∨ c < a) : rotM b c a < rotM a b c := by
  unfold rotM
  by_cases h1 : b ≤ c ∧ b ≤ a
  · rw [if_pos h1, if_neg (by omega), if_pos h1]; omega
  · rw [if_neg h1, if_pos (by omega), if_neg (by omega), if_neg h1]; omega
theorem rotTri_stop (a b c : Int) (h : a ≤ b ∧ a ≤ c) : rotTri a b c = (a, b, c) := by unfold rotTri; rw [if_pos h]

/-- are they places' numbers? -/
def inR (n : Nat) (a : Int) : Bool := decide (0 ≤ a) && decide (a < n)
/-- fill.Tri -/
def triP (ps : List (Int × Int)) (a b c : Int) : Option (Int × Int × Int) :=
  if inR ps.length a && inR ps.length b && inR ps.length c then
    let r := orientP (at2 ps a.toNat) (at2 ps b.toNat) (at2 ps c.toNat)
    if r = 0 then none else if r = -1 then some (rotTri a c b) else some (rotTri a b c)
  else none
def triV : Option (Int × Int × Int) → Value
  | none => .tuple #[.agg #[.int .i64 0, .int .i64 0, .int .i64 0], .bool false]
  | some t => .tuple #[.agg #[.int .i64 t.1, .int .i64 t.2.1, .int .i64 t.2.2], .bool true]

theorem arr3 (x0 x1 x2 : Value) (w : World) : (Instr.index 87 (.agg #[x0, x1, x2]) (.int .i64 0)).run Try.prog w = .ok x0 w ∧ (Instr.index 87 (.agg #[x0, x1, x2]) (.int .i64 1)).run Try.prog w = .ok x1 w ∧ (Instr.index 87 (.agg #[x0, x1, x2]) (.int .i64 2)).run Try.prog w = .ok x2 w := ⟨by kernel_rfl, by kernel_rfl, by kernel_rfl⟩

set_option maxHeartbeats 1000000 in
set_option maxRecDepth 100000 in
theorem tri_out (A : Option Addr) (cap : Nat) (ps : List (Int × Int)) (a b c : Int) (w : World) (hl : ps.length ≤ 1000000) (h : (inR ps.length a && inR ps.length b && inR ps.length c) = false) :
    Calls Try.prog 67 #[.slice A ps.length cap, .int .i64 a, .int .i64 b, .int .i64 c] w fun e w' => e = .returned (triV none) ∧ Ext w w' := by
  unfold triV
  have i0 : ∀ w, (Instr.index 87 (.agg #[.int .i64 a, .int .i64 b, .int .i64 c]) (.int .i64 0)).run Try.prog w = .ok (.int .i64 a) w := fun w => (arr3 _ _ _ w).1
  have i1 : ∀ w, (Instr.index 87 (.agg #[.int .i64 a, .int .i64 b, .int .i64 c]) (.int .i64 1)).run Try.prog w = .ok (.int .i64 b) w := fun w => (arr3 _ _ _ w).2.1
  have i2 : ∀ w, (Instr.index 87 (.agg #[.int .i64 a, .int .i64 b, .int .i64 c]) (.int .i64 2)).run Try.prog w = .ok (.int .i64 c) w := fun w => (arr3 _ _ _ w).2.2
  have hd : (a < 0 ∨ 0 ≤ a ∧ (ps.length : Int) ≤ a) ∨ (0 ≤ a ∧ a < (ps.length : Int)) ∧ (b < 0 ∨ 0 ≤ b ∧ (ps.length : Int) ≤ b) ∨ (0 ≤ a ∧ a < (ps.length : Int)) ∧ (0 ≤ b ∧ b < (ps.length : Int)) ∧ (c < 0 ∨ 0 ≤ c ∧ (ps.length : Int) ≤ c) := by
    unfold inR at h
    simp at h
    omega
  clear h
  rcases hd with (h1 | ⟨h1, h2⟩) | ⟨⟨h1, h2⟩, (h3 | ⟨h3, h4⟩)⟩ | ⟨⟨h1, h2⟩, ⟨h3, h4⟩, (h5 | ⟨h5, h6⟩)⟩
  all_goals
    go_enter Try.func67, Try.ntmps67
    go_wp2_with fail
    refine wp_loop_rounds 3 ?_
    rw [rounds_succ]
    go_wp2_with fail
    try rw [rounds_succ]
    go_wp2_with fail
    try rw [rounds_succ]
    go_wp2_with fail
    refine bodyPost_ret (v := .tuple #[.agg #[.int .i64 0, .int .i64 0, .int .i64 0], .bool false]) (by simp [results, Try.results67, go_sem]) rfl ⟨rfl, ?_⟩
    repeat (first | exact Ext.refl _ | apply Ext.drewN | apply Ext.drew | apply Ext.alloc)

set_option maxHeartbeats 2000000 in
set_option maxRecDepth 100000 in
theorem tri_in (A : Option Addr) (cap : Nat) (ps : List (Int × Int)) (a b c : Nat) (w : World) (hl : ps.length ≤ 1000000) (hR : Rd2 w A ps) (ha : a < ps.length) (hb : b < ps.length) (hc : c < ps.length) :
    Calls Try.prog 67 #[.slice A ps.length cap, .int .i64 a, .int .i64 b, .int .i64 c] w fun e w' => e = .returned (triV (let r := orientP (at2 ps a) (at2 ps b) (at2 ps c); if r = 0 then none else if r = -1 then some (rotTri a c b) else some (rotTri a b c))) ∧ Ext w w' := by
  have i0 : ∀ w, (Instr.index 87 (.agg #[.int .i64 a, .int .i64 b, .int .i64 c]) (.int .i64 0)).run Try.prog w = .ok (.int .i64 a) w := fun w => (arr3 _ _ _ w).1
  have i1 : ∀ w, (Instr.index 87 (.agg #[.int .i64 a, .int .i64 b, .int .i64 c]) (.int .i64 1)).run Try.prog w = .ok (.int .i64 b) w := fun w => (arr3 _ _ _ w).2.1
  have i2 : ∀ w, (Instr.index 87 (.agg #[.int .i64 a, .int .i64 b, .int .i64 c]) (.int .i64 2)).run Try.prog w = .ok (.int .i64 c) w := fun w => (arr3 _ _ _ w).2.2
  obtain ⟨bb, o, rfl, hcell⟩ := hR.open_ (by omega)
  obtain ⟨c0, c1⟩ := hcell a ha
  obtain ⟨c2, c3⟩ := hcell b hb
  obtain ⟨c4, c5⟩ := hcell c hc
  clear hcell hR
  generalize at2 ps a = pa at *
  generalize at2 ps b = pb at *
  generalize at2 ps c = pc at *
  obtain ⟨ax, ay⟩ := pa
  obtain ⟨bx, by_⟩ := pb
  obtain ⟨cx, cy⟩ := pc
  have HO := Lib.hid (fun W => orient_any ax ay bx by_ cx cy W)
  generalize orientP (ax, ay) (bx, by_) (cx, cy) = r at *
  simp only at c0 c1 c2 c3 c4 c5
  have g1 : (a : Int) < (ps.length : Int) := by omega
  have g2 : (b : Int) < (ps.length : Int) := by omega
  have g3 : (c : Int) < (ps.length : Int) := by omega
  go_enter Try.func67, Try.ntmps67
  go_wp2_with fail
  refine wp_loop_rounds 5 ?_
  rw [rounds_succ]
  go_wp2_with fail
  rw [rounds_succ]
  go_wp2_with fail
  rw [rounds_succ]
  go_wp2_with fail
  rw [rounds_succ]
  go_wp2_with fail
  have hx0 := (Ext.refl w).alloc (Obj.cells #[Value.int IntKind.i64 0, Value.int IntKind.i64 0, Value.int IntKind.i64 0] 36)
  refine wp_world (fun W => (Ext w W ∧ W.cell? ⟨bb, o + a * 2, none⟩ = some (.int .i64 ax) ∧ W.cell? ⟨bb, o + a * 2 + 1, none⟩ = some (.int .i64 ay) ∧ W.cell? ⟨bb, o + b * 2, none⟩ = some (.int .i64 bx) ∧ W.cell? ⟨bb, o + b * 2 + 1, none⟩ = some (.int .i64 by_) ∧ W.cell? ⟨bb, o + c * 2, none⟩ = some (.int .i64 cx) ∧ W.cell? ⟨bb, o + c * 2 + 1, none⟩ = some (.int .i64 cy)) ∧
    (W.cell? ⟨w.heap.size, 0, none⟩ = some (.int .i64 0) ∧ W.cell? ⟨w.heap.size, 1, none⟩ = some (.int .i64 0) ∧ W.cell? ⟨w.heap.size, 2, none⟩ = some (.int .i64 0)) ∧ W.frozen? ⟨w.heap.size, 0, none⟩ = false ∧ W.frozen? ⟨w.heap.size, 1, none⟩ = false ∧ W.frozen? ⟨w.heap.size, 2, none⟩ = false)
    ⟨⟨hx0, hx0.cell c0, hx0.cell c1, hx0.cell c2, hx0.cell c3, hx0.cell c4, hx0.cell c5⟩, ⟨by simp [go_sem], by simp [go_sem], by simp [go_sem]⟩, by simp [go_sem], by simp [go_sem], by simp [go_sem]⟩ ?_
  clear c0 c1 c2 c3 c4 c5 hx0
  rintro W ⟨⟨hW, c0, c1, c2, c3, c4, c5⟩, ⟨d0, d1, d2⟩, f0, f1, f2⟩
  have x0 := cell_ext c0
  have x1 := cell_ext c1
  have x2 := cell_ext c2
  have x3 := cell_ext c3
  have x4 := cell_ext c4
  have x5 := cell_ext c5
  clear c0 c1 c2 c3 c4 c5 i0 i1 i2
  refine wp_region_ext (by kernel_rfl) (by kernel_rfl) ?_
  repeat (go_big_quiet_step ((go_at_call 61; exact ext_call (HO.out _))))
  refine wpQuiet_nil ?_
  intro W1 hW1_
  have hW1 := ext_of hW1_
  clear hW1_
  clear x0 x1 x2 x3 x4 x5
  have f0' := hW1.frozen d0 f0
  have f1' := hW1.frozen d1 f1
  have f2' := hW1.frozen d2 f2
  have d0' := hW1.cell d0
  have d1' := hW1.cell d1
  have d2' := hW1.cell d2
  clear f0 f1 f2 d0 d1 d2
  replace hW := hW.trans hW1
  have hp1 : ¬ ((a : Int) < 0) := by omega
  clear hp1
  have hd : r = 0 ∨ r = -1 ∧ r ≠ 0 ∨ r ≠ 0 ∧ r ≠ -1 := by omega
  have fin : ∀ (x y z p q s : Int), rotTri p q s = (x, y, z) → ∀ v, v = .tuple #[.agg #[.int .i64 x, .int .i64 y, .int .i64 z], .bool true] → v = triV (some (rotTri p q s)) := fun x y z p q s h v hv => by rw [hv, h]; rfl
  have HFIN := Lib.hid fin
  clear fin
  rcases hd with h | ⟨h, h'⟩ | ⟨h, h'⟩
  · have e0 : (r == 0) = true := by simpa using h
    go_wp2_with fail
    refine bodyPost_ret (v := .tuple #[.agg #[.int .i64 0, .int .i64 0, .int .i64 0], .bool false]) (by simp [results, Try.results67, go_sem, *]) rfl ⟨by simp [h, triV], ?_⟩
    exact ((hW.setCell (by simp) _).setCell (by simp) _).setCell (by simp) _
  · have e0 : (r == 0) = false := by simpa using h'
    have e1 : (r == -1) = true := by simpa using h
    go_wp2_with fail
    clear HO
    go_loop [1, 2, 3] (fun s1 s2 s3 => ∃ x y z : Int, s1 = .int .i64 x ∧ s2 = .int .i64 y ∧ s3 = .int .i64 z ∧ Hid (rotTri x y z = rotTri a c b)) (fun s1 s2 s3 => rotM (intOf s1) (intOf s2) (intOf s3))
    case atStart => exact ⟨_, _, _, rfl, rfl, rfl, rfl⟩
    case round =>
      obtain ⟨x, y, z, rfl, rfl, rfl, HR⟩ := hrel
      have hcs : y < x ∨ (x ≤ y ∧ z < x) ∨ (x ≤ y ∧ x ≤ z) := by omega
      rcases hcs with q1 | ⟨q1, q2⟩ | ⟨q1, q2⟩
      · go_wp2_with fail
        first
          | exact ⟨⟨_, _, _, ⟨y, rfl, z, rfl, x, rfl, show _ = _ from (rotTri_step x y z (Or.inl q1)).trans HR.out⟩, rfl, rfl, rfl⟩, rotM_step x y z (Or.inl q1)⟩
          | (go_round
             case rel => exact ⟨y, z, x, rfl, rfl, rfl, show _ = _ from (rotTri_step x y z (Or.inl q1)).trans HR.out⟩
             case measure => exact rotM_step x y z (Or.inl q1))
      · go_wp2_with fail
        first
          | exact ⟨⟨_, _, _, ⟨y, rfl, z, rfl, x, rfl, show _ = _ from (rotTri_step x y z (Or.inr q2)).trans HR.out⟩, rfl, rfl, rfl⟩, rotM_step x y z (Or.inr q2)⟩
          | (go_round
             case rel => exact ⟨y, z, x, rfl, rfl, rfl, show _ = _ from (rotTri_step x y z (Or.inr q2)).trans HR.out⟩
             case measure => exact rotM_step x y z (Or.inr q2))
      · go_wp2_with fail
        refine bodyPost_ret (v := .tuple #[.agg #[.int .i64 x, .int .i64 y, .int .i64 z], .bool true]) (by simp [results, Try.results67, go_sem, *]) rfl ⟨?_, ?_⟩
        · have hr := HR.out
          rw [rotTri_stop x y z ⟨q1, q2⟩] at hr
          simp [h, h', triV, ← hr]
        · exact ((hW.setCell (by simp) _).setCell (by simp) _).setCell (by simp) _
  · have e0 : (r == 0) = false := by simpa using h
    have e1 : (r == -1) = false := by simpa using h'
    go_wp2_with fail
    clear HO
    go_loop [1, 2, 3] (fun s1 s2 s3 => ∃ x y z : Int, s1 = .int .i64 x ∧ s2 = .int .i64 y ∧ s3 = .int .i64 z ∧ Hid (rotTri x y z = rotTri a b c)) (fun s1 s2 s3 => rotM (intOf s1) (intOf s2) (intOf s3))
    case atStart => exact ⟨_, _, _, rfl, rfl, rfl, rfl⟩
    case round =>
      obtain ⟨x, y, z, rfl, rfl, rfl, HR⟩ := hrel
      have hcs : y < x ∨ (x ≤ y ∧ z < x) ∨ (x ≤ y ∧ x ≤ z) := by omega
      rcases hcs with q1 | ⟨q1, q2⟩ | ⟨q1, q2⟩
      · go_wp2_with fail
        first
          | exact ⟨⟨_, _, _, ⟨y, rfl, z, rfl, x, rfl, show _ = _ from (rotTri_step x y z (Or.inl q1)).trans HR.out⟩, rfl, rfl, rfl⟩, rotM_step x y z (Or.inl q1)⟩
          | (go_round
             case rel => exact ⟨y, z, x, rfl, rfl, rfl, show _ = _ from (rotTri_step x y z (Or.inl q1)).trans HR.out⟩
             case measure => exact rotM_step x y z (Or.inl q1))
      · go_wp2_with fail
        first
          | exact ⟨⟨_, _, _, ⟨y, rfl, z, rfl, x, rfl, show _ = _ from (rotTri_step x y z (Or.inr q2)).trans HR.out⟩, rfl, rfl, rfl⟩, rotM_step x y z (Or.inr q2)⟩
          | (go_round
             case rel => exact ⟨y, z, x, rfl, rfl, rfl, show _ = _ from (rotTri_step x y z (Or.inr q2)).trans HR.out⟩
             case measure => exact rotM_step x y z (Or.inr q2))
      · go_wp2_with fail
        refine bodyPost_ret (v := .tuple #[.agg #[.int .i64 x, .int .i64 y, .int .i64 z], .bool true]) (by simp [results, Try.results67, go_sem, *]) rfl ⟨?_, ?_⟩
        · have hr := HR.out
          rw [rotTri_stop x y z ⟨q1, q2⟩] at hr
          simp [h, h', triV, ← hr]
        · exact ((hW.setCell (by simp) _).setCell (by simp) _).setCell (by simp) _

theorem tri_any (A : Option Addr) (cap : Nat) (ps : List (Int × Int)) (a b c : Int) (w : World) (hl : ps.length ≤ 1000000) (hR : Rd2 w A ps) :
    Calls Try.prog 67 #[.slice A ps.length cap, .int .i64 a, .int .i64 b, .int .i64 c] w fun e w' => e = .returned (triV (triP ps a b c)) ∧ Ext w w' := by
  unfold triP
  cases h : inR ps.length a && inR ps.length b && inR ps.length c
  · simp only [Bool.false_eq_true, if_false]
    exact tri_out A cap ps a b c w hl h
  · simp only [if_true]
    unfold inR at h
    simp at h
    obtain ⟨⟨⟨a1, a2⟩, b1, b2⟩, c1, c2⟩ := h
    obtain ⟨na, rfl⟩ := Int.eq_ofNat_of_zero_le a1
    obtain ⟨nb, rfl⟩ := Int.eq_ofNat_of_zero_le b1
    obtain ⟨nc, rfl⟩ := Int.eq_ofNat_of_zero_le c1
    exact tri_in A cap ps na nb nc w hl hR (by omega) (by omega) (by omega)
end Go.Proofs.Ytagofpmcbbkmgaa
