/- parquetlaw17: square, known. -/
import Derived.Test.YtagofpmcbbkmgaaR1
namespace Go.Proofs.Ytagofpmcbbkmgaa
open Go.RowKit Go.Sort

def sqP : List (Int × Int) := [(0, 0), (4, 0), (4, 4), (0, 4)]
def sqT : List (Int × Int × Int) := [(0, 1, 2), (0, 2, 3)]
def sqS : List (Int × Int) := [(0, 1), (0, 3), (1, 2), (2, 3)]

set_option maxHeartbeats 1000000 in
set_option maxRecDepth 100000 in
theorem square_any (w : World) : Calls Try.prog 42 #[] w fun e w' => (∃ AP AT AS, e = .returned (.agg #[.slice AP sqP.length 4, .slice AT sqT.length 2, .slice AS sqS.length 4]) ∧ Mesh w' AP AT AS sqP sqT sqS) ∧ Ext w w' := by
  go_enter Try.func42, Try.ntmps42
  go_wp2_with fail
  refine bodyPost_ret (v := .agg #[.slice (some ⟨w.heap.size + 1, 0, none⟩) 4 4, .slice (some ⟨w.heap.size + 1 + 1, 0, none⟩) 2 2, .slice (some ⟨w.heap.size + 1 + 1 + 1, 0, none⟩) 4 4]) (by simp [results, Try.results42, go_sem]) rfl ⟨⟨_, _, _, rfl, ?_⟩, ((((Ext.refl _).alloc _).alloc _).alloc _).alloc _⟩
  refine ⟨Or.inr ⟨_, _, rfl, ?_⟩, Or.inr ⟨_, _, rfl, ?_⟩, Or.inr ⟨_, _, rfl, ?_⟩, by decide, by decide, by decide⟩
  · intro j x hj
    match j, hj with
    | 0, hj => simp [sqP] at hj; subst hj; simp [go_sem]
    | 1, hj => simp [sqP] at hj; subst hj; simp [go_sem]
    | 2, hj => simp [sqP] at hj; subst hj; simp [go_sem]
    | 3, hj => simp [sqP] at hj; subst hj; simp [go_sem]
    | n + 4, hj => simp [sqP] at hj
  · intro j x hj
    match j, hj with
    | 0, hj => simp [sqT] at hj; subst hj; simp [go_sem]
    | 1, hj => simp [sqT] at hj; subst hj; simp [go_sem]
    | n + 2, hj => simp [sqT] at hj
  · intro j x hj
    match j, hj with
    | 0, hj => simp [sqS] at hj; subst hj; simp [go_sem]
    | 1, hj => simp [sqS] at hj; subst hj; simp [go_sem]
    | 2, hj => simp [sqS] at hj; subst hj; simp [go_sem]
    | 3, hj => simp [sqS] at hj; subst hj; simp [go_sem]
    | n + 4, hj => simp [sqS] at hj

theorem sq_chk : chkI sqP sqT sqS = 0 := by decide +kernel
theorem sq_out : outN sqP sqT sqS (3 * sqT.length) = [(0, 1)] := by decide +kernel
theorem sq_pairs : pairsP sqP sqT sqS = [(0, 1)] := by
  unfold pairsP
  rw [if_pos sq_chk, sq_out]
  simp [sortS]
theorem sq_quad : QuadP sqP sqT sqS 1 0 = some [0, 1, 2, 3] := by decide +kernel
theorem sq_quad0 : QuadP sqP sqT sqS 0 0 = none := by decide +kernel
theorem sq_beside : besideP sqP sqT sqS 1 = [0] := by
  unfold besideP
  rw [sq_pairs]
  simp [besideL, besideS, sortI]
theorem nil_chk : chkI [] [(0, 0, 0)] [] = 2 := by decide +kernel

theorem rd2_one (w : World) (t : TypeId) (x y : Int) : Rd2 (w.alloc (.cells #[.int .i64 x, .int .i64 y] t)) (some ⟨w.heap.size, 0, none⟩) [(x, y)] := by
  refine Or.inr ⟨_, _, rfl, ?_⟩
  intro j v hj
  match j, hj with
  | 0, hj => simp at hj; subst hj; simp [go_sem]
  | n + 1, hj => simp at hj
theorem rd3_one (w : World) (t : TypeId) (x y z : Int) : Rd3 (w.alloc (.cells #[.int .i64 x, .int .i64 y, .int .i64 z] t)) (some ⟨w.heap.size, 0, none⟩) [(x, y, z)] := by
  refine Or.inr ⟨_, _, rfl, ?_⟩
  intro j v hj
  match j, hj with
  | 0, hj => simp at hj; subst hj; simp [go_sem]
  | n + 1, hj => simp at hj
theorem rd1_one (w : World) (t : TypeId) (x : Int) : Rd1 (w.alloc (.cells #[.int .i64 x] t)) (some ⟨w.heap.size, 0, none⟩) [x] := by
  refine Or.inr ⟨_, _, rfl, ?_⟩
  intro j v hj
  match j, hj with
  | 0, hj => simp at hj; subst hj; simp [go_sem]
  | n + 1, hj => simp at hj
theorem rd1_four (w : World) (t : TypeId) (x y z u : Int) : Rd1 (w.alloc (.cells #[.int .i64 x, .int .i64 y, .int .i64 z, .int .i64 u] t)) (some ⟨w.heap.size, 0, none⟩) [x, y, z, u] := by
  refine Or.inr ⟨_, _, rfl, ?_⟩
  intro j v hj
  match j, hj with
  | 0, hj => simp at hj; subst hj; simp [go_sem]
  | 1, hj => simp at hj; subst hj; simp [go_sem]
  | 2, hj => simp at hj; subst hj; simp [go_sem]
  | 3, hj => simp at hj; subst hj; simp [go_sem]
  | n + 4, hj => simp at hj
/-- A row of the call's own, read. -/
theorem QuadRes.read {w0 w' : World} {e : Ending} {l : List Int} (h : QuadRes w0 w' e (some l)) (hl : l.length = 4) : ∃ A c, e = .returned (.tuple #[.slice A 4 c, .bool true]) ∧ Rd1 w' A l := by
  obtain ⟨A, c, he, ho⟩ := h
  rw [← hl] at ho he
  exact ⟨A, c, by rw [he, hl], own_rd1 ho⟩

set_option maxHeartbeats 4000000 in
set_option maxRecDepth 100000 in
theorem known17_any (w : World) : Calls Try.prog 18 #[] w fun e w' => e = .returned (.bool true) ∧ Ext w w' := by
  have HP := Lib.hid (fun W AP AT AS (h : Mesh W AP AT AS sqP sqT sqS) => (pairs_any AP AT AS 4 2 4 sqP sqT sqS W h).mono (R' := fun e w' => (∃ A c, e = .returned (.tuple #[.slice A 1 c, .int .i64 0]) ∧ Rd2 w' A [(0, 1)]) ∧ Ext W w') fun e w' h => ⟨by
    obtain ⟨A, c, he, hr⟩ := h.1.uni
    rw [sq_pairs, sq_chk] at he
    rw [sq_pairs] at hr
    exact ⟨A, c, he, hr⟩, h.2⟩)
  have HQ := Lib.hid (fun W AP AT AS (h : Mesh W AP AT AS sqP sqT sqS) => (Quad_any AP AT AS 4 2 4 sqP sqT sqS 1 0 W h).mono (R' := fun e w' => (∃ A c, e = .returned (.tuple #[.slice A 4 c, .bool true]) ∧ Rd1 w' A [0, 1, 2, 3]) ∧ Ext W w') fun e w' h => ⟨by
    have h1 := h.1
    rw [sq_quad] at h1
    exact h1.read rfl, h.2⟩)
  have HQ0 := Lib.hid (fun W AP AT AS (h : Mesh W AP AT AS sqP sqT sqS) => (Quad_any AP AT AS 4 2 4 sqP sqT sqS 0 0 W h).mono (R' := fun e w' => e = .returned (.tuple #[.slice none 0 0, .bool false]) ∧ Ext W w') fun e w' h => ⟨by
    have h1 := h.1
    rw [sq_quad0] at h1
    exact h1, h.2⟩)
  have HB := Lib.hid (fun W AP AT AS (h : Mesh W AP AT AS sqP sqT sqS) => (beside_any AP AT AS 4 2 4 sqP sqT sqS 1 W h).mono (R' := fun e w' => (∃ A c, e = .returned (.slice A 1 c) ∧ Rd1 w' A [0]) ∧ Ext W w') fun e w' h => ⟨by
    have h1 := h.1
    rw [sq_beside] at h1
    exact h1, h.2⟩)
  have HN := Lib.hid (fun W A (h : Rd3 W A [(0, 0, 0)]) => (pairs_any none A none 0 1 0 [] [(0, 0, 0)] [] W ⟨Or.inl rfl, h, Or.inl rfl, by decide, by decide, by decide⟩).mono (R' := fun e w' => (∃ A n c, e = .returned (.tuple #[.slice A n c, .int .i64 2])) ∧ Ext W w') fun e w' h => ⟨by
    obtain ⟨A, c, he, hr⟩ := h.1.uni
    rw [nil_chk] at he
    exact ⟨A, _, c, he⟩, h.2⟩)
  go_enter Try.func18, Try.ntmps18
  go_wp2_with fail
  refine (square_any _).mono ?_
  rintro e W1 ⟨⟨AP, AT, AS, rfl, hM⟩, hx⟩
  go_wp2_with fail
  refine (HP.out _ _ _ _ hM).mono ?_
  clear hM
  rintro e W2 ⟨⟨A1, c1, rfl, hr1⟩, hx2⟩
  replace hx := hx.trans hx2
  clear hx2
  go_wp2_with fail
  refine (square_any _).mono ?_
  rintro e W3 ⟨⟨BP, BT, BS, rfl, hM⟩, hx2⟩
  replace hx := hx.trans hx2
  replace hr1 := hr1.ext hx2
  clear hx2
  go_wp2_with fail
  refine (HQ.out _ _ _ _ hM).mono ?_
  clear hM
  rintro e W4 ⟨⟨A2, c2, rfl, hr2⟩, hx2⟩
  replace hx := hx.trans hx2
  replace hr1 := hr1.ext hx2
  clear hx2
  go_wp2_with fail
  refine (HN.out _ _ (rd3_one W4 _ 0 0 0)).mono ?_
  rintro e W5 ⟨⟨A3, n3, c3, rfl⟩, hx2⟩
  replace hx2 := ((Ext.refl W4).alloc _).trans hx2
  replace hx := hx.trans hx2
  replace hr1 := hr1.ext hx2
  replace hr2 := hr2.ext hx2
  clear hx2
  go_wp2_with fail
  refine (square_any _).mono ?_
  rintro e W6 ⟨⟨CP, CT, CS, rfl, hM⟩, hx2⟩
  replace hx := hx.trans hx2
  replace hr1 := hr1.ext hx2
  replace hr2 := hr2.ext hx2
  clear hx2
  go_wp2_with fail
  refine (HQ0.out _ _ _ _ hM).mono ?_
  clear hM
  rintro e W7 ⟨rfl, hx2⟩
  replace hx := hx.trans hx2
  replace hr1 := hr1.ext hx2
  replace hr2 := hr2.ext hx2
  clear hx2
  have HSS := Lib.hid (fun A B c d W (h1 : Rd2 W A [(0, 1)]) (h2 : Rd2 W B [(0, 1)]) => sameSegs_any A B c d [(0, 1)] [(0, 1)] W (by decide) h1 h2)
  have HSI := Lib.hid (fun A B c d W (h1 : Rd1 W A [0, 1, 2, 3]) (h2 : Rd1 W B [0, 1, 2, 3]) => sameInts_any A B c d [0, 1, 2, 3] [0, 1, 2, 3] W (by decide) h1 h2)
  have HSJ := Lib.hid (fun A B c d W (h1 : Rd1 W A [0]) (h2 : Rd1 W B [0]) => sameInts_any A B c d [0] [0] W (by decide) h1 h2)
  rw [show decide ([((0 : Int), (1 : Int))] = [(0, 1)]) = true by decide] at HSS
  rw [show decide ([(0 : Int), 1, 2, 3] = [0, 1, 2, 3]) = true by decide] at HSI
  rw [show decide ([(0 : Int)] = [0]) = true by decide] at HSJ
  go_wp2_with fail
  refine (HSS.out _ _ _ _ _ (hr1.ext ((Ext.refl W7).alloc _)) (rd2_one W7 _ 0 1)).mono ?_
  rintro e W8 ⟨rfl, hx2⟩
  replace hx2 := ((Ext.refl W7).alloc _).trans hx2
  replace hx := hx.trans hx2
  replace hr2 := hr2.ext hx2
  clear hx2 hr1 HSS
  go_wp2_with fail
  refine (HSI.out _ _ _ _ _ (hr2.ext ((Ext.refl W8).alloc _)) (rd1_four W8 _ 0 1 2 3)).mono ?_
  rintro e W9 ⟨rfl, hx2⟩
  replace hx := hx.trans (((Ext.refl W8).alloc _).trans hx2)
  clear hx2 hr2 HSI
  go_wp2_with fail
  refine (square_any _).mono ?_
  rintro e W10 ⟨⟨DP, DT, DS, rfl, hM⟩, hx2⟩
  replace hx := hx.trans hx2
  clear hx2
  go_wp2_with fail
  refine (HB.out _ _ _ _ hM).mono ?_
  rintro e W11 ⟨⟨A4, c4, rfl, hr4⟩, hx2⟩
  replace hx := hx.trans hx2
  clear hx2
  go_wp2_with fail
  refine (HSJ.out _ _ _ _ _ (hr4.ext ((Ext.refl W11).alloc _)) (rd1_one W11 _ 0)).mono ?_
  rintro e W12 ⟨rfl, hx2⟩
  replace hx := hx.trans (((Ext.refl W11).alloc _).trans hx2)
  clear hx2 hr4 HSJ
  go_wp2_with fail
  go_ret
  exact ⟨rfl, hx⟩
end Go.Proofs.Ytagofpmcbbkmgaa
