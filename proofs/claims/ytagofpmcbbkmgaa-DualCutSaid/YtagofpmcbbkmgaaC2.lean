/- The law DualCut, walked. -/
import Derived.Test.YtagofpmcbbkmgaaC1
namespace Go.Proofs.Ytagofpmcbbkmgaa
open Go.RowKit Go.Sort

/-- A mesh in a block of the call's own, its rows anywhere. -/
structure MeshB (W : World) (B : Nat) (AP AT AS : Option Addr) (cp ct cs : Nat) (ps : List (Int × Int)) (ts : List (Int × Int × Int)) (ss : List (Int × Int)) : Prop where
  m0 : W.cell? ⟨B, 0, none⟩ = some (.slice AP ps.length cp)
  m1 : W.cell? ⟨B, 1, none⟩ = some (.slice AT ts.length ct)
  m2 : W.cell? ⟨B, 2, none⟩ = some (.slice AS ss.length cs)
  g2 : W.frozen? ⟨B, 2, none⟩ = false
  mesh : Mesh W AP AT AS ps ts ss
theorem Mesh.ext {W W' : World} {AP AT AS : Option Addr} {ps : List (Int × Int)} {ts : List (Int × Int × Int)} {ss : List (Int × Int)} (h : Mesh W AP AT AS ps ts ss) (hx : Ext W W') : Mesh W' AP AT AS ps ts ss :=
  ⟨h.1.ext hx, h.2.1.ext hx, h.2.2.1.ext hx, h.2.2.2⟩
theorem MeshB.ext {W W' : World} {B : Nat} {AP AT AS : Option Addr} {cp ct cs : Nat} {ps : List (Int × Int)} {ts : List (Int × Int × Int)} {ss : List (Int × Int)} (h : MeshB W B AP AT AS cp ct cs ps ts ss) (hx : Ext W W') : MeshB W' B AP AT AS cp ct cs ps ts ss :=
  ⟨hx.cell h.m0, hx.cell h.m1, hx.cell h.m2, hx.frozen h.m2 h.g2, h.mesh.ext hx⟩
theorem rd2_4n (w : World) (t : TypeId) (a b c d : Int × Int) : Rd2 (w.alloc (.cells #[.int .i64 a.1, .int .i64 a.2, .int .i64 b.1, .int .i64 b.2, .int .i64 c.1, .int .i64 c.2, .int .i64 d.1, .int .i64 d.2] t)) (some ⟨w.heap.size, 0, none⟩) [a, b, c, d] := by
  refine Or.inr ⟨_, _, rfl, ?_⟩
  intro j x hj
  match j, hj with
  | 0, hj => simp at hj; subst hj; simp [go_sem]
  | 1, hj => simp at hj; subst hj; simp [go_sem]
  | 2, hj => simp at hj; subst hj; simp [go_sem]
  | 3, hj => simp at hj; subst hj; simp [go_sem]
  | n + 4, hj => simp at hj
theorem rd2_5n (w : World) (t : TypeId) (a b c d e : Int × Int) : Rd2 (w.alloc (.cells #[.int .i64 a.1, .int .i64 a.2, .int .i64 b.1, .int .i64 b.2, .int .i64 c.1, .int .i64 c.2, .int .i64 d.1, .int .i64 d.2, .int .i64 e.1, .int .i64 e.2] t)) (some ⟨w.heap.size, 0, none⟩) [a, b, c, d, e] := by
  refine Or.inr ⟨_, _, rfl, ?_⟩
  intro j x hj
  match j, hj with
  | 0, hj => simp at hj; subst hj; simp [go_sem]
  | 1, hj => simp at hj; subst hj; simp [go_sem]
  | 2, hj => simp at hj; subst hj; simp [go_sem]
  | 3, hj => simp at hj; subst hj; simp [go_sem]
  | 4, hj => simp at hj; subst hj; simp [go_sem]
  | n + 5, hj => simp at hj
theorem rd3_2n (w : World) (t : TypeId) (a b : Int × Int × Int) : Rd3 (w.alloc (.cells #[.int .i64 a.1, .int .i64 a.2.1, .int .i64 a.2.2, .int .i64 b.1, .int .i64 b.2.1, .int .i64 b.2.2] t)) (some ⟨w.heap.size, 0, none⟩) [a, b] := by
  refine Or.inr ⟨_, _, rfl, ?_⟩
  intro j x hj
  match j, hj with
  | 0, hj => simp at hj; subst hj; simp [go_sem]
  | 1, hj => simp at hj; subst hj; simp [go_sem]
  | n + 2, hj => simp at hj

theorem Rd2.box {W : World} {A : Option Addr} {l : List (Int × Int)} (h : Rd2 W A l) {p : Addr} {v : Value} (hp : W.cell? p = some v) (hv : ∀ x, v ≠ .int .i64 x) (u : Value) : Rd2 (W.setCell p u) A l := by
  rcases h with rfl | ⟨b, o, rfl, hc⟩
  · exact Or.inl rfl
  · refine Or.inr ⟨b, o, rfl, fun j x hj => ?_⟩
    have h1 := hc j x hj
    have n1 : p ≠ ⟨b, o + j * 2, none⟩ := fun e => by rw [e, h1.1] at hp; exact hv x.1 (Option.some.inj hp).symm
    have n2 : p ≠ ⟨b, o + j * 2 + 1, none⟩ := fun e => by rw [e, h1.2] at hp; exact hv x.2 (Option.some.inj hp).symm
    rw [World.cell?_setCell_other _ _ _ _ n1, World.cell?_setCell_other _ _ _ _ n2]
    exact h1
theorem Rd3.box {W : World} {A : Option Addr} {l : List (Int × Int × Int)} (h : Rd3 W A l) {p : Addr} {v : Value} (hp : W.cell? p = some v) (hv : ∀ x, v ≠ .int .i64 x) (u : Value) : Rd3 (W.setCell p u) A l := by
  rcases h with rfl | ⟨b, o, rfl, hc⟩
  · exact Or.inl rfl
  · refine Or.inr ⟨b, o, rfl, fun j x hj => ?_⟩
    have h1 := hc j x hj
    have n1 : p ≠ ⟨b, o + j * 3, none⟩ := fun e => by rw [e, h1.1] at hp; exact hv x.1 (Option.some.inj hp).symm
    have n2 : p ≠ ⟨b, o + j * 3 + 1, none⟩ := fun e => by rw [e, h1.2.1] at hp; exact hv x.2.1 (Option.some.inj hp).symm
    have n3 : p ≠ ⟨b, o + j * 3 + 2, none⟩ := fun e => by rw [e, h1.2.2] at hp; exact hv x.2.2 (Option.some.inj hp).symm
    rw [World.cell?_setCell_other _ _ _ _ n1, World.cell?_setCell_other _ _ _ _ n2, World.cell?_setCell_other _ _ _ _ n3]
    exact h1

set_option maxHeartbeats 4000000 in
set_option maxRecDepth 100000 in
theorem dualCut_any (ax ay bx by_ cx cy dx dy : Int) (w : World) :
    Calls Try.prog 7 #[.agg #[.int .i64 ax, .int .i64 ay], .agg #[.int .i64 bx, .int .i64 by_], .agg #[.int .i64 cx, .int .i64 cy], .agg #[.int .i64 dx, .int .i64 dy]] w fun e w' => e = .returned (.bool true) ∧ Ext w w' := by
  have HO1 := Lib.hid (fun W => Orient3_any ax ay bx by_ cx cy W)
  have HO2 := Lib.hid (fun W => Orient3_any ax ay cx cy dx dy W)
  have HQ := Lib.hid (fun (h1 : orientP (ax, ay) (bx, by_) (cx, cy) = 1) (h2 : orientP (ax, ay) (cx, cy) (dx, dy) = 1) W AP AT AS cp ct cs (h : Mesh W AP AT AS [(ax, ay), (bx, by_), (cx, cy), (dx, dy)] cutT cutS) => (cut_quad h1 h2) ▸ Quad_any AP AT AS cp ct cs [(ax, ay), (bx, by_), (cx, cy), (dx, dy)] cutT cutS 0 1 W h)
  have HQ2 := Lib.hid (fun (h1 : orientP (ax, ay) (bx, by_) (cx, cy) = 1) (h2 : orientP (ax, ay) (cx, cy) (dx, dy) = 1) W AP AT AS cp ct cs (h : Mesh W AP AT AS [(ax, ay), (bx, by_), (cx, cy), (dx, dy)] cutT cutS2) => (cut_quad2 h1 h2) ▸ Quad_any AP AT AS cp ct cs [(ax, ay), (bx, by_), (cx, cy), (dx, dy)] cutT cutS2 0 1 W h)
  have HQ3 := Lib.hid (fun (h1 : convexB [(ax, ay), (bx, by_), (cx, cy), (dx, dy)] = true) W AP AT AS cp ct cs (h : Mesh W AP AT AS [(ax, ay), (bx, by_), (cx, cy), (dx, dy)] cutU cutS) => (cut_quad3 h1) ▸ Quad_any AP AT AS cp ct cs [(ax, ay), (bx, by_), (cx, cy), (dx, dy)] cutU cutS 0 1 W h)
  have HCv := Lib.hid (fun A c W h => Convex3_any A c [(ax, ay), (bx, by_), (cx, cy), (dx, dy)] W (by simp) h)
  have HKn := Lib.hid (fun W => known17_any W)
  generalize orientP (ax, ay) (bx, by_) (cx, cy) = o1 at *
  generalize orientP (ax, ay) (cx, cy) (dx, dy) = o2 at *
  generalize convexB [(ax, ay), (bx, by_), (cx, cy), (dx, dy)] = cv at *
  go_enter Try.func7, Try.ntmps7
  go_upto_region 3 with fail
  refine wp_world (fun W1 => Ext w W1 ∧ (W1.cell? ⟨w.heap.size, 0, none⟩ = some (.int .i64 ax) ∧ W1.cell? ⟨w.heap.size, 1, none⟩ = some (.int .i64 ay)) ∧ (W1.cell? ⟨w.heap.size + 1, 0, none⟩ = some (.int .i64 bx) ∧ W1.cell? ⟨w.heap.size + 1, 1, none⟩ = some (.int .i64 by_)) ∧ (W1.cell? ⟨w.heap.size + 1 + 1, 0, none⟩ = some (.int .i64 cx) ∧ W1.cell? ⟨w.heap.size + 1 + 1, 1, none⟩ = some (.int .i64 cy)) ∧ (W1.cell? ⟨w.heap.size + 1 + 1 + 1, 0, none⟩ = some (.int .i64 dx) ∧ W1.cell? ⟨w.heap.size + 1 + 1 + 1, 1, none⟩ = some (.int .i64 dy)) ∧
      Hid (Rd2 W1 (some ⟨w.heap.size + 1 + 1 + 1 + 1, 0, none⟩) [(ax, ay), (bx, by_), (cx, cy), (dx, dy)] ∧ Rd2 W1 (some ⟨w.heap.size + 1 + 1 + 1 + 1 + 1, 0, none⟩) cutS))
    ⟨((((((Ext.refl w).alloc _).alloc _).alloc _).alloc _).alloc _).alloc _, ⟨by simp [go_sem], by simp [go_sem]⟩, ⟨by simp [go_sem], by simp [go_sem]⟩, ⟨by simp [go_sem], by simp [go_sem]⟩, ⟨by simp [go_sem], by simp [go_sem]⟩, Lib.hid ⟨?_, ?_⟩⟩ ?_
  · have := (rd2_4n ((((w.alloc (.cells #[.int .i64 ax, .int .i64 ay] 33)).alloc (.cells #[.int .i64 bx, .int .i64 by_] 33)).alloc (.cells #[.int .i64 cx, .int .i64 cy] 33)).alloc (.cells #[.int .i64 dx, .int .i64 dy] 33)) 33 (ax, ay) (bx, by_) (cx, cy) (dx, dy))
    simp only [World.size_alloc] at this
    exact this.ext ((Ext.refl _).alloc _)
  · have := (rd2_4n (((((w.alloc (.cells #[.int .i64 ax, .int .i64 ay] 33)).alloc (.cells #[.int .i64 bx, .int .i64 by_] 33)).alloc (.cells #[.int .i64 cx, .int .i64 cy] 33)).alloc (.cells #[.int .i64 dx, .int .i64 dy] 33)).alloc (.cells #[.int .i64 ax, .int .i64 ay, .int .i64 bx, .int .i64 by_, .int .i64 cx, .int .i64 cy, .int .i64 dx, .int .i64 dy] 33)) 39 (0, 1) (0, 3) (1, 2) (2, 3))
    simp only [World.size_alloc] at this
    exact this
  rintro W ⟨hW, ⟨a0, a1⟩, ⟨b0, b1⟩, ⟨c0, c1⟩, ⟨d0, d1⟩, HRd⟩
  generalize w.heap.size + 1 + 1 + 1 + 1 + 1 = BS at *
  generalize w.heap.size + 1 + 1 + 1 + 1 = BP at *
  go_wp2_with fail
  refine (HO1.out _).mono ?_
  rintro e W1 ⟨rfl, hx⟩
  replace hW := hW.trans hx
  replace a0 := hx.cell a0
  replace a1 := hx.cell a1
  replace c0 := hx.cell c0
  replace c1 := hx.cell c1
  replace d0 := hx.cell d0
  replace d1 := hx.cell d1
  have HRd1 := Lib.hid (show Rd2 W1 (some ⟨BP, 0, none⟩) [(ax, ay), (bx, by_), (cx, cy), (dx, dy)] ∧ Rd2 W1 (some ⟨BS, 0, none⟩) cutS from ⟨HRd.out.1.ext hx, HRd.out.2.ext hx⟩)
  clear HO1 HRd b0 b1 hx
  by_cases ho1 : o1 = 1
  · subst ho1
    go_wp2_with fail
    refine (HO2.out _).mono ?_
    rintro e W2 ⟨rfl, hx⟩
    replace hW := hW.trans hx
    have HRd2 := Lib.hid (show Rd2 W2 (some ⟨BP, 0, none⟩) [(ax, ay), (bx, by_), (cx, cy), (dx, dy)] ∧ Rd2 W2 (some ⟨BS, 0, none⟩) cutS from ⟨HRd1.out.1.ext hx, HRd1.out.2.ext hx⟩)
    clear a0 a1 c0 c1 d0 d1 HO2 hx HRd1
    by_cases ho2 : o2 = 1
    · subst ho2
      go_upto_region 7 with fail
      refine wp_world (fun W3 => (Ext w W3 ∧ w.heap.size ≤ W2.heap.size + 1 ∧ W2.heap.size + 1 < W3.heap.size) ∧ Hid (Rd2 W3 (some ⟨BP, 0, none⟩) [(ax, ay), (bx, by_), (cx, cy), (dx, dy)] ∧ Rd2 W3 (some ⟨BS, 0, none⟩) cutS) ∧ MeshB W3 (W2.heap.size + 1) (some ⟨BP, 0, none⟩) (some ⟨W2.heap.size, 0, none⟩) (some ⟨BS, 0, none⟩) 4 2 4 [(ax, ay), (bx, by_), (cx, cy), (dx, dy)] cutT cutS)
        ⟨⟨(hW.alloc _).alloc _, by have := hW.size; omega, by simp⟩, Lib.hid ⟨HRd2.out.1.ext (((Ext.refl _).alloc _).alloc _), HRd2.out.2.ext (((Ext.refl _).alloc _).alloc _)⟩, ⟨by simp [go_sem], by simp [go_sem, cutT], by simp [go_sem, cutS], by simp [go_sem], HRd2.out.1.ext (((Ext.refl _).alloc _).alloc _), (rd3_2n W2 36 (0, 1, 2) (0, 2, 3)).ext ((Ext.refl _).alloc _), HRd2.out.2.ext (((Ext.refl _).alloc _).alloc _), by simp, by simp [cutT], by simp [cutS]⟩⟩ ?_
      clear HRd2 hW
      generalize W2.heap.size + 1 = B
      generalize W2.heap.size = BT
      rintro W3 ⟨⟨hW, hB0, hB1⟩, HRd3, hMB⟩
      have m0 := hMB.m0
      have m1 := hMB.m1
      have m2 := hMB.m2
      simp only [List.length_cons, List.length_nil, cutT, cutS] at m0 m1 m2
      have HMB := Lib.hid hMB
      clear hMB
      go_wp2_with fail
      refine (HQ.out trivial trivial _ _ _ _ 4 2 4 HMB.out.mesh).mono ?_
      rintro e W4 ⟨hq, hx⟩
      replace HMB := Lib.hid (HMB.out.ext hx)
      replace hW := hW.trans hx
      have HRd4 := Lib.hid (show Rd2 W4 (some ⟨BP, 0, none⟩) [(ax, ay), (bx, by_), (cx, cy), (dx, dy)] ∧ Rd2 W4 (some ⟨BS, 0, none⟩) cutS from ⟨HRd3.out.1.ext hx, HRd3.out.2.ext hx⟩)
      clear hx m0 m1 m2 HRd3 HQ
      cases cv with
      | false =>
        obtain rfl : e = .returned (.tuple #[.slice none 0 0, .bool false]) := hq
        go_wp2_with fail
        refine (HCv.out _ 4 _ HRd4.out.1).mono ?_
        rintro e W6 ⟨rfl, hx⟩
        replace HMB := Lib.hid (HMB.out.ext hx)
        replace hW := hW.trans hx
        replace HRd4 := Lib.hid (show Rd2 W6 (some ⟨BP, 0, none⟩) [(ax, ay), (bx, by_), (cx, cy), (dx, dy)] ∧ Rd2 W6 (some ⟨BS, 0, none⟩) cutS from ⟨HRd4.out.1.ext hx, HRd4.out.2.ext hx⟩)
        clear hx
        have m2 := HMB.out.m2
        have g2 := HMB.out.g2

        have hMB := HMB.out
        have k2 := fun o => ((Ext.refl W6).alloc o).cell hMB.m2
        have k3 := fun o => ((Ext.refl W6).alloc o).frozen hMB.m2 hMB.g2
        clear hMB
        go_upto_region 12 with fail
        have hMB := HMB.out
        have k0 := fun o => ((Ext.refl W6).alloc o).cell hMB.m0
        have k1 := fun o => ((Ext.refl W6).alloc o).cell hMB.m1
        refine wp_world (fun W7 => Ext w W7 ∧ Hid (Rd2 W7 (some ⟨BP, 0, none⟩) [(ax, ay), (bx, by_), (cx, cy), (dx, dy)] ∧ Rd2 W7 (some ⟨BS, 0, none⟩) cutS) ∧ MeshB W7 B (some ⟨BP, 0, none⟩) (some ⟨BT, 0, none⟩) (some ⟨W6.heap.size, 0, none⟩) 4 2 5 [(ax, ay), (bx, by_), (cx, cy), (dx, dy)] cutT cutS2)
          ⟨(hW.alloc (.cells #[.int .i64 0, .int .i64 1, .int .i64 0, .int .i64 2, .int .i64 0, .int .i64 3, .int .i64 1, .int .i64 2, .int .i64 2, .int .i64 3] 39)).setCell (p := ⟨B, 2, none⟩) (by simp; omega) (.slice (some ⟨W6.heap.size, 0, none⟩) 5 5), Lib.hid ⟨(HRd4.out.1.ext ((Ext.refl _).alloc _)).box (k2 _) (fun x e => by cases e) _, (HRd4.out.2.ext ((Ext.refl _).alloc _)).box (k2 _) (fun x e => by cases e) _⟩,
            ⟨by simp [go_sem, k0], by simp [go_sem, k1], by simp [go_sem, k2, cutS2], by simpa [go_sem] using k3 _,
              (hMB.mesh.1.ext ((Ext.refl _).alloc _)).box (k2 _) (fun x e => by cases e) _, (hMB.mesh.2.1.ext ((Ext.refl _).alloc _)).box (k2 _) (fun x e => by cases e) _, (rd2_5n W6 39 (0, 1) (0, 2) (0, 3) (1, 2) (2, 3)).box (k2 _) (fun x e => by cases e) _, by simp, by simp [cutT], by simp [cutS2]⟩⟩ ?_
        clear HMB hMB HRd4 hW m2 g2 k0 k1 k2 k3
        rintro W7 ⟨hW, HRd7, hMB⟩
        have m0 := hMB.m0
        have m1 := hMB.m1
        have m2 := hMB.m2
        simp only [List.length_cons, List.length_nil, cutT, cutS2] at m0 m1 m2
        have HM := Lib.hid hMB.mesh
        clear hMB
        go_wp2_with fail
        refine (HQ2.out trivial trivial _ _ _ _ 4 2 5 HM.out).mono ?_
        rintro e W8 ⟨hq, hx⟩
        obtain rfl : e = .returned (.tuple #[.slice none 0 0, .bool false]) := hq
        replace hW := hW.trans hx
        have HRd8 := Lib.hid (show Rd2 W8 (some ⟨BP, 0, none⟩) [(ax, ay), (bx, by_), (cx, cy), (dx, dy)] ∧ Rd2 W8 (some ⟨BS, 0, none⟩) cutS from ⟨HRd7.out.1.ext hx, HRd7.out.2.ext hx⟩)
        clear hx HM HRd7 m0 m1 m2

        go_wp2_with fail
        refine (HKn.out _).mono ?_
        rintro e W9 ⟨rfl, hx⟩
        go_wp2_with fail
        go_ret
        exact ⟨rfl, hW.trans hx⟩
      | true =>
        obtain ⟨A1, c1, rfl, hr1⟩ := (show QuadRes W3 W4 e (some [0, 1, 2, 3]) from hq).read rfl
        clear hq
        go_wp2_with fail
        refine (HCv.out _ 4 _ HRd4.out.1).mono ?_
        rintro e W5 ⟨rfl, hx⟩
        replace HMB := Lib.hid (HMB.out.ext hx)
        replace hW := hW.trans hx
        replace HRd4 := Lib.hid (show Rd2 W5 (some ⟨BP, 0, none⟩) [(ax, ay), (bx, by_), (cx, cy), (dx, dy)] ∧ Rd2 W5 (some ⟨BS, 0, none⟩) cutS from ⟨HRd4.out.1.ext hx, HRd4.out.2.ext hx⟩)
        have HR1 := Lib.hid (hr1.ext hx)
        clear hx hr1
        have HSI := Lib.hid (fun A B c d W (h1 : Rd1 W A [0, 1, 2, 3]) (h2 : Rd1 W B [0, 1, 2, 3]) => sameInts_any A B c d [0, 1, 2, 3] [0, 1, 2, 3] W (by decide) h1 h2)
        rw [show decide ([(0 : Int), 1, 2, 3] = [0, 1, 2, 3]) = true by decide] at HSI
        go_wp2_with fail
        refine (HSI.out _ _ _ _ _ (HR1.out.ext ((Ext.refl W5).alloc _)) (rd1_four W5 _ 0 1 2 3)).mono ?_
        rintro e W6 ⟨rfl, hx⟩
        replace hx := ((Ext.refl W5).alloc _).trans hx
        replace HMB := Lib.hid (HMB.out.ext hx)
        replace hW := hW.trans hx
        replace HRd4 := Lib.hid (show Rd2 W6 (some ⟨BP, 0, none⟩) [(ax, ay), (bx, by_), (cx, cy), (dx, dy)] ∧ Rd2 W6 (some ⟨BS, 0, none⟩) cutS from ⟨HRd4.out.1.ext hx, HRd4.out.2.ext hx⟩)
        clear hx HR1
        have m2 := HMB.out.m2
        have g2 := HMB.out.g2

        have hMB := HMB.out
        have k2 := fun o => ((Ext.refl W6).alloc o).cell hMB.m2
        have k3 := fun o => ((Ext.refl W6).alloc o).frozen hMB.m2 hMB.g2
        clear hMB
        go_upto_region 12 with fail
        have hMB := HMB.out
        have k0 := fun o => ((Ext.refl W6).alloc o).cell hMB.m0
        have k1 := fun o => ((Ext.refl W6).alloc o).cell hMB.m1
        refine wp_world (fun W7 => Ext w W7 ∧ Hid (Rd2 W7 (some ⟨BP, 0, none⟩) [(ax, ay), (bx, by_), (cx, cy), (dx, dy)] ∧ Rd2 W7 (some ⟨BS, 0, none⟩) cutS) ∧ MeshB W7 B (some ⟨BP, 0, none⟩) (some ⟨BT, 0, none⟩) (some ⟨W6.heap.size, 0, none⟩) 4 2 5 [(ax, ay), (bx, by_), (cx, cy), (dx, dy)] cutT cutS2)
          ⟨(hW.alloc (.cells #[.int .i64 0, .int .i64 1, .int .i64 0, .int .i64 2, .int .i64 0, .int .i64 3, .int .i64 1, .int .i64 2, .int .i64 2, .int .i64 3] 39)).setCell (p := ⟨B, 2, none⟩) (by simp; omega) (.slice (some ⟨W6.heap.size, 0, none⟩) 5 5), Lib.hid ⟨(HRd4.out.1.ext ((Ext.refl _).alloc _)).box (k2 _) (fun x e => by cases e) _, (HRd4.out.2.ext ((Ext.refl _).alloc _)).box (k2 _) (fun x e => by cases e) _⟩,
            ⟨by simp [go_sem, k0], by simp [go_sem, k1], by simp [go_sem, k2, cutS2], by simpa [go_sem] using k3 _,
              (hMB.mesh.1.ext ((Ext.refl _).alloc _)).box (k2 _) (fun x e => by cases e) _, (hMB.mesh.2.1.ext ((Ext.refl _).alloc _)).box (k2 _) (fun x e => by cases e) _, (rd2_5n W6 39 (0, 1) (0, 2) (0, 3) (1, 2) (2, 3)).box (k2 _) (fun x e => by cases e) _, by simp, by simp [cutT], by simp [cutS2]⟩⟩ ?_
        clear HMB hMB HRd4 hW m2 g2 k0 k1 k2 k3
        rintro W7 ⟨hW, HRd7, hMB⟩
        have m0 := hMB.m0
        have m1 := hMB.m1
        have m2 := hMB.m2
        simp only [List.length_cons, List.length_nil, cutT, cutS2] at m0 m1 m2
        have HM := Lib.hid hMB.mesh
        clear hMB
        go_wp2_with fail
        refine (HQ2.out trivial trivial _ _ _ _ 4 2 5 HM.out).mono ?_
        rintro e W8 ⟨hq, hx⟩
        obtain rfl : e = .returned (.tuple #[.slice none 0 0, .bool false]) := hq
        replace hW := hW.trans hx
        have HRd8 := Lib.hid (show Rd2 W8 (some ⟨BP, 0, none⟩) [(ax, ay), (bx, by_), (cx, cy), (dx, dy)] ∧ Rd2 W8 (some ⟨BS, 0, none⟩) cutS from ⟨HRd7.out.1.ext hx, HRd7.out.2.ext hx⟩)
        clear hx HM HRd7 m0 m1 m2

        go_upto_region 18 with fail
        refine wp_world (fun W3 => (Ext w W3) ∧ MeshB W3 (W8.heap.size + 1) (some ⟨BP, 0, none⟩) (some ⟨W8.heap.size, 0, none⟩) (some ⟨BS, 0, none⟩) 4 2 4 [(ax, ay), (bx, by_), (cx, cy), (dx, dy)] cutU cutS)
          ⟨(hW.alloc _).alloc _, ⟨by simp [go_sem], by simp [go_sem, cutU], by simp [go_sem, cutS], by simp [go_sem], HRd8.out.1.ext (((Ext.refl _).alloc _).alloc _), (rd3_2n W8 36 (0, 1, 3) (1, 2, 3)).ext ((Ext.refl _).alloc _), HRd8.out.2.ext (((Ext.refl _).alloc _).alloc _), by simp, by simp [cutU], by simp [cutS]⟩⟩ ?_
        clear HRd8 hW
        rintro W9 ⟨hW, hMB⟩
        have m0 := hMB.m0
        have m1 := hMB.m1
        have m2 := hMB.m2
        simp only [List.length_cons, List.length_nil, cutU, cutS] at m0 m1 m2
        have HM := Lib.hid hMB.mesh
        clear hMB
        go_wp2_with fail
        refine (HQ3.out (by first | trivial | rfl) _ _ _ _ 4 2 4 HM.out).mono ?_
        rintro e W10 ⟨hq, hx⟩
        obtain ⟨A2, c2, rfl, hr2⟩ := hq.read rfl
        replace hW := hW.trans hx
        have HR2 := Lib.hid hr2
        clear hq hx hr2 m0 m1 m2 HM
        go_wp2_with fail
        refine (HSI.out _ _ _ _ _ (HR2.out.ext ((Ext.refl W10).alloc _)) (rd1_four W10 _ 0 1 2 3)).mono ?_
        rintro e W11 ⟨rfl, hx⟩
        replace hW := hW.trans (((Ext.refl W10).alloc _).trans hx)
        clear hx HR2
        go_wp2_with fail
        refine (HKn.out _).mono ?_
        rintro e W12 ⟨rfl, hx⟩
        go_wp2_with fail
        go_ret
        exact ⟨rfl, hW.trans hx⟩
    · have f2 : (o2 == 1) = false := by simpa using ho2
      clear ho2
      go_wp2_with fail
      refine (HKn.out _).mono ?_
      rintro e W3 ⟨rfl, hx⟩
      go_wp2_with fail
      go_ret
      exact ⟨rfl, hW.trans hx⟩
  · have f1 : (o1 == 1) = false := by simpa using ho1
    clear ho1
    go_wp2_with fail
    refine (HKn.out _).mono ?_
    rintro e W3 ⟨rfl, hx⟩
    go_wp2_with fail
    go_ret
    exact ⟨rfl, hW.trans hx⟩
end Go.Proofs.Ytagofpmcbbkmgaa
