/- A mesh in a block of the call's own; rows made at once; stores that move no number. -/
import Derived.Test.YtagofpmcbbkmgaaR14
namespace Go.Proofs.Ytagofpmcbbkmgaa
open Go.RowKit Go.Sort

/-- A mesh in a block of the call's own, its rows anywhere. -/
structure MeshB (W : World) (B : Nat) (AP AT AS : Option Addr) (cp ct cs : Nat) (ps : List (Int × Int)) (ts : List (Int × Int × Int)) (ss : List (Int × Int)) : Prop where
  m0 : W.cell? ⟨B, 0, none⟩ = some (.slice AP ps.length cp)
  m1 : W.cell? ⟨B, 1, none⟩ = some (.slice AT ts.length ct)
  m2 : W.cell? ⟨B, 2, none⟩ = some (.slice AS ss.length cs)
  g2 : W.frozen? ⟨B, 2, none⟩ = false
  mesh : Mesh W AP AT AS ps ts ss
theorem Mesh.ext {W W' : World} {AP AT AS : Option Addr} {ps : List (Int × Int)} {ts : List (Int × Int × Int)} {ss : List (Int × Int)} (h : Mesh W AP AT AS ps ts ss) (hx : Ext W W') : Mesh W' AP AT AS ps ts ss :=
  ⟨h.1.ext hx, h.2.1.ext hx, h.2.2.1.ext hx, h.2.2.2⟩
theorem MeshB.ext {W W' : World} {B : Nat} {AP AT AS : Option Addr} {cp ct cs : Nat} {ps : List (Int × Int)} {ts : List (Int × Int × Int)} {ss : List (Int × Int)} (h : MeshB W B AP AT AS cp ct cs ps ts ss) (hx : Ext W W') : MeshB W' B AP AT AS cp ct cs ps ts ss :=
  ⟨hx.cell h.m0, hx.cell h.m1, hx.cell h.m2, hx.frozen h.m2 h.g2, h.mesh.ext hx⟩
theorem rd2_4n (w : World) (t : TypeId) (a b c d : Int × Int) : Rd2 (w.alloc (.cells #[.int .i64 a.1, .int .i64 a.2, .int .i64 b.1, .int .i64 b.2, .int .i64 c.1, .int .i64 c.2, .int .i64 d.1, .int .i64 d.2] t)) (some ⟨w.heap.size, 0, none⟩) [a, b, c, d] := by
  refine Or.inr ⟨_, _, rfl, ?_⟩
  intro j x hj
  match j, hj with
  | 0, hj => simp at hj; subst hj; simp [go_sem]
  | 1, hj => simp at hj; subst hj; simp [go_sem]
  | 2, hj => simp at hj; subst hj; simp [go_sem]
  | 3, hj => simp at hj; subst hj; simp [go_sem]
  | n + 4, hj => simp at hj
theorem rd2_5n (w : World) (t : TypeId) (a b c d e : Int × Int) : Rd2 (w.alloc (.cells #[.int .i64 a.1, .int .i64 a.2, .int .i64 b.1, .int .i64 b.2, .int .i64 c.1, .int .i64 c.2, .int .i64 d.1, .int .i64 d.2, .int .i64 e.1, .int .i64 e.2] t)) (some ⟨w.heap.size, 0, none⟩) [a, b, c, d, e] := by
  refine Or.inr ⟨_, _, rfl, ?_⟩
  intro j x hj
  match j, hj with
  | 0, hj => simp at hj; subst hj; simp [go_sem]
  | 1, hj => simp at hj; subst hj; simp [go_sem]
  | 2, hj => simp at hj; subst hj; simp [go_sem]
  | 3, hj => simp at hj; subst hj; simp [go_sem]
  | 4, hj => simp at hj; subst hj; simp [go_sem]
  | n + 5, hj => simp at hj
theorem rd3_2n (w : World) (t : TypeId) (a b : Int × Int × Int) : Rd3 (w.alloc (.cells #[.int .i64 a.1, .int .i64 a.2.1, .int .i64 a.2.2, .int .i64 b.1, .int .i64 b.2.1, .int .i64 b.2.2] t)) (some ⟨w.heap.size, 0, none⟩) [a, b] := by
  refine Or.inr ⟨_, _, rfl, ?_⟩
  intro j x hj
  match j, hj with
  | 0, hj => simp at hj; subst hj; simp [go_sem]
  | 1, hj => simp at hj; subst hj; simp [go_sem]
  | n + 2, hj => simp at hj

theorem Rd2.box {W : World} {A : Option Addr} {l : List (Int × Int)} (h : Rd2 W A l) {p : Addr} {v : Value} (hp : W.cell? p = some v) (hv : ∀ x, v ≠ .int .i64 x) (u : Value) : Rd2 (W.setCell p u) A l := by
  rcases h with rfl | ⟨b, o, rfl, hc⟩
  · exact Or.inl rfl
  · refine Or.inr ⟨b, o, rfl, fun j x hj => ?_⟩
    have h1 := hc j x hj
    have n1 : p ≠ ⟨b, o + j * 2, none⟩ := fun e => by rw [e, h1.1] at hp; exact hv x.1 (Option.some.inj hp).symm
    have n2 : p ≠ ⟨b, o + j * 2 + 1, none⟩ := fun e => by rw [e, h1.2] at hp; exact hv x.2 (Option.some.inj hp).symm
    rw [World.cell?_setCell_other _ _ _ _ n1, World.cell?_setCell_other _ _ _ _ n2]
    exact h1
theorem Rd3.box {W : World} {A : Option Addr} {l : List (Int × Int × Int)} (h : Rd3 W A l) {p : Addr} {v : Value} (hp : W.cell? p = some v) (hv : ∀ x, v ≠ .int .i64 x) (u : Value) : Rd3 (W.setCell p u) A l := by
  rcases h with rfl | ⟨b, o, rfl, hc⟩
  · exact Or.inl rfl
  · refine Or.inr ⟨b, o, rfl, fun j x hj => ?_⟩
    have h1 := hc j x hj
    have n1 : p ≠ ⟨b, o + j * 3, none⟩ := fun e => by rw [e, h1.1] at hp; exact hv x.1 (Option.some.inj hp).symm
    have n2 : p ≠ ⟨b, o + j * 3 + 1, none⟩ := fun e => by rw [e, h1.2.1] at hp; exact hv x.2.1 (Option.some.inj hp).symm
    have n3 : p ≠ ⟨b, o + j * 3 + 2, none⟩ := fun e => by rw [e, h1.2.2] at hp; exact hv x.2.2 (Option.some.inj hp).symm
    rw [World.cell?_setCell_other _ _ _ _ n1, World.cell?_setCell_other _ _ _ _ n2, World.cell?_setCell_other _ _ _ _ n3]
    exact h1

end Go.Proofs.Ytagofpmcbbkmgaa
