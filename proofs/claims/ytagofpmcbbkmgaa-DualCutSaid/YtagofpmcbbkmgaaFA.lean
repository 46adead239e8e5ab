/- A place (a struct of two numbers) as an argument. -/
import Derived.Test.YtagofpmcbbkmgaaFP
import Derived.Lib.SmallJoins
namespace Go.Proofs.Ytagofpmcbbkmgaa
open Go.ChangeShapes Go.WideShapes Go.ChangeAt Go.RowKit Go.Joins

theorem cellsPoint : Try.prog.cellsOf 33 = 2 := by kernel_rfl
section
variable {H : Type} {enc : TypeId × Value → H}
set_option maxRecDepth 100000 in
theorem open_point {r : Reach} {b0 base : Nat} {w : World} {spare : Nat → Bool} {held : Bool} {v : Value} {d : DataW H} {p : List MemPlace} (hv : Value.okWide Try.prog w r b0 33 v) (h : DataW.Trod enc Try.prog w base spare held 33 v d p) :
    ∃ x y : Int, v = .agg #[.int .i64 x, .int .i64 y] ∧ d = .agg [.lit (.int .i64 x), .lit (.int .i64 y)] ∧ p = [] ∧ (Lit.int .i64 x).wf = true ∧ (Lit.int .i64 y).wf = true := by
  obtain ⟨c0, c1, y0, y1, m, rfl, rfl, rfl, hy0, hy1⟩ := open_agg2 Try.underlying33 (by kernel_rfl) cellsPoint hv h
  obtain ⟨a, e0, rfl, wa⟩ := DataW.trod_int Try.underlying3 hy0
  obtain ⟨b, e1, rfl, wb⟩ := DataW.trod_int Try.underlying3 hy1
  simp at e0 e1
  subst e0 e1
  exact ⟨a, b, rfl, rfl, rfl, wa, wb⟩
set_option maxRecDepth 100000 in
theorem shut_point {base : Nat} {w : World} {spare : Nat → Bool} {held : Bool} {x y : Int} (wx : (Lit.int .i64 x).wf = true) (wy : (Lit.int .i64 y).wf = true) :
    DataW.Trod enc Try.prog w base spare held 33 (.agg #[.int .i64 x, .int .i64 y]) (.agg [.lit (.int .i64 x), .lit (.int .i64 y)]) [] :=
  shut_agg2 (y0 := (.lit (.int .i64 x), [])) (y1 := (.lit (.int .i64 y), [])) Try.underlying33 (by kernel_rfl) cellsPoint ⟨1, by simp [DataW.trod, Try.underlying3, wx]⟩ ⟨1, by simp [DataW.trod, Try.underlying3, wy]⟩
end
end Go.Proofs.Ytagofpmcbbkmgaa
