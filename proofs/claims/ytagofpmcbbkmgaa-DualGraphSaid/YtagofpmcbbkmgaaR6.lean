/- parquetref01: Small of any int. -/
import Derived.Test.YtagofpmcbbkmgaaR5
namespace Go.Proofs.Ytagofpmcbbkmgaa
open Go.RowKit Go.Sort

theorem Small_any (n : Int) (w : World) (h0 : -9223372036854775808 ≤ n) (h1 : n ≤ 9223372036854775807) :
    Calls Try.prog 25 #[.int .i64 n] w fun e w' => (∃ v', e = .returned v' ∧ NumR w' v' n 4) ∧ Ext w w' := by
  by_cases h : 0 ≤ n
  · exact SmallP_any n w h h1
  · have := SmallN_any (-n) w (by omega) (by omega)
    rw [Int.neg_neg] at this
    exact this
end Go.Proofs.Ytagofpmcbbkmgaa
