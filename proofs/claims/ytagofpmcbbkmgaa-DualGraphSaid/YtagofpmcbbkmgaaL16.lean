/- slices.Compact of segments of which no two neighbours are alike. -/
import Derived.Test.YtagofpmcbbkmgaaL15
namespace Go.Proofs.Ytagofpmcbbkmgaa
open Go.RowKit

set_option maxHeartbeats 1000000 in
set_option maxRecDepth 100000 in
theorem compact_any (A : Option Addr) (c : Nat) (l : List (Int × Int)) (w : World) (hl : l.length ≤ 3000000) (hR : Rd2 w A l) (hne : ∀ j, j + 1 < l.length → at2 l (j + 1) ≠ at2 l j) :
    Calls Try.prog 57 #[.slice A l.length c] w fun e w' => e = .returned (.slice A l.length c) ∧ Ext w w' := by
  have HN := Lib.hid hne
  clear hne
  by_cases hlen : l.length < 2
  · have hlen' : (l.length : Int) < 2 := by omega
    go_enter Try.func57, Try.ntmps57
    go_wp2_with fail
    go_ret
    exact ⟨rfl, Ext.refl _⟩
  · have hlen' : ¬ (l.length : Int) < 2 := by omega
    obtain ⟨b, o, rfl, hc⟩ := hR.open_ (by omega)
    have HC := Lib.hid hc
    clear hc hR
    go_enter Try.func57, Try.ntmps57
    go_wp2_with fail
    go_loopw [3] (fun i wr => ∃ k : Nat, 1 ≤ k ∧ k ≤ l.length ∧ i = .int .i64 k ∧ Ext w wr) (fun i _ => l.length - (intOf i).toNat)
    case atStart => exact ⟨1, Nat.le_refl _, by omega, rfl, Ext.refl _⟩
    case round =>
      obtain ⟨k, hk1, hk, rfl, hx⟩ := hrel
      by_cases hlt : k < l.length
      · have hlt' : (k : Int) < (l.length : Int) := by omega
        obtain ⟨c0, c1⟩ := HC.out k hlt
        obtain ⟨d0, d1⟩ := HC.out (k - 1) (by omega)
        have hq := HN.out (k - 1) (by omega)
        rw [show k - 1 + 1 = k by omega] at hq
        generalize at2 l k = p at *
        generalize at2 l (k - 1) = q at *
        obtain ⟨p0, p1⟩ := p
        obtain ⟨q0, q1⟩ := q
        simp only at c0 c1 d0 d1
        have he := eqSeg_op (p0, p1) (q0, q1)
        rw [show decide ((p0, p1) = (q0, q1)) = false by simpa using hq] at he
        unfold segV at he
        simp only at he
        clear hq
        have x0 := cell_ext (hx.cell c0)
        have x1 := cell_ext (hx.cell c1)
        have x2 := cell_ext (hx.cell d0)
        have x3 := cell_ext (hx.cell d1)
        clear c0 c1 d0 d1
        have e1 : IntKind.i64.wrap ((k : Int) - 1) = (k : Int) - 1 := IntWalk.i64_in _ (by omega)
        have e2 : ((k : Int) - 1).toNat = k - 1 := by omega
        have e3 : 0 ≤ (k : Int) - 1 := by omega
        have e4 : (k : Int) - 1 < (l.length : Int) := by omega
        go_wp2_with fail
        refine wp_region_ext (by kernel_rfl) (by kernel_rfl) ?_
        repeat (go_big_quiet_step ((fail)))
        refine wpQuiet_nil ?_
        intro W1 hW1_
        have hW1 := ext_of hW1_
        clear hW1_
        clear x0 x1 x2 x3 e1 e2 e3 e4 he
        go_wp2_with fail
        go_roundw
        case rel => exact ⟨k + 1, by omega, by omega, by go_num, hx.trans hW1⟩
        case measure => simp [intOf]; omega
      · have hlt' : ¬ (k : Int) < (l.length : Int) := by omega
        go_wp2_with fail
        go_ret
        exact ⟨rfl, hx⟩
end Go.Proofs.Ytagofpmcbbkmgaa
