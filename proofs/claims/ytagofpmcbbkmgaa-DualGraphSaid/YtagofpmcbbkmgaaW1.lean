/- parquetlaw17: many, walked. -/
import Derived.Test.YtagofpmcbbkmgaaCM
namespace Go.Proofs.Ytagofpmcbbkmgaa
open Go.RowKit Go.Sort

/-- What many answers. -/
def ManyRes (p t s : Nat) (e : Ending) : Prop := ∃ b : Bool, e = .returned (.bool b) ∧ Hid (b = false → p ≤ 40 ∧ t ≤ 60 ∧ s ≤ 80)
theorem many_true (p t s : Nat) : ManyRes p t s (.returned (.bool true)) := ⟨true, rfl, Lib.hid (fun h => by cases h)⟩
theorem many_false {p t s : Nat} (h : Hid (p ≤ 40 ∧ t ≤ 60 ∧ s ≤ 80)) : ManyRes p t s (.returned (.bool false)) := ⟨false, rfl, Lib.hid (fun _ => h.out)⟩
set_option maxHeartbeats 4000000 in
set_option maxRecDepth 100000 in
theorem many_any (AP AT AS : Option Addr) (cp ct cs p t s : Nat) (w : World) :
    Calls Try.prog 16 #[.agg #[.slice AP p cp, .slice AT t ct, .slice AS s cs]] w fun e w' => ManyRes p t s e ∧ Ext w w' := by
  go_enter Try.func16, Try.ntmps16
  go_upto_region 1 with fail
  refine wp_world (fun W1 => Ext w W1 ∧ W1.cell? ⟨w.heap.size, 0, none⟩ = some (.slice AP p cp) ∧ W1.cell? ⟨w.heap.size, 1, none⟩ = some (.slice AT t ct) ∧ W1.cell? ⟨w.heap.size, 2, none⟩ = some (.slice AS s cs))
    ⟨(Ext.refl w).alloc _, by simp [go_sem], by simp [go_sem], by simp [go_sem]⟩ ?_
  generalize w.heap.size = B0
  rintro W ⟨hW, m0, m1, m2⟩
  by_cases hp : (40 : Int) < p
  · go_wp2_with fail
    go_ret
    exact ⟨many_true p t s, hW⟩
  · by_cases ht : (60 : Int) < t
    · go_wp2_with fail
      go_ret
      exact ⟨many_true p t s, hW⟩
    · by_cases hs : (80 : Int) < s
      · go_wp2_with fail
        go_ret
        exact ⟨many_true p t s, hW⟩
      · have HF := Lib.hid (show p ≤ 40 ∧ t ≤ 60 ∧ s ≤ 80 by omega)
        go_wp2_with fail
        go_ret
        exact ⟨many_false HF, hW⟩
end Go.Proofs.Ytagofpmcbbkmgaa
