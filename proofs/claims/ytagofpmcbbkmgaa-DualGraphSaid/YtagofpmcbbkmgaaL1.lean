/- The numbers' leaves of package pred: size, small. Conditions: the numbers are int64s above the least one. -/
import Derived.Test.YtagofpmcbbkmgaaL0
namespace Go.Proofs.Ytagofpmcbbkmgaa
open Go.RowKit

/-- a number without its sign -/
def absI (n : Int) : Int := if n < 0 then -n else n
theorem absI_nonneg (n : Int) : 0 ≤ absI n := by unfold absI; split <;> omega
theorem absI_le (n : Int) (h1 : -9223372036854775807 ≤ n) (h2 : n ≤ 9223372036854775807) : absI n ≤ 9223372036854775807 := by unfold absI; split <;> omega

set_option maxHeartbeats 400000 in
theorem size_any (n : Int) (w : World) (h1 : -9223372036854775807 ≤ n) (h2 : n ≤ 9223372036854775807) :
    Calls Try.prog 128 #[.int .i64 n] w fun e w' => e = .returned (.int .u64 (absI n)) ∧ w = w' := by
  go_enter Try.func128, Try.ntmps128
  go_wp2
  all_goals
    go_ret
    exact ⟨ret_u64 (by unfold absI; split <;> omega), rfl⟩

/-- all are below 2^30, without their signs -/
def smallB (l : List Int) : Bool := l.all fun n => decide (absI n < 1073741824)

theorem smallB_take (l : List Int) (k : Nat) (hk : k < l.length) (h : smallB (l.take k) = true) (hn : absI (l.getD k 0) < 1073741824) : smallB (l.take (k + 1)) = true := by
  unfold smallB at *
  rw [List.take_succ_eq_append_getElem hk, List.all_append, h]
  simp [List.getD, List.getElem?_eq_getElem hk] at hn
  simpa using hn
theorem smallB_not (l : List Int) (k : Nat) (hk : k < l.length) (hn : ¬ absI (l.getD k 0) < 1073741824) : smallB l = false := by
  unfold smallB
  rw [List.all_eq_false]
  refine ⟨l[k], List.getElem_mem hk, ?_⟩
  simp [List.getD, List.getElem?_eq_getElem hk] at hn
  simpa using hn

set_option maxHeartbeats 400000 in
theorem small_any (b c : Nat) (l : List Int) (w : World) (hl : l.length ≤ 1000) (hb : ∀ k, k < l.length → -9223372036854775807 ≤ l.getD k 0 ∧ l.getD k 0 ≤ 9223372036854775807)
    (hc : ∀ k, k < l.length → w.cell? ⟨b, k, none⟩ = some (.int .i64 (l.getD k 0))) :
    Calls Try.prog 112 #[.slice (some ⟨b, 0, none⟩) l.length c] w fun e w' => e = .returned (.bool (smallB l)) ∧ w = w' := by
  go_enter Try.func112, Try.ntmps112
  go_wp2
  go_loop [4, 7] (fun _ i => ∃ k : Nat, k ≤ l.length ∧ i = .int .i64 k ∧ smallB (l.take k) = true) (fun _ i => l.length - (intOf i).toNat)
  case atStart => exact ⟨0, Nat.zero_le _, rfl, rfl⟩
  case round =>
    obtain ⟨k, hk, rfl, hs⟩ := hrel
    have HS := Lib.hid hs
    clear hs
    by_cases hlt : k < l.length
    · have hck := hc k hlt
      obtain ⟨hb1, hb2⟩ := hb k hlt
      have hst := smallB_take l k hlt
      have hno := smallB_not l k hlt
      generalize l.getD k 0 = x at *
      have HST := Lib.hid hst
      have HNO := Lib.hid hno
      clear hst hno hc hb
      have hx0 := absI_nonneg x
      by_cases hx : absI x < 1073741824
      all_goals
        go_wp2_with fail
        refine (size_any _ _ (by omega) (by omega)).mono ?_
        rintro e w' ⟨rfl, rfl⟩
        clear hb1 hb2
        generalize absI x = m at *
        go_wp2
      · go_round
        case rel => exact ⟨k + 1, by omega, by go_num, HST.out HS.out (by omega)⟩
        case measure => simp [intOf]; omega
      · go_ret
        exact ⟨ret_bool (HNO.out (by omega)).symm, rfl⟩
    · go_wp2
      go_ret
      exact ⟨ret_bool (by have := HS.out; rw [List.take_of_length_le (by omega)] at this; exact this.symm), rfl⟩
end Go.Proofs.Ytagofpmcbbkmgaa
