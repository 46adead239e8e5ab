/- Package pred: product, cross. Conditions: the factors are int64s above the least one. -/
import Derived.Test.YtagofpmcbbkmgaaL3
import Derived.Laws.Bits64b
namespace Go.Proofs.Ytagofpmcbbkmgaa
open Go.RowKit

def hi64 (x y : Int) : Int := x * y / 18446744073709551616
def lo64 (x y : Int) : Int := x * y % 18446744073709551616
theorem mul64_any (x y : Int) (w : World) (h0 : 0 ≤ x) (h1 : x ≤ 9223372036854775807) (h2 : 0 ≤ y) (h3 : y ≤ 9223372036854775807) :
    Calls Try.prog 116 #[.int .u64 x, .int .u64 y] w fun e w' => e = .returned (.tuple #[.int .u64 (hi64 x y), .int .u64 (lo64 x y)]) ∧ w = w' := by
  obtain ⟨a, rfl⟩ := Int.eq_ofNat_of_zero_le h0
  obtain ⟨b, rfl⟩ := Int.eq_ofNat_of_zero_le h2
  refine (Try.bits_Mul64 a b (by omega) (by omega) w).mono ?_
  rintro e w' ⟨rfl, rfl⟩
  refine ⟨?_, rfl⟩
  unfold hi64 lo64
  rw [← Int.natCast_mul]
  rfl

def negP (a b : Int) : Bool := decide (a * b < 0)

theorem or_zero (h l : Int) (h0 : 0 ≤ h) (h1 : h < 18446744073709551616) (l0 : 0 ≤ l) (l1 : l < 18446744073709551616) : bits .or .u64 h l = 0 ↔ h = 0 ∧ l = 0 := by
  obtain ⟨a, rfl⟩ := Int.eq_ofNat_of_zero_le h0
  obtain ⟨b, rfl⟩ := Int.eq_ofNat_of_zero_le l0
  rw [bits_or_u64_nat a b (by omega) (by omega)]
  constructor
  · intro h
    have h' : a ||| b = 0 := by omega
    rw [Nat.or_eq_zero_iff] at h'
    omega
  · rintro ⟨h, l⟩
    have ha : a = 0 := by omega
    have hb : b = 0 := by omega
    subst ha hb
    rfl

theorem absI_mul (a b : Int) : absI a * absI b = absI (a * b) := by
  unfold absI
  by_cases ha : a < 0 <;> by_cases hb : b < 0
  · have : ¬ a * b < 0 := by have := Int.mul_pos_of_neg_of_neg ha hb; omega
    simp [ha, hb, this, Int.neg_mul_neg]
  · by_cases hb0 : b = 0
    · subst hb0; simp
    · have : a * b < 0 := Int.mul_neg_of_neg_of_pos ha (by omega)
      simp [ha, hb, this, Int.neg_mul]
  · by_cases ha0 : a = 0
    · subst ha0; simp
    · have : a * b < 0 := Int.mul_neg_of_pos_of_neg (by omega) hb
      simp [ha, hb, this, Int.mul_neg]
  · have : ¬ a * b < 0 := by have := Int.mul_nonneg (show 0 ≤ a by omega) (show 0 ≤ b by omega); omega
    simp [ha, hb, this]

theorem or_prod (a b : Int) (ha1 : -9223372036854775807 ≤ a) (ha2 : a ≤ 9223372036854775807) (hb1 : -9223372036854775807 ≤ b) (hb2 : b ≤ 9223372036854775807) :
    (bits .or .u64 (hi64 (absI a) (absI b)) (lo64 (absI a) (absI b)) = 0) ↔ a * b = 0 := by
  have h1 := absI_nonneg a
  have h2 := absI_nonneg b
  have h3 := absI_le a ha1 ha2
  have h4 := absI_le b hb1 hb2
  have h5 : 0 ≤ absI a * absI b := Int.mul_nonneg h1 h2
  have h6 : absI a * absI b ≤ 9223372036854775807 * 9223372036854775807 := Int.mul_le_mul h3 h4 h2 (by omega)
  rw [or_zero _ _ (by unfold hi64; omega) (by unfold hi64; omega) (by unfold lo64; omega) (by unfold lo64; omega)]
  unfold hi64 lo64
  have e := absI_mul a b
  have z : absI (a * b) = 0 ↔ a * b = 0 := by unfold absI; split <;> omega
  rw [e] at h5 h6 ⊢
  omega

set_option maxHeartbeats 1000000 in
theorem product_any (a b : Int) (w : World) (ha1 : -9223372036854775807 ≤ a) (ha2 : a ≤ 9223372036854775807) (hb1 : -9223372036854775807 ≤ b) (hb2 : b ≤ 9223372036854775807) :
    Calls Try.prog 129 #[.int .i64 a, .int .i64 b] w fun e w' => e = .returned (.agg #[.bool (negP a b), .int .u64 (lo64 (absI a) (absI b)), .int .u64 (hi64 (absI a) (absI b)), .int .u64 0, .int .u64 0]) ∧ Ext w w' := by
  have hor := or_prod a b ha1 ha2 hb1 hb2
  have hneg : a < 0 ∧ b < 0 ∧ negP a b = false ∨ a < 0 ∧ ¬ b < 0 ∧ (a * b = 0 ∧ negP a b = false ∨ a * b ≠ 0 ∧ negP a b = true) ∨ ¬ a < 0 ∧ b < 0 ∧ (a * b = 0 ∧ negP a b = false ∨ a * b ≠ 0 ∧ negP a b = true) ∨ ¬ a < 0 ∧ ¬ b < 0 ∧ negP a b = false := by
    unfold negP
    by_cases ha : a < 0 <;> by_cases hb : b < 0
    · have := Int.mul_pos_of_neg_of_neg ha hb; simp [ha, hb]; omega
    · have := Int.mul_nonneg (show 0 ≤ -a by omega) (show 0 ≤ b by omega)
      rw [Int.neg_mul] at this
      refine Or.inr (Or.inl ⟨ha, hb, ?_⟩)
      by_cases hz : a * b = 0
      · exact Or.inl ⟨hz, by rw [hz]; rfl⟩
      · exact Or.inr ⟨hz, decide_eq_true (by omega)⟩
    · have := Int.mul_nonneg (show 0 ≤ a by omega) (show 0 ≤ -b by omega)
      rw [Int.mul_neg] at this
      refine Or.inr (Or.inr (Or.inl ⟨ha, hb, ?_⟩))
      by_cases hz : a * b = 0
      · exact Or.inl ⟨hz, by rw [hz]; rfl⟩
      · exact Or.inr ⟨hz, decide_eq_true (by omega)⟩
    · have := Int.mul_nonneg (show 0 ≤ a by omega) (show 0 ≤ b by omega); simp [ha, hb]; omega
  have hm := fun W => mul64_any (absI a) (absI b) W (absI_nonneg _) (absI_le _ ha1 ha2) (absI_nonneg _) (absI_le _ hb1 hb2)
  have hsa := fun W => size_any a W ha1 ha2
  have hsb := fun W => size_any b W hb1 hb2
  have p1 : ∀ h l : Int, (bits .or .u64 h l = 0 ↔ a * b = 0) → a * b = 0 → (bits .or .u64 h l == 0) = true := fun h l hi hz => by rw [hi.2 hz]; rfl
  have p2 : ∀ h l : Int, (bits .or .u64 h l = 0 ↔ a * b = 0) → a * b ≠ 0 → (bits .or .u64 h l == 0) = false := fun h l hi hz => beq_eq_false_iff_ne.2 (fun hc => hz (hi.1 hc))
  generalize hi64 (absI a) (absI b) = hi at *
  generalize lo64 (absI a) (absI b) = lo at *
  generalize absI a = x at *
  generalize absI b = y at *
  have q1 := p1 hi lo hor
  have q2 := p2 hi lo hor
  clear hor p1 p2
  generalize negP a b = s at *
  have HM := Lib.hid hm
  have HA := Lib.hid hsa
  have HB := Lib.hid hsb
  clear hm hsa hsb
  rcases hneg with ⟨ha, hb, rfl⟩ | ⟨ha, hb, ⟨hz, rfl⟩ | ⟨hz, rfl⟩⟩ | ⟨ha, hb, ⟨hz, rfl⟩ | ⟨hz, rfl⟩⟩ | ⟨ha, hb, rfl⟩
  all_goals
    try have hq := q1 hz
    try have hq := q2 hz
    clear q1 q2
    try clear hz
    go_enter Try.func129, Try.ntmps129
    go_wp2_with fail
    refine (HA.out _).mono ?_
    rintro e w' ⟨rfl, rfl⟩
    go_wp2_with fail
    refine (HB.out _).mono ?_
    rintro e w' ⟨rfl, rfl⟩
    go_wp2_with fail
    refine (HM.out _).mono ?_
    rintro e w' ⟨rfl, rfl⟩
    go_wp2_with fail
    refine bodyPost_ret (v := .agg #[.bool _, .int .u64 lo, .int .u64 hi, .int .u64 0, .int .u64 0]) (by simp [results, Try.results129, go_sem] <;> simpa using hq) rfl ⟨rfl, (Ext.refl _).alloc _⟩
end Go.Proofs.Ytagofpmcbbkmgaa
