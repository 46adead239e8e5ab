/- Package pred: cross, orient, of places whose coordinates are at most 2^33 without their signs. -/
import Derived.Test.YtagofpmcbbkmgaaL4
namespace Go.Proofs.Ytagofpmcbbkmgaa
open Go.RowKit

theorem sizeW_val (p q : Int) (hp : 0 ≤ p) (hq : 0 ≤ q) : sizeW (p % 18446744073709551616) (p / 18446744073709551616) 0 0 (q % 18446744073709551616) (q / 18446744073709551616) 0 0 = Lib.compareInt p q := by
  unfold sizeW Lib.compareInt
  have h3 : ¬ ((0 : Int) ≠ 0) := fun h => h rfl
  rw [if_neg h3, if_neg h3]
  (repeat' split) <;> omega
theorem noneB_val (p : Int) (hp : 0 ≤ p) : noneB (p % 18446744073709551616) (p / 18446744073709551616) 0 0 = decide (p = 0) := by
  unfold noneB
  rw [Bool.eq_iff_iff]
  simp
  omega
theorem signW_val (a b : Int) : signW (negP a b) (lo64 (absI a) (absI b)) (hi64 (absI a) (absI b)) 0 0 = Lib.compareInt (a * b) 0 := by
  unfold signW lo64 hi64 negP
  rw [absI_mul, noneB_val _ (absI_nonneg _)]
  unfold absI Lib.compareInt
  generalize a * b = p
  by_cases h : p < 0
  · have h2 : p ≠ 0 := by omega
    simp [h, h2]
  · by_cases h2 : p = 0
    · simp [h2]
    · have h3 : 0 < p := by omega
      simp [h, h2, h3]
theorem cmpW_prod (a b c d : Int) : cmpW (negP a b) (lo64 (absI a) (absI b)) (hi64 (absI a) (absI b)) 0 0 (negP c d) (lo64 (absI c) (absI d)) (hi64 (absI c) (absI d)) 0 0 = Lib.compareInt (a * b) (c * d) := by
  unfold cmpW
  rw [signW_val, signW_val]
  unfold lo64 hi64
  rw [absI_mul, absI_mul, sizeW_val _ _ (absI_nonneg _) (absI_nonneg _)]
  unfold absI Lib.compareInt
  generalize a * b = p
  generalize c * d = q
  by_cases h1 : p < 0 <;> by_cases h2 : q < 0 <;> by_cases h3 : p > 0 <;> by_cases h4 : q > 0 <;> simp [h1, h2, h3, h4] <;> (repeat' split) <;> omega

set_option maxHeartbeats 1000000 in
theorem cross_any (a b c d : Int) (w : World) (ha1 : -9223372036854775807 ≤ a) (ha2 : a ≤ 9223372036854775807) (hb1 : -9223372036854775807 ≤ b) (hb2 : b ≤ 9223372036854775807)
    (hc1 : -9223372036854775807 ≤ c) (hc2 : c ≤ 9223372036854775807) (hd1 : -9223372036854775807 ≤ d) (hd2 : d ≤ 9223372036854775807) :
    Calls Try.prog 113 #[.int .i64 a, .int .i64 b, .int .i64 c, .int .i64 d] w fun e w' => e = .returned (.int .i64 (Lib.compareInt (a * b) (c * d))) ∧ Ext w w' := by
  rw [← cmpW_prod]
  have h1 := fun W => product_any a b W ha1 ha2 hb1 hb2
  have h2 := fun W => product_any c d W hc1 hc2 hd1 hd2
  generalize lo64 (absI a) (absI b) = l1 at *
  generalize hi64 (absI a) (absI b) = k1 at *
  generalize negP a b = m1 at *
  generalize lo64 (absI c) (absI d) = l2 at *
  generalize hi64 (absI c) (absI d) = k2 at *
  generalize negP c d = m2 at *
  have h3 := fun W => wcmp_any m1 m2 l1 k1 0 0 l2 k2 0 0 W
  generalize cmpW m1 l1 k1 0 0 m2 l2 k2 0 0 = r at *
  have H1 := Lib.hid h1
  have H2 := Lib.hid h2
  have H3 := Lib.hid h3
  clear h1 h2 h3
  go_enter Try.func113, Try.ntmps113
  go_wp2_with fail
  refine (H1.out _).mono ?_
  rintro e W1 ⟨rfl, hW1⟩
  go_wp2_with fail
  refine (H2.out _).mono ?_
  rintro e W2 ⟨rfl, hW2⟩
  go_wp2_with fail
  refine (H3.out _).mono ?_
  rintro e W3 ⟨rfl, hW3⟩
  go_wp2_with fail
  go_ret
  exact ⟨rfl, (((hW1.trans hW2).alloc _).alloc _).trans hW3⟩

theorem small4 (b c : Nat) (p q r s : Int) (w : World) (hb : ∀ x ∈ [p, q, r, s], -9223372036854775807 ≤ x ∧ x ≤ 9223372036854775807)
    (h0 : w.cell? ⟨b, 0, none⟩ = some (.int .i64 p)) (h1 : w.cell? ⟨b, 1, none⟩ = some (.int .i64 q)) (h2 : w.cell? ⟨b, 2, none⟩ = some (.int .i64 r)) (h3 : w.cell? ⟨b, 3, none⟩ = some (.int .i64 s)) :
    Calls Try.prog 112 #[.slice (some ⟨b, 0, none⟩) 4 c] w fun e w' => e = .returned (.bool (smallB [p, q, r, s])) ∧ w = w' := by
  refine small_any b c [p, q, r, s] w (by simp) (fun k hk => ?_) (fun k hk => ?_)
  · exact hb _ (by simp only [List.getD, List.getElem?_eq_getElem hk]; exact List.getElem_mem hk)
  · have hk' : k < 4 := hk
    have : k = 0 ∨ k = 1 ∨ k = 2 ∨ k = 3 := by omega
    rcases this with rfl | rfl | rfl | rfl <;> assumption

/-- where the third place lies of the way from the first to the second -/
def orientI (ax ay bx by_ cx cy : Int) : Int := Lib.compareInt ((bx - ax) * (cy - ay)) ((by_ - ay) * (cx - ax))

theorem absI_lt (x B : Int) (h : absI x < B) : -B < x ∧ x < B := by unfold absI at h; split at h <;> omega
theorem mul_bd (x y : Int) (hx : -1073741824 < x ∧ x < 1073741824) (hy : -1073741824 < y ∧ y < 1073741824) : -1152921504606846976 ≤ x * y ∧ x * y ≤ 1152921504606846976 := by
  have h1 : (1073741824 - x) * (1073741824 + y) ≥ 0 := Int.mul_nonneg (by omega) (by omega)
  have h2 : (1073741824 + x) * (1073741824 - y) ≥ 0 := Int.mul_nonneg (by omega) (by omega)
  have h3 : (1073741824 - x) * (1073741824 - y) ≥ 0 := Int.mul_nonneg (by omega) (by omega)
  have h4 : (1073741824 + x) * (1073741824 + y) ≥ 0 := Int.mul_nonneg (by omega) (by omega)
  rw [Int.sub_mul, Int.mul_add, Int.mul_add] at h1
  rw [Int.add_mul, Int.mul_sub, Int.mul_sub] at h2
  rw [Int.sub_mul, Int.mul_sub, Int.mul_sub] at h3
  rw [Int.add_mul, Int.mul_add, Int.mul_add] at h4
  omega

theorem smallB4 {p q r s : Int} (h : smallB [p, q, r, s] = true) : (-1073741824 < p ∧ p < 1073741824) ∧ (-1073741824 < q ∧ q < 1073741824) ∧ (-1073741824 < r ∧ r < 1073741824) ∧ (-1073741824 < s ∧ s < 1073741824) := by
  unfold smallB at h
  simp at h
  obtain ⟨h1, h2, h3, h4⟩ := h
  exact ⟨absI_lt _ _ h1, absI_lt _ _ h2, absI_lt _ _ h3, absI_lt _ _ h4⟩

set_option maxHeartbeats 1000000 in
set_option maxRecDepth 100000 in
theorem orient_in (ax ay bx by_ cx cy : Int) (w : World) (hax : -4294967296 ≤ ax ∧ ax ≤ 4294967296) (hay : -4294967296 ≤ ay ∧ ay ≤ 4294967296) (hbx : -4294967296 ≤ bx ∧ bx ≤ 4294967296) (hby : -4294967296 ≤ by_ ∧ by_ ≤ 4294967296) (hcx : -4294967296 ≤ cx ∧ cx ≤ 4294967296) (hcy : -4294967296 ≤ cy ∧ cy ≤ 4294967296) :
    Calls Try.prog 82 #[.agg #[.int .i64 ax, .int .i64 ay], .agg #[.int .i64 bx, .int .i64 by_], .agg #[.int .i64 cx, .int .i64 cy]] w fun e w' => e = .returned (.int .i64 (orientI ax ay bx by_ cx cy)) ∧ Ext w w' := by
  unfold orientI
  have e1 : IntKind.i64.wrap (bx - ax) = bx - ax := IntWalk.i64_in _ (by omega)
  have e2 : IntKind.i64.wrap (cy - ay) = cy - ay := IntWalk.i64_in _ (by omega)
  have e3 : IntKind.i64.wrap (by_ - ay) = by_ - ay := IntWalk.i64_in _ (by omega)
  have e4 : IntKind.i64.wrap (cx - ax) = cx - ax := IntWalk.i64_in _ (by omega)
  have hp : -8589934592 ≤ bx - ax ∧ bx - ax ≤ 8589934592 := by omega
  have hq : -8589934592 ≤ cy - ay ∧ cy - ay ≤ 8589934592 := by omega
  have hr : -8589934592 ≤ by_ - ay ∧ by_ - ay ≤ 8589934592 := by omega
  have hs : -8589934592 ≤ cx - ax ∧ cx - ax ≤ 8589934592 := by omega
  clear hax hay hbx hby hcx hcy
  generalize hpe : bx - ax = p at *
  generalize hqe : cy - ay = q at *
  generalize hre : by_ - ay = r at *
  generalize hse : cx - ax = s at *
  have hcr := fun W => cross_any p q r s W (by omega) (by omega) (by omega) (by omega) (by omega) (by omega) (by omega) (by omega)
  have hsm : smallB [p, q, r, s] = true → (-1152921504606846976 ≤ p * q ∧ p * q ≤ 1152921504606846976) ∧ (-1152921504606846976 ≤ r * s ∧ r * s ≤ 1152921504606846976) := fun h => by
    obtain ⟨h1, h2, h3, h4⟩ := smallB4 h
    exact ⟨mul_bd _ _ h1 h2, mul_bd _ _ h3 h4⟩
  have hcp : Lib.compareInt (p * q) (r * s) = if 0 < p * q - r * s then 1 else if p * q - r * s < 0 then -1 else 0 := by
    unfold Lib.compareInt
    (repeat' split) <;> omega
  have HC := Lib.hid hcr
  have HSM := Lib.hid hsm
  have HCP := Lib.hid hcp
  clear hcr hsm hcp
  go_enter Try.func82, Try.ntmps82
  go_wp2_with fail
  refine wp_world (fun W => Ext w W ∧ W.cell? ⟨w.heap.size, 0, none⟩ = some (.int .i64 ax) ∧ W.cell? ⟨w.heap.size, 1, none⟩ = some (.int .i64 ay) ∧ W.cell? ⟨w.heap.size + 1, 0, none⟩ = some (.int .i64 bx) ∧ W.cell? ⟨w.heap.size + 1, 1, none⟩ = some (.int .i64 by_) ∧ W.cell? ⟨w.heap.size + 2, 0, none⟩ = some (.int .i64 cx) ∧ W.cell? ⟨w.heap.size + 2, 1, none⟩ = some (.int .i64 cy))
    ⟨(((Ext.refl _).alloc _).alloc _).alloc _, by simp [go_sem], by simp [go_sem], by simp [go_sem], by simp [go_sem], by simp [go_sem], by simp [go_sem]⟩ ?_
  rintro W ⟨hW, c0, c1, c2, c3, c4, c5⟩
  have x0 := cell_ext c0
  have x1 := cell_ext c1
  have x2 := cell_ext c2
  have x3 := cell_ext c3
  have x4 := cell_ext c4
  have x5 := cell_ext c5
  refine wp_region_ext (by kernel_rfl) (by kernel_rfl) ?_
  repeat (go_big_quiet_step ((fail)))
  refine wpQuiet_nil ?_
  intro W1 hW1_
  have hW1 := ext_of hW1_
  clear hW1_
  clear x0 x1 x2 x3 x4 x5 c0 c1 c2 c3 c4 c5 e1 e2 e3 e4
  replace hW := hW.trans hW1
  go_wp2_with fail
  refine (small4 _ _ p q r s _ (by simp; omega) (by simp) (by simp) (by simp) (by simp)).mono ?_
  rintro e W2 ⟨rfl, rfl⟩
  have hx2 := hW.alloc (Obj.cells #[Value.int IntKind.i64 p, Value.int IntKind.i64 q, Value.int IntKind.i64 r, Value.int IntKind.i64 s] 3)
  clear hpe hqe hre hse
  by_cases hb : smallB [p, q, r, s] = true
  · obtain ⟨⟨b1, b2⟩, b3, b4⟩ := HSM.out hb
    go_wp2_with fail
    all_goals
      go_ret
      exact ⟨ret_i64 (by rw [HCP.out]; (repeat' split) <;> omega), hx2⟩
  · have hb' : smallB [p, q, r, s] = false := by simpa using hb
    go_wp2_with fail
    refine (HC.out _).mono ?_
    rintro e W3 ⟨rfl, hW3⟩
    go_wp2_with fail
    go_ret
    exact ⟨rfl, hx2.trans hW3⟩
end Go.Proofs.Ytagofpmcbbkmgaa
