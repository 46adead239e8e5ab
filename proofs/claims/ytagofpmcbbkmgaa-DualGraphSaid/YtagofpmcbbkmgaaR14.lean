/- parquetref03: Fits, Orient, Convex. -/
import Derived.Test.YtagofpmcbbkmgaaR13
namespace Go.Proofs.Ytagofpmcbbkmgaa
open Go.RowKit Go.Sort

theorem area_orient (ax ay bx by_ cx cy : Int) : sgnI (areaI ax ay bx by_ cx cy) = orientI ax ay bx by_ cx cy := by
  have h : areaI ax ay bx by_ cx cy = (bx - ax) * (cy - ay) - (by_ - ay) * (cx - ax) := by
    unfold areaI
    simp only [Int.sub_mul, Int.mul_sub]
    have e1 : bx * ay = ay * bx := Int.mul_comm _ _
    have e2 : cy * ax = ax * cy := Int.mul_comm _ _
    have e3 : by_ * ax = ax * by_ := Int.mul_comm _ _
    have e4 : cx * ay = ay * cx := Int.mul_comm _ _
    have e5 : ay * ax = ax * ay := Int.mul_comm _ _
    omega
  rw [h]
  unfold sgnI orientI Lib.compareInt
  generalize (bx - ax) * (cy - ay) = p
  generalize (by_ - ay) * (cx - ax) = q
  (repeat' split) <;> omega

set_option maxHeartbeats 1000000 in
set_option maxRecDepth 100000 in
theorem Fits3_any (px py : Int) (w : World) :
    Calls Try.prog 59 #[.agg #[.int .i64 px, .int .i64 py]] w fun e w' => e = .returned (.bool (fitB (px, py))) ∧ Ext w w' := by
  by_cases hf : fitB (px, py) = true
  · obtain ⟨⟨f1, f2⟩, f3, f4⟩ := (fitB_iff _).1 hf
    simp only at f1 f2 f3 f4
    have d1 : decide (-4294967296 ≤ px) = true := by simpa using f1
    have d2 : decide (px ≤ 4294967296) = true := by simpa using f2
    have d3 : decide (-4294967296 ≤ py) = true := by simpa using f3
    have d4 : decide (py ≤ 4294967296) = true := by simpa using f4
    rw [hf]
    clear hf
    go_enter Try.func59, Try.ntmps59
    go_wp2_with fail
    go_ret
    exact ⟨rfl, (Ext.refl _).alloc _⟩
  · have hff : fitB (px, py) = false := by simpa using hf
    have hn : ¬ ((-4294967296 ≤ px ∧ px ≤ 4294967296) ∧ (-4294967296 ≤ py ∧ py ≤ 4294967296)) := fun h => hf ((fitB_iff _).2 h)
    have hd : px < -4294967296 ∨ (-4294967296 ≤ px ∧ 4294967296 < px) ∨ (-4294967296 ≤ px ∧ px ≤ 4294967296 ∧ py < -4294967296) ∨ (-4294967296 ≤ px ∧ px ≤ 4294967296 ∧ -4294967296 ≤ py ∧ 4294967296 < py) := by omega
    rw [hff]
    clear hff hf hn
    rcases hd with f1 | ⟨f1, f2⟩ | ⟨f1, f2, f3⟩ | ⟨f1, f2, f3, f4⟩
    · have d1 : decide (-4294967296 ≤ px) = false := by simp; omega
      go_enter Try.func59, Try.ntmps59
      go_wp2_with fail
      go_ret
      exact ⟨rfl, (Ext.refl _).alloc _⟩
    · have d1 : decide (-4294967296 ≤ px) = true := by simpa using f1
      have d2 : decide (px ≤ 4294967296) = false := by simp; omega
      go_enter Try.func59, Try.ntmps59
      go_wp2_with fail
      go_ret
      exact ⟨rfl, (Ext.refl _).alloc _⟩
    · have d1 : decide (-4294967296 ≤ px) = true := by simpa using f1
      have d2 : decide (px ≤ 4294967296) = true := by simpa using f2
      have d3 : decide (-4294967296 ≤ py) = false := by simp; omega
      go_enter Try.func59, Try.ntmps59
      go_wp2_with fail
      go_ret
      exact ⟨rfl, (Ext.refl _).alloc _⟩
    · have d1 : decide (-4294967296 ≤ px) = true := by simpa using f1
      have d2 : decide (px ≤ 4294967296) = true := by simpa using f2
      have d3 : decide (-4294967296 ≤ py) = true := by simpa using f3
      have d4 : decide (py ≤ 4294967296) = false := by simp; omega
      go_enter Try.func59, Try.ntmps59
      go_wp2_with fail
      go_ret
      exact ⟨rfl, (Ext.refl _).alloc _⟩

theorem fit_of {p : Int × Int} (h : fitB p = true) : Fit p.1 ∧ Fit p.2 := by
  obtain ⟨⟨a, b⟩, c, d⟩ := (fitB_iff p).1 h
  exact ⟨⟨by omega, by omega⟩, by omega, by omega⟩

set_option maxHeartbeats 1000000 in
set_option maxRecDepth 100000 in
theorem Orient3_any (ax ay bx by_ cx cy : Int) (w : World) :
    Calls Try.prog 28 #[.agg #[.int .i64 ax, .int .i64 ay], .agg #[.int .i64 bx, .int .i64 by_], .agg #[.int .i64 cx, .int .i64 cy]] w fun e w' => e = .returned (.int .i64 (orientP (ax, ay) (bx, by_) (cx, cy))) ∧ Ext w w' := by
  have HFa := Lib.hid (fun W => Fits3_any ax ay W)
  have HFb := Lib.hid (fun W => Fits3_any bx by_ W)
  have HFc := Lib.hid (fun W => Fits3_any cx cy W)
  have HAr := Lib.hid (fun W (h1 : fitB (ax, ay) = true) (h2 : fitB (bx, by_) = true) (h3 : fitB (cx, cy) = true) => Area_any ax ay bx by_ cx cy W (fit_of h1).1 (fit_of h1).2 (fit_of h2).1 (fit_of h2).2 (fit_of h3).1 (fit_of h3).2)
  have HSg := Lib.hid (fun v W h => Sign_any v (areaI ax ay bx by_ cx cy) 12 W h (by omega))
  rw [area_orient] at HSg
  unfold RetN at HAr
  unfold orientP
  simp only
  generalize fitB (ax, ay) = fa at *
  generalize fitB (bx, by_) = fb at *
  generalize fitB (cx, cy) = fc at *
  generalize orientI ax ay bx by_ cx cy = r at *
  generalize areaI ax ay bx by_ cx cy = z at *
  go_enter Try.func28, Try.ntmps28
  go_upto_region 1 with fail
  refine wp_world (fun W1 => Ext w W1 ∧ (W1.cell? ⟨w.heap.size, 0, none⟩ = some (.int .i64 ax) ∧ W1.cell? ⟨w.heap.size, 1, none⟩ = some (.int .i64 ay)) ∧ (W1.cell? ⟨w.heap.size + 1, 0, none⟩ = some (.int .i64 bx) ∧ W1.cell? ⟨w.heap.size + 1, 1, none⟩ = some (.int .i64 by_)) ∧ (W1.cell? ⟨w.heap.size + 1 + 1, 0, none⟩ = some (.int .i64 cx) ∧ W1.cell? ⟨w.heap.size + 1 + 1, 1, none⟩ = some (.int .i64 cy)))
    ⟨(((Ext.refl w).alloc _).alloc _).alloc _, ⟨by simp [go_sem], by simp [go_sem]⟩, ⟨by simp [go_sem], by simp [go_sem]⟩, by simp [go_sem], by simp [go_sem]⟩ ?_
  rintro W ⟨hW, ⟨a0, a1⟩, ⟨b0, b1⟩, c0, c1⟩
  go_wp2_with fail
  refine (HFa.out _).mono ?_
  rintro e W1 ⟨rfl, hx⟩
  replace hW := hW.trans hx
  replace a0 := hx.cell a0
  replace a1 := hx.cell a1
  replace b0 := hx.cell b0
  replace b1 := hx.cell b1
  replace c0 := hx.cell c0
  replace c1 := hx.cell c1
  clear hx HFa
  cases fa with
  | false =>
    go_wp2_with fail
    go_ret
    exact ⟨rfl, hW⟩
  | true =>
    go_wp2_with fail
    refine (HFb.out _).mono ?_
    rintro e W1 ⟨rfl, hx⟩
    replace hW := hW.trans hx
    replace a0 := hx.cell a0
    replace a1 := hx.cell a1
    replace b0 := hx.cell b0
    replace b1 := hx.cell b1
    replace c0 := hx.cell c0
    replace c1 := hx.cell c1
    clear hx HFb
    cases fb with
    | false =>
      go_wp2_with fail
      go_ret
      exact ⟨rfl, hW⟩
    | true =>
      go_wp2_with fail
      refine (HFc.out _).mono ?_
      rintro e W1 ⟨rfl, hx⟩
      replace hW := hW.trans hx
      replace a0 := hx.cell a0
      replace a1 := hx.cell a1
      replace b0 := hx.cell b0
      replace b1 := hx.cell b1
      replace c0 := hx.cell c0
      replace c1 := hx.cell c1
      clear hx HFc
      cases fc with
      | false =>
        go_wp2_with fail
        go_ret
        exact ⟨rfl, hW⟩
      | true =>
        go_wp2_with fail
        refine (HAr.out _ (by first | trivial | rfl) (by first | trivial | rfl) (by first | trivial | rfl)).mono ?_
        rintro e W1 ⟨⟨v', rfl, hn⟩, hx⟩
        have HNm := Lib.hid hn
        clear hn
        replace hW := hW.trans hx
        go_wp2_with fail
        refine (HSg.out _ _ HNm.out).mono ?_
        rintro e W2 ⟨rfl, hx2⟩
        go_wp2_with fail
        go_ret
        exact ⟨rfl, hW.trans hx2⟩

/-- three of a row turn left -/
def left3 (l : List (Int × Int)) (i k j : Nat) : Bool := orientP (at2 l i) (at2 l k) (at2 l j) == 1
theorem convex_iff (l : List (Int × Int)) : convexB l = true ↔ (∀ i k j, i < k → k < j → j < l.length → leftB l i k j = true) ∧ 2 < l.length := by
  unfold convexB
  simp only [Bool.and_eq_true, List.all_eq_true, List.mem_range, decide_eq_true_eq]
  constructor
  · rintro ⟨h, h2⟩
    refine ⟨fun i k j hik hkj hj => ?_, h2⟩
    have h3 := h j hj
    unfold cvxI at h3
    simp only [List.all_eq_true, List.mem_range] at h3
    have h4 := h3 k hkj
    unfold cvxK at h4
    simp only [List.all_eq_true, List.mem_range] at h4
    exact h4 i hik
  · rintro ⟨h, h2⟩
    refine ⟨fun j hj => ?_, h2⟩
    unfold cvxI
    simp only [List.all_eq_true, List.mem_range]
    intro k hk
    unfold cvxK
    simp only [List.all_eq_true, List.mem_range]
    exact fun i hi => h i k j hi hk hj

set_option maxHeartbeats 4000000 in
set_option maxRecDepth 100000 in
theorem Convex3_any (A : Option Addr) (c : Nat) (l : List (Int × Int)) (w : World) (hl : l.length ≤ 1000000) (hR : Rd2 w A l) :
    Calls Try.prog 23 #[.slice A l.length c] w fun e w' => e = .returned (.bool (convexB l)) ∧ Ext w w' := by
  generalize hr : convexB l = r
  have HNo := Lib.hid (show ∀ i k j, i < k → k < j → j < l.length → leftB l i k j = false → r = false from fun i k j h1 h2 h3 h4 => by
    rw [← hr]
    cases hc : convexB l
    · rfl
    · have := ((convex_iff l).1 hc).1 i k j h1 h2 h3
      rw [h4] at this; cases this)
  have HYes := Lib.hid (show (∀ i, i < l.length → ∀ k j, i < k → k < j → j < l.length → leftB l i k j = true) → r = decide (3 ≤ l.length) from fun h => by
    rw [← hr, Bool.eq_iff_iff, convex_iff, decide_eq_true_eq]
    constructor
    · intro h2; omega
    · intro h2; exact ⟨fun i k j h3 h4 h5 => h i (by omega) k j h3 h4 h5, by omega⟩)
  have HR := Lib.hid hR
  clear hr hR
  go_enter Try.func23, Try.ntmps23
  go_wp2_with fail
  go_loopw [3, 4, 5] (fun iv _ _ wx => ∃ i : Nat, i ≤ l.length ∧ iv = .int .i64 i ∧ Hid (∀ i', i' < i → ∀ k j, i' < k → k < j → j < l.length → leftB l i' k j = true) ∧ Ext w wx) (fun iv _ _ _ => l.length - (intOf iv).toNat)
  case atStart => exact ⟨0, Nat.zero_le _, rfl, Lib.hid (fun i h => absurd h (Nat.not_lt_zero _)), Ext.refl _⟩
  case round =>
    obtain ⟨i, hi, rfl, HI, hx⟩ := hrel
    by_cases hlt : i < l.length
    · have hlt1 : (i : Int) < (l.length : Int) := by omega
      go_wp2_with fail
      go_loopw [4, 5] (fun kv _ wx => ∃ k : Nat, i + 1 ≤ k ∧ k ≤ l.length ∧ kv = .int .i64 k ∧ Hid (∀ k', k' < k → ∀ j, i < k' → k' < j → j < l.length → leftB l i k' j = true) ∧ Ext w wx) (fun kv _ _ => l.length - (intOf kv).toNat)
      case atStart => exact ⟨i + 1, Nat.le_refl _, by omega, by go_num, Lib.hid (fun k' h j h1 h2 h3 => by omega), hx⟩
      case round =>
        clear hx
        obtain ⟨k, hk0, hk, rfl, HKk, hx⟩ := hrel
        by_cases hltk : k < l.length
        · have hltk1 : (k : Int) < (l.length : Int) := by omega
          go_wp2_with fail
          go_loopw [5] (fun jv wx => ∃ j : Nat, k + 1 ≤ j ∧ j ≤ l.length ∧ jv = .int .i64 j ∧ Hid (∀ j', j' < j → k < j' → leftB l i k j' = true) ∧ Ext w wx) (fun jv _ => l.length - (intOf jv).toNat)
          case atStart => exact ⟨k + 1, Nat.le_refl _, by omega, by go_num, Lib.hid (fun j' h h2 => by omega), hx⟩
          case round =>
            clear hx
            obtain ⟨j, hj0, hj, rfl, HJ, hx⟩ := hrel
            by_cases hltj : j < l.length
            · have hltj1 : (j : Int) < (l.length : Int) := by omega
              obtain ⟨b, o, rfl, hcs⟩ := (HR.out.ext hx).open_ (by omega)
              obtain ⟨d0, d1⟩ := hcs i hlt
              obtain ⟨d2, d3⟩ := hcs k hltk
              obtain ⟨d4, d5⟩ := hcs j hltj
              clear hcs
              have HLf : Hid (leftB l i k j = (orientP (at2 l i) (at2 l k) (at2 l j) == 1)) := Lib.hid rfl
              have HOr := Lib.hid (fun W => Orient3_any (at2 l i).1 (at2 l i).2 (at2 l k).1 (at2 l k).2 (at2 l j).1 (at2 l j).2 W)
              generalize at2 l i = p at *
              generalize at2 l k = q at *
              generalize at2 l j = s at *
              obtain ⟨px, py⟩ := p
              obtain ⟨qx, qy⟩ := q
              obtain ⟨sx, sy⟩ := s
              simp only at d0 d1 d2 d3 d4 d5 HOr
              have x0 := cell_ext d0
              have x1 := cell_ext d1
              have x2 := cell_ext d2
              have x3 := cell_ext d3
              have x4 := cell_ext d4
              have x5 := cell_ext d5
              generalize orientP (px, py) (qx, qy) (sx, sy) = t at *
              have hstep : (t = 1 ∧ Hid (∀ j', j' < j + 1 → k < j' → leftB l i k j' = true)) ∨ (¬ t = 1 ∧ Hid (r = false)) := by
                by_cases h : t = 1
                · refine Or.inl ⟨h, Lib.hid fun j' hj' hkj' => ?_⟩
                  by_cases e : j' = j
                  · subst e; rw [HLf.out, h]; rfl
                  · exact HJ.out j' (by omega) hkj'
                · exact Or.inr ⟨h, Lib.hid (HNo.out i k j (by omega) (by omega) hltj (by rw [HLf.out]; simpa using h))⟩
              go_wp2_with fail
              refine wp_region_ext (by kernel_rfl) (by kernel_rfl) ?_
              repeat (go_big_quiet_step (((go_at_call 28; with_reducible exact ext_call (HOr.out _)))))
              refine wpQuiet_nil ?_
              intro W1 hW1_
              have hW1 := ext_of hW1_
              clear hW1_
              clear x0 x1 x2 x3 x4 x5 d0 d1 d2 d3 d4 d5 HLf HOr
              rcases hstep with ⟨ht, HS⟩ | ⟨ht, HS⟩
              · subst ht
                go_wp2_with fail
                go_roundw
                case rel => exact ⟨j + 1, by omega, by omega, by go_num, HS, hx.trans hW1⟩
                case measure => simp [intOf]; omega
              · have ht1 : (t != 1) = true := by simpa using ht
                clear ht
                go_wp2_with fail
                go_ret
                exact ⟨ret_bool HS.out.symm, hx.trans hW1⟩
            · have hgej : ¬ (j : Int) < (l.length : Int) := by omega
              have HS := Lib.hid (show ∀ k', k' < k + 1 → ∀ j', i < k' → k' < j' → j' < l.length → leftB l i k' j' = true from fun k' hk' j' h1 h2 h3 => by
                by_cases e : k' = k
                · subst e; exact HJ.out j' (by omega) h2
                · exact HKk.out k' (by omega) j' h1 h2 h3)
              go_wp2_with fail
              go_roundw
              case rel => exact ⟨k + 1, by omega, by omega, by go_num, HS, hx⟩
              case measure => simp [intOf]; omega
        · have hgek : ¬ (k : Int) < (l.length : Int) := by omega
          have HS := Lib.hid (show ∀ i', i' < i + 1 → ∀ k' j', i' < k' → k' < j' → j' < l.length → leftB l i' k' j' = true from fun i' hi' k' j' h1 h2 h3 => by
            by_cases e : i' = i
            · subst e; exact HKk.out k' (by omega) j' h1 h2 h3
            · exact HI.out i' (by omega) k' j' h1 h2 h3)
          go_wp2_with fail
          go_roundw
          case rel => exact ⟨i + 1, by omega, by go_num, HS, hx⟩
          case measure => simp [intOf]; omega
    · have hge : ¬ (i : Int) < (l.length : Int) := by omega
      have HS := Lib.hid (HYes.out (fun i' hi' => HI.out i' (by omega)))
      by_cases h3 : 3 ≤ l.length
      · have f1 : (3 : Int) ≤ (l.length : Int) := by omega
        have HS1 := Lib.hid (show r = true by rw [HS.out]; simpa using h3)
        go_wp2_with fail
        go_ret
        exact ⟨by rw [HS1.out]; first | rfl | simp [h3], hx⟩
      · have f1 : ¬ (3 : Int) ≤ (l.length : Int) := by omega
        have HS1 := Lib.hid (show r = false by rw [HS.out]; simpa using h3)
        go_wp2_with fail
        go_ret
        exact ⟨by rw [HS1.out]; first | rfl | simp [h3], hx⟩
end Go.Proofs.Ytagofpmcbbkmgaa
