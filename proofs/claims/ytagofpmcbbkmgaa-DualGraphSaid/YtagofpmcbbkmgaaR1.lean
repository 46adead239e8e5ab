/- The references' small comparisons: SameInts, SameSegs. -/
import Derived.Test.YtagofpmcbbkmgaaL20
namespace Go.Proofs.Ytagofpmcbbkmgaa
open Go.RowKit Go.Sort

def at1 (l : List Int) (i : Nat) : Int := l.getD i 0
theorem Rd1.open_ {w : World} {A : Option Addr} {xs : List Int} (h : Rd1 w A xs) (h0 : 0 < xs.length) : ∃ b o, A = some ⟨b, o, none⟩ ∧ ∀ j, j < xs.length → w.cell? ⟨b, o + j, none⟩ = some (.int .i64 (at1 xs j)) := by
  rcases h with rfl | ⟨b, o, e, hc⟩
  · simp at h0
  · refine ⟨b, o, e, fun j hj => ?_⟩
    have := hc j _ (List.getElem?_eq_getElem hj)
    simpa [at1, List.getD, List.getElem?_eq_getElem hj] using this
theorem eq_of_at1 {l r : List Int} (hl : l.length = r.length) (h : ∀ j, j < l.length → at1 l j = at1 r j) : l = r := by
  apply List.ext_getElem hl
  intro i h1 h2
  have := h i h1
  simpa [at1, List.getD, List.getElem?_eq_getElem h1, List.getElem?_eq_getElem h2] using this
theorem eq_of_at2 {l r : List (Int × Int)} (hl : l.length = r.length) (h : ∀ j, j < l.length → at2 l j = at2 r j) : l = r := by
  apply List.ext_getElem hl
  intro i h1 h2
  have := h i h1
  simpa [at2, List.getD, List.getElem?_eq_getElem h1, List.getElem?_eq_getElem h2] using this

set_option maxHeartbeats 1000000 in
set_option maxRecDepth 100000 in
theorem sameInts_any (A B : Option Addr) (c d : Nat) (l r : List Int) (w : World) (hl : l.length ≤ 3000000) (hA : Rd1 w A l) (hB : Rd1 w B r) :
    Calls Try.prog 20 #[.slice A l.length c, .slice B r.length d] w fun e w' => e = .returned (.bool (decide (l = r))) ∧ Ext w w' := by
  generalize hbr : decide (l = r) = br
  by_cases hlen : l.length = r.length
  · have f1 : ((l.length : Int) == (r.length : Int)) = true := by simp [hlen]
    have HEq := Lib.hid (show (∀ j, j < l.length → at1 l j = at1 r j) → br = true from fun h => by rw [← hbr, eq_of_at1 hlen h]; simp)
    have HNe := Lib.hid (show ∀ j, at1 l j ≠ at1 r j → br = false from fun j h => by rw [← hbr]; simp; rintro rfl; exact h rfl)
    clear hbr
    go_enter Try.func20, Try.ntmps20
    go_wp2_with fail
    go_loopw [5] (fun i wr => ∃ k : Nat, k ≤ l.length ∧ i = .int .i64 k ∧ Hid (∀ j, j < k → at1 l j = at1 r j) ∧ Ext w wr) (fun i _ => l.length - (intOf i).toNat)
    case atStart => exact ⟨0, Nat.zero_le _, rfl, (show ∀ j, j < 0 → at1 l j = at1 r j from fun j h => absurd h (Nat.not_lt_zero _)), Ext.refl _⟩
    case round =>
      obtain ⟨k, hk, rfl, HN, hx⟩ := hrel
      by_cases hlt : k < l.length
      · have hlt1 : (k : Int) < (l.length : Int) := by omega
        have hlt2 : (k : Int) < (r.length : Int) := by omega
        obtain ⟨b1, o1, rfl, hc1⟩ := (hA.ext hx).open_ (by omega)
        obtain ⟨b2, o2, rfl, hc2⟩ := (hB.ext hx).open_ (by omega)
        have x0 := cell_ext (hc1 k hlt)
        have x1 := cell_ext (hc2 k (by omega))
        clear hc1 hc2 hA hB
        have HK := Lib.hid (show at1 l k = at1 r k → ∀ j, j < k + 1 → at1 l j = at1 r j from fun h j hj => by
          by_cases e : j = k
          · subst e; exact h
          · exact HN.out j (by omega))
        have HKn := Lib.hid (HNe.out k)
        generalize at1 l k = x at *
        generalize at1 r k = y at *
        by_cases hq : x = y
        · have f2 : (x == y) = true := by simpa using hq
          have HK1 := Lib.hid (HK.out hq)
          clear hq
          go_wp2_with fail
          refine wp_region_ext (by kernel_rfl) (by kernel_rfl) ?_
          repeat (go_big_quiet_step ((fail)))
          refine wpQuiet_nil ?_
          intro W1 hW1_
          have hW1 := ext_of hW1_
          clear hW1_
          clear x0 x1
          go_wp2_with fail
          go_roundw
          case rel => exact ⟨k + 1, by omega, by go_num, HK1, hx.trans hW1⟩
          case measure => simp [intOf]; omega
        · have f2 : (x == y) = false := by simpa using hq
          have HK1 := Lib.hid (HKn.out hq)
          clear hq
          go_wp2_with fail
          refine wp_region_ext (by kernel_rfl) (by kernel_rfl) ?_
          repeat (go_big_quiet_step ((fail)))
          refine wpQuiet_nil ?_
          intro W1 hW1_
          have hW1 := ext_of hW1_
          clear hW1_
          clear x0 x1
          go_wp2_with fail
          go_ret
          exact ⟨ret_bool HK1.out.symm, hx.trans hW1⟩
      · have hlt1 : ¬ (k : Int) < (l.length : Int) := by omega
        have HB := Lib.hid (HEq.out (fun j hj => HN.out j (by omega)))
        go_wp2_with fail
        go_ret
        exact ⟨ret_bool HB.out.symm, hx⟩
  · have f1 : ((l.length : Int) == (r.length : Int)) = false := by simp; omega
    have hb : br = false := by rw [← hbr]; simp; rintro rfl; exact hlen rfl
    subst hb
    clear hbr
    go_enter Try.func20, Try.ntmps20
    go_wp2_with fail
    go_ret
    exact ⟨rfl, Ext.refl _⟩

set_option maxHeartbeats 1000000 in
set_option maxRecDepth 100000 in
theorem sameSegs_any (A B : Option Addr) (c d : Nat) (l r : List (Int × Int)) (w : World) (hl : l.length ≤ 3000000) (hA : Rd2 w A l) (hB : Rd2 w B r) :
    Calls Try.prog 31 #[.slice A l.length c, .slice B r.length d] w fun e w' => e = .returned (.bool (decide (l = r))) ∧ Ext w w' := by
  generalize hbr : decide (l = r) = br
  by_cases hlen : l.length = r.length
  · have f1 : ((l.length : Int) == (r.length : Int)) = true := by simp [hlen]
    have HEq := Lib.hid (show (∀ j, j < l.length → at2 l j = at2 r j) → br = true from fun h => by rw [← hbr, eq_of_at2 hlen h]; simp)
    have HNe := Lib.hid (show ∀ j, at2 l j ≠ at2 r j → br = false from fun j h => by rw [← hbr]; simp; rintro rfl; exact h rfl)
    clear hbr
    go_enter Try.func31, Try.ntmps31
    go_wp2_with fail
    go_loopw [5] (fun i wr => ∃ k : Nat, k ≤ l.length ∧ i = .int .i64 k ∧ Hid (∀ j, j < k → at2 l j = at2 r j) ∧ Ext w wr) (fun i _ => l.length - (intOf i).toNat)
    case atStart => exact ⟨0, Nat.zero_le _, rfl, (show ∀ j, j < 0 → at2 l j = at2 r j from fun j h => absurd h (Nat.not_lt_zero _)), Ext.refl _⟩
    case round =>
      obtain ⟨k, hk, rfl, HN, hx⟩ := hrel
      by_cases hlt : k < l.length
      · have hlt1 : (k : Int) < (l.length : Int) := by omega
        have hlt2 : (k : Int) < (r.length : Int) := by omega
        obtain ⟨b1, o1, rfl, hc1⟩ := (hA.ext hx).open_ (by omega)
        obtain ⟨b2, o2, rfl, hc2⟩ := (hB.ext hx).open_ (by omega)
        obtain ⟨c0, c1⟩ := hc1 k hlt
        obtain ⟨d0, d1⟩ := hc2 k (by omega)
        clear hc1 hc2 hA hB
        have HK := Lib.hid (show at2 l k = at2 r k → ∀ j, j < k + 1 → at2 l j = at2 r j from fun h j hj => by
          by_cases e : j = k
          · subst e; exact h
          · exact HN.out j (by omega))
        have HKn := Lib.hid (HNe.out k)
        generalize at2 l k = x at *
        generalize at2 r k = y at *
        obtain ⟨xa, xb⟩ := x
        obtain ⟨ya, yb⟩ := y
        simp only at c0 c1 d0 d1
        have x0 := cell_ext c0
        have x1 := cell_ext c1
        have y0 := cell_ext d0
        have y1 := cell_ext d1
        have he := neqSeg_op (xa, xb) (ya, yb)
        unfold segV at he
        simp only at he
        by_cases hq : (xa, xb) = (ya, yb)
        · rw [show decide ((xa, xb) = (ya, yb)) = true by simpa using hq] at he
          have HK1 := Lib.hid (HK.out hq)
          clear hq
          go_wp2_with fail
          refine wp_region_ext (by kernel_rfl) (by kernel_rfl) ?_
          repeat (go_big_quiet_step ((fail)))
          refine wpQuiet_nil ?_
          intro W1 hW1_
          have hW1 := ext_of hW1_
          clear hW1_
          clear x0 x1 y0 y1
          go_wp2_with fail
          go_roundw
          case rel => exact ⟨k + 1, by omega, by go_num, HK1, hx.trans hW1⟩
          case measure => simp [intOf]; omega
        · rw [show decide ((xa, xb) = (ya, yb)) = false by simpa using hq] at he
          have HK1 := Lib.hid (HKn.out hq)
          clear hq
          go_wp2_with fail
          refine wp_region_ext (by kernel_rfl) (by kernel_rfl) ?_
          repeat (go_big_quiet_step ((fail)))
          refine wpQuiet_nil ?_
          intro W1 hW1_
          have hW1 := ext_of hW1_
          clear hW1_
          clear x0 x1 y0 y1
          go_wp2_with fail
          go_ret
          exact ⟨ret_bool HK1.out.symm, hx.trans hW1⟩
      · have hlt1 : ¬ (k : Int) < (l.length : Int) := by omega
        have HB := Lib.hid (HEq.out (fun j hj => HN.out j (by omega)))
        go_wp2_with fail
        go_ret
        exact ⟨ret_bool HB.out.symm, hx⟩
  · have f1 : ((l.length : Int) == (r.length : Int)) = false := by simp; omega
    have hb : br = false := by rw [← hbr]; simp; rintro rfl; exact hlen rfl
    subst hb
    clear hbr
    go_enter Try.func31, Try.ntmps31
    go_wp2_with fail
    go_ret
    exact ⟨rfl, Ext.refl _⟩
end Go.Proofs.Ytagofpmcbbkmgaa
