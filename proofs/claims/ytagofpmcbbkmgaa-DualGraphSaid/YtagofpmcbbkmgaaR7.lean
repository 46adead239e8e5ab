/- parquetref01: size. -/
import Derived.Test.YtagofpmcbbkmgaaR6
namespace Go.Proofs.Ytagofpmcbbkmgaa
open Go.RowKit Go.Sort

theorem pow_pos (n : Nat) : (0 : Int) < 65536 ^ n := Int.pow_pos (by decide)
theorem val_lt : ∀ l : List Int, Dig l → val l < 65536 ^ l.length
  | [], _ => by simp [val]
  | x :: l, h => by
    have h1 := h x (by simp)
    have h2 := val_lt l (fun y hy => h y (by simp [hy]))
    simp only [val, List.length_cons, Int.pow_succ]
    omega
theorem val_ge : ∀ l : List Int, Dig l → canon l → l ≠ [] → 65536 ^ (l.length - 1) ≤ val l
  | [], _, _, h => absurd rfl h
  | x :: l, hd, hc, _ => by
    have h1 := hd x (by simp)
    by_cases hl : l = []
    · subst hl
      rcases hc with hc | hc
      · cases hc
      · simp [at1] at hc
        simp [val]; omega
    · have h2 := val_ge l (fun y hy => hd y (by simp [hy])) (canon_tail hc hl) hl
      have : 0 < l.length := List.length_pos_iff.2 hl
      simp only [val, List.length_cons]
      rw [show l.length + 1 - 1 = (l.length - 1) + 1 by omega, Int.pow_succ]
      omega
theorem pow_mono {a b : Nat} (h : a ≤ b) : (65536 : Int) ^ a ≤ 65536 ^ b := by
  induction h with
  | refl => exact Int.le_refl _
  | step _ ih => rw [Int.pow_succ]; have := pow_pos a; omega
theorem val_shorter {l r : List Int} (hl : Dig l) (hr : Dig r) (hc : canon r) (h : l.length < r.length) : val l < val r := by
  have h1 := val_lt l hl
  have h2 := val_ge r hr hc (by intro e; subst e; simp at h)
  have h3 := pow_mono (show l.length ≤ r.length - 1 by omega)
  omega
theorem val_split (l : List Int) (i : Nat) (h : i < l.length) : val l = val (l.take i) + 65536 ^ i * (at1 l i + 65536 * val (l.drop (i + 1))) := by
  have h1 : l = l.take i ++ (at1 l i :: l.drop (i + 1)) := by
    have : at1 l i = l[i] := by simp [at1, List.getD, List.getElem?_eq_getElem h]
    rw [this, ← List.drop_eq_getElem_cons h, List.take_append_drop]
  have h2 : (l.take i).length = i := by simp; omega
  have h3 := val_append (l.take i) (at1 l i :: l.drop (i + 1))
  rw [← h1, h2] at h3
  exact h3
theorem val_top {l r : List Int} (hl : Dig l) (hr : Dig r) {i : Nat} (h1 : i < l.length) (h2 : i < r.length) (ht : l.drop (i + 1) = r.drop (i + 1)) (hi : at1 l i < at1 r i) : val l < val r := by
  rw [val_split l i h1, val_split r i h2, ht]
  have b1 := val_lt (l.take i) (hl.take i)
  have b2 := val_nonneg (r.take i) (hr.take i)
  have b0 := val_nonneg (l.take i) (hl.take i)
  rw [show (l.take i).length = i by simp; omega] at b1
  generalize val (r.drop (i + 1)) = t
  generalize (65536 : Int) ^ i = p at *
  have h3 : p * (at1 l i + 65536 * t + 1) ≤ p * (at1 r i + 65536 * t) := Int.mul_le_mul_of_nonneg_left (by omega) (by omega)
  have h4 : p * (at1 l i + 65536 * t + 1) = p * (at1 l i + 65536 * t) + p := by rw [Int.mul_add p (at1 l i + 65536 * t) 1, Int.mul_one]
  omega

theorem drop_at1 {l r : List Int} (hl : l.length = r.length) {i : Nat} (h : i < l.length) (ht : l.drop (i + 1) = r.drop (i + 1)) (he : at1 l i = at1 r i) : l.drop i = r.drop i := by
  have e1 : at1 l i = l[i] := by simp [at1, List.getD, List.getElem?_eq_getElem h]
  have e2 : at1 r i = r[i] := by simp [at1, List.getD, List.getElem?_eq_getElem (show i < r.length by omega)]
  rw [List.drop_eq_getElem_cons h, List.drop_eq_getElem_cons (show i < r.length by omega), ht, ← e1, ← e2, he]

set_option maxHeartbeats 1000000 in
set_option maxRecDepth 100000 in
theorem size_any' (A B : Option Addr) (c d : Nat) (l r : List Int) (w : World) (hl : l.length ≤ 1000000) (hr : r.length ≤ 1000000) (hA : Rd1 w A l) (hB : Rd1 w B r) (dl : Dig l) (dr : Dig r) (cl : canon l) (cr : canon r) :
    Calls Try.prog 49 #[.slice A l.length c, .slice B r.length d] w fun e w' => (∃ s, e = .returned (.int .i64 s) ∧ (s < 0 ↔ val l < val r)) ∧ Ext w w' := by
  by_cases hlen : l.length = r.length
  · have hlen' := hlen
    have f1 : ((l.length : Int) == (r.length : Int)) = true := by simp [hlen]
    have HLt := Lib.hid (show ∀ i, i < l.length → l.drop (i + 1) = r.drop (i + 1) → at1 l i ≠ at1 r i → (at1 l i - at1 r i < 0 ↔ val l < val r) from fun i hi ht hne => by
      constructor
      · intro h; exact val_top dl dr hi (by omega) ht (by omega)
      · intro h
        rcases Int.lt_trichotomy (at1 l i) (at1 r i) with h1 | h1 | h1
        · omega
        · exact absurd h1 hne
        · have := val_top dr dl (by omega) hi ht.symm h1; omega)
    have HEq := Lib.hid (show l.drop 0 = r.drop 0 → ((0 : Int) < 0 ↔ val l < val r) from fun h => by
      rw [List.drop_zero, List.drop_zero] at h; subst h; omega)
    have HDr := Lib.hid (fun i (h : i < l.length) => drop_at1 hlen h)
    have HB := Lib.hid (fun i => (show i < l.length → 0 ≤ at1 l i ∧ at1 l i < 65536 from fun h => dl _ (by
      have e1 : at1 l i = l[i] := by simp [at1, List.getD, List.getElem?_eq_getElem h]
      rw [e1]; exact List.getElem_mem h)))
    have HB2 := Lib.hid (fun i => (show i < r.length → 0 ≤ at1 r i ∧ at1 r i < 65536 from fun h => dr _ (by
      have e1 : at1 r i = r[i] := by simp [at1, List.getD, List.getElem?_eq_getElem h]
      rw [e1]; exact List.getElem_mem h)))
    have HTop := Lib.hid (show l.drop l.length = r.drop l.length by rw [hlen, List.drop_length, ← hlen, List.drop_length])
    clear dl dr cl cr hlen
    have HLr := Lib.hid hlen'
    clear hlen'
    go_enter Try.func49, Try.ntmps49
    go_wp2_with fail
    go_loopw [5] (fun i wr => ∃ k : Nat, k ≤ l.length ∧ i = .int .i64 ((k : Int) - 1) ∧ Hid (l.drop k = r.drop k) ∧ Ext w wr) (fun i _ => (intOf i + 1).toNat)
    case atStart => exact ⟨l.length, Nat.le_refl _, rfl, HTop, Ext.refl _⟩
    case round =>
      obtain ⟨k, hk, rfl, HN, hx⟩ := hrel
      by_cases h0 : k = 0
      · subst h0
        have HF := Lib.hid (HEq.out HN.out)
        go_wp2_with fail
        go_ret
        exact ⟨⟨0, rfl, HF.out⟩, hx⟩
      · obtain ⟨b1, o1, rfl, hc1⟩ := (hA.ext hx).open_ (by omega)
        obtain ⟨b2, o2, rfl, hc2⟩ := (hB.ext hx).open_ (by have := HLr.out; omega)
        have hkr : k ≤ r.length := by have := HLr.out; omega
        have X0 := Lib.hid (hc1 (k - 1) (by omega))
        have X1 := Lib.hid (hc2 (k - 1) (by omega))
        have x0 := cell_ext X0.out
        have x1 := cell_ext X1.out
        clear hc1 hc2 hA hB
        have hd1 := HN.out
        have hd2 : l.drop (k - 1 + 1) = r.drop (k - 1 + 1) := by rw [show k - 1 + 1 = k by omega]; exact hd1
        have HS := Lib.hid (HDr.out (k - 1) (by omega) hd2)
        have HL := Lib.hid (HLt.out (k - 1) (by omega) hd2)
        have b1' := HB.out (k - 1) (by omega)
        have b2' := HB2.out (k - 1) (by omega)
        clear hd1 hd2
        generalize at1 l (k - 1) = x at *
        generalize at1 r (k - 1) = y at *
        have e2 : ((k : Int) - 1).toNat = k - 1 := by omega
        have e3 : 0 ≤ (k : Int) - 1 := by omega
        have e4 : (k : Int) - 1 < (l.length : Int) := by omega
        have e5 : (k : Int) - 1 < (r.length : Int) := by omega
        by_cases hq : x = y
        · have f2 : (x == y) = true := by simpa using hq
          have HS1 := Lib.hid (HS.out hq)
          clear hq
          go_wp2_with fail
          refine wp_region_ext (by kernel_rfl) (by kernel_rfl) ?_
          repeat (go_big_quiet_step ((fail)))
          refine wpQuiet_nil ?_
          intro W1 hW1_
          have hW1 := ext_of hW1_
          clear hW1_
          clear x0 x1
          go_wp2_with fail
          go_roundw
          case rel => exact ⟨k - 1, by omega, by go_num, HS1, hx.trans hW1⟩
          case measure => simp [intOf]; omega
        · have f2 : (x == y) = false := by simpa using hq
          have HL1 := Lib.hid (HL.out hq)
          have ew : IntKind.i64.wrap (x - y) = x - y := IntWalk.i64_in _ (by omega)
          clear hq
          go_wp2_with fail
          refine wp_region_ext (by kernel_rfl) (by kernel_rfl) ?_
          repeat (go_big_quiet_step ((fail)))
          refine wpQuiet_nil ?_
          intro W1 hW1_
          have hW1 := ext_of hW1_
          clear hW1_
          clear x0 x1
          have x0 := cell_ext (hW1.cell X0.out)
          have x1 := cell_ext (hW1.cell X1.out)
          go_wp2_with fail
          refine wp_region_ext (by kernel_rfl) (by kernel_rfl) ?_
          repeat (go_big_quiet_step ((fail)))
          refine wpQuiet_nil ?_
          intro W2 hW2_
          have hW2 := ext_of hW2_
          clear hW2_
          clear x0 x1
          go_wp2_with fail
          go_ret
          exact ⟨⟨_, rfl, HL1.out⟩, (hx.trans hW1).trans hW2⟩
  · have f1 : ((l.length : Int) == (r.length : Int)) = false := by simp; omega
    have HF := Lib.hid (show ((l.length : Int) - (r.length : Int) < 0 ↔ val l < val r) by
      constructor
      · intro h; exact val_shorter dl dr cr (by omega)
      · intro h
        by_cases h1 : l.length < r.length
        · omega
        · have := val_shorter dr dl cl (by omega); omega)
    clear hA hB dl dr cl cr
    go_enter Try.func49, Try.ntmps49
    go_wp2_with fail
    go_ret
    exact ⟨⟨_, rfl, HF.out⟩, Ext.refl _⟩
end Go.Proofs.Ytagofpmcbbkmgaa
