/- The references' numbers (parquetref01): what a value is; trim, Sign, Neg, digit. -/
import Derived.Test.YtagofpmcbbkmgaaR2
namespace Go.Proofs.Ytagofpmcbbkmgaa
open Go.RowKit Go.Sort

def val : List Int → Int
  | [] => 0
  | x :: l => x + 65536 * val l
def Dig (l : List Int) : Prop := ∀ x ∈ l, 0 ≤ x ∧ x < 65536
def canon (l : List Int) : Prop := l = [] ∨ at1 l (l.length - 1) ≠ 0
/-- v is the number z, of K digits at most. -/
def NumR (w : World) (v : Value) (z : Int) (K : Nat) : Prop :=
  ∃ m A c l, v = .agg #[.bool m, .slice A l.length c] ∧ Rd1 w A l ∧ Dig l ∧ canon l ∧ (m = true → l ≠ []) ∧ z = (if m then -val l else val l) ∧ l.length ≤ K
theorem NumR.ext {w w' : World} {v : Value} {z : Int} {K : Nat} (h : NumR w v z K) (hx : Ext w w') : NumR w' v z K := by
  obtain ⟨m, A, c, l, hv, hr, r⟩ := h
  exact ⟨m, A, c, l, hv, hr.ext hx, r⟩
theorem val_append : ∀ a b : List Int, val (a ++ b) = val a + 65536 ^ a.length * val b
  | [], b => by simp [val]
  | x :: a, b => by
    simp only [List.cons_append, val, val_append a b, List.length_cons, Int.pow_succ]
    rw [Int.mul_add, ← Int.mul_assoc, Int.mul_comm (65536 ^ a.length) 65536, Int.add_assoc]
theorem take_at1 (l : List Int) (n : Nat) (h : n < l.length) : l.take (n + 1) = l.take n ++ [at1 l n] := by
  rw [List.take_add_one]
  simp [at1, List.getD, List.getElem?_eq_getElem h]
theorem val_take_zero (l : List Int) (n : Nat) (h : n < l.length) (h0 : at1 l n = 0) : val (l.take (n + 1)) = val (l.take n) := by
  rw [take_at1 l n h, val_append, h0]; simp [val]
theorem Rd1.take {w : World} {A : Option Addr} {l : List Int} (h : Rd1 w A l) (n : Nat) : Rd1 w A (l.take n) := by
  rcases h with rfl | ⟨b, o, rfl, hc⟩
  · exact Or.inl (by simp)
  · refine Or.inr ⟨b, o, rfl, fun j x hj => hc j x ?_⟩
    rw [List.getElem?_take] at hj
    split at hj
    · exact hj
    · cases hj
theorem Dig.take {l : List Int} (h : Dig l) (n : Nat) : Dig (l.take n) := fun x hx => h x (List.mem_of_mem_take hx)
theorem at1_take (l : List Int) (n j : Nat) (h : j < n) : at1 (l.take n) j = at1 l j := by
  unfold at1
  rw [List.getD_eq_getElem?_getD, List.getD_eq_getElem?_getD, List.getElem?_take, if_pos h]

set_option maxHeartbeats 1000000 in
set_option maxRecDepth 100000 in
theorem trim_any (m : Bool) (A : Option Addr) (c : Nat) (l : List Int) (K : Nat) (w : World) (hK : K ≤ 1000000) (hl : l.length ≤ K) (hc : l.length ≤ c) (hR : Rd1 w A l) (hD : Dig l) :
    Calls Try.prog 48 #[.bool m, .slice A l.length c] w fun e w' => (∃ v, e = .returned v ∧ NumR w' v (if m then -val l else val l) K) ∧ Ext w w' := by
  have HD := Lib.hid hD
  clear hD
  generalize hzz : (if m then -val l else val l) = z
  have HZZ := Lib.hid hzz
  clear hzz
  go_enter Try.func48, Try.ntmps48
  go_wp2_with fail
  go_loopw [5] (fun i wr => ∃ n : Nat, n ≤ l.length ∧ i = .int .i64 n ∧ Hid (val (l.take n) = val l) ∧ Ext w wr ∧ wr = w.alloc (.cells #[.bool false, .slice none 0 0] 50)) (fun i _ => (intOf i).toNat)
  case atStart => exact ⟨l.length, Nat.le_refl _, rfl, (by rw [List.take_length] : val (l.take l.length) = val l), (Ext.refl _).alloc _, rfl⟩
  case round =>
    obtain ⟨n, hn, rfl, HV, hx, hwr⟩ := hrel
    subst hwr
    by_cases h0 : n = 0
    · subst h0
      have hv0 : val l = 0 := by have := HV.out; simp [val] at this; exact this.symm
      have HV0 := Lib.hid hv0
      clear hv0
      have HF : Hid (∀ W, NumR W (.agg #[.bool false, .slice A 0 c]) z K) := Lib.hid (fun W => ⟨false, A, c, [], rfl, Or.inl rfl, (fun x h => by cases h), Or.inl rfl, (fun h => by cases h), (by
        rw [← HZZ.out, HV0.out]; simp [val]), Nat.zero_le _⟩)
      cases m <;> (
        go_wp2_with fail
        exact bodyPost_ret (v := .agg #[.bool false, .slice A 0 c]) (by simp [results, Try.results48, go_sem]) rfl ⟨⟨_, rfl, HF.out _⟩, (Ext.refl _).alloc _⟩)
    · obtain ⟨b, o, hA, hc1⟩ := hR.open_ (by omega)
      have x0 := hx.cell (hc1 (n - 1) (by omega))
      clear hc1
      have HR := Lib.hid hR
      clear hR
      have e1 : IntKind.i64.wrap ((n : Int) - 1) = (n : Int) - 1 := IntWalk.i64_in _ (by omega)
      have e2 : ((n : Int) - 1).toNat = n - 1 := by omega
      have e3 : 0 ≤ (n : Int) - 1 := by omega
      have e4 : (n : Int) - 1 < (l.length : Int) := by omega
      have e5 : (0 : Int) < (n : Int) := by omega
      have e6 : (n : Int) ≤ (l.length : Int) := by omega
      have e7 : (n : Int) ≤ (c : Int) := by omega
      by_cases hz : at1 l (n - 1) = 0
      · have HS := Lib.hid (show val (l.take (n - 1)) = val l by
          have h1 := HV.out
          rw [show n = n - 1 + 1 by omega, val_take_zero l (n - 1) (by omega) hz] at h1
          exact h1)
        rw [hz] at x0
        clear hz
        subst hA
        go_wp2_with fail
        go_roundw
        case rel => exact ⟨n - 1, by omega, by go_num, HS, hx, by first | trivial | rfl⟩
        case measure => simp [intOf]; omega
      · have HZ := Lib.hid hz
        have hz1 : (at1 l (n - 1) == 0) = false := by simpa using hz
        generalize hy : at1 l (n - 1) = y at *
        have HY := Lib.hid hy
        clear hz hy
        subst hA
        have hlt : (l.take n).length = n := by simp; omega
        have HF : Hid (∀ W, Rd1 W (some ⟨b, o, none⟩) l → NumR W (.agg #[.bool m, .slice (some ⟨b, o, none⟩) n c]) z K) := Lib.hid (fun W h => ⟨m, _, c, l.take n, by rw [hlt], h.take n, HD.out.take n, Or.inr (by
          rw [hlt, at1_take l n (n - 1) (by omega)]; exact HY.out ▸ HZ.out), (fun _ h' => by rw [h'] at hlt; simp at hlt; omega), (by
          rw [HV.out]; exact HZZ.out.symm), by omega⟩)
        cases m <;> (
          go_wp2_with fail
          refine bodyPost_ret (v := .agg #[.bool _, .slice (some ⟨b, o, none⟩) n c]) (by simp [results, Try.results48, go_sem]) rfl ⟨⟨_, rfl, HF.out _ (HR.out.ext ((Ext.refl _).alloc _))⟩, (Ext.refl _).alloc _⟩)

theorem val_nonneg : ∀ l : List Int, Dig l → 0 ≤ val l
  | [], _ => Int.le_refl _
  | x :: l, h => by
    have h1 := h x (by simp)
    have h2 := val_nonneg l (fun y hy => h y (by simp [hy]))
    simp only [val]; omega
theorem canon_tail {x : Int} {l : List Int} (h : canon (x :: l)) (hl : l ≠ []) : canon l := by
  rcases h with h | h
  · cases h
  · refine Or.inr ?_
    have : 0 < l.length := List.length_pos_iff.2 hl
    rw [show (x :: l).length - 1 = (l.length - 1) + 1 by simp; omega] at h
    simpa [at1] using h
theorem val_pos : ∀ l : List Int, Dig l → canon l → l ≠ [] → 0 < val l
  | [], _, _, h => absurd rfl h
  | x :: l, hd, hc, _ => by
    have h1 := hd x (by simp)
    by_cases hl : l = []
    · subst hl
      rcases hc with hc | hc
      · cases hc
      · simp [at1] at hc
        simp only [val]; omega
    · have h2 := val_pos l (fun y hy => hd y (by simp [hy])) (canon_tail hc hl) hl
      simp only [val]; omega
def sgnI (z : Int) : Int := if z < 0 then -1 else if z = 0 then 0 else 1

set_option maxHeartbeats 1000000 in
set_option maxRecDepth 100000 in
theorem Sign_any (v : Value) (z : Int) (K : Nat) (w : World) (h : NumR w v z K) (hK : K ≤ 1000000) :
    Calls Try.prog 51 #[v] w fun e w' => e = .returned (.int .i64 (sgnI z)) ∧ Ext w w' := by
  obtain ⟨m, A, c, l, rfl, hr, hd, hc, hm, hz, hl⟩ := h
  generalize hs : sgnI z = s
  by_cases h0 : l = []
  · subst h0
    have hm0 : m = false := by cases m with | false => rfl | true => exact absurd rfl (hm rfl)
    subst hm0
    have : s = 0 := by rw [← hs, hz]; simp [sgnI, val]
    subst this
    clear hs hz hr hd hc hm hl
    go_enter Try.func51, Try.ntmps51
    go_wp2_with fail
    go_ret
    exact ⟨rfl, (Ext.refl _).alloc _⟩
  · have hp := val_pos l hd hc h0
    have hlp : 0 < l.length := List.length_pos_iff.2 h0
    have f1 : ((l.length : Int) == 0) = false := by simp; exact h0
    cases m with
    | true =>
      have : s = -1 := by rw [← hs, hz]; unfold sgnI; simp; omega
      subst this
      clear hs hz hr hd hc hm hp
      go_enter Try.func51, Try.ntmps51
      go_wp2_with fail
      go_ret
      exact ⟨rfl, (Ext.refl _).alloc _⟩
    | false =>
      have : s = 1 := by rw [← hs, hz]; unfold sgnI; simp; omega
      subst this
      clear hs hz hr hd hc hm hp
      go_enter Try.func51, Try.ntmps51
      go_wp2_with fail
      go_ret
      exact ⟨rfl, (Ext.refl _).alloc _⟩

set_option maxHeartbeats 1000000 in
set_option maxRecDepth 100000 in
theorem Neg_any (v : Value) (z : Int) (K : Nat) (w : World) (h : NumR w v z K) (hK : K ≤ 1000000) :
    Calls Try.prog 50 #[v] w fun e w' => (∃ v', e = .returned v' ∧ NumR w' v' (-z) K) ∧ Ext w w' := by
  obtain ⟨m, A, c, l, rfl, hr, hd, hc, hm, hz, hl⟩ := h
  by_cases h0 : l = []
  · subst h0
    have hm0 : m = false := by cases m with | false => rfl | true => exact absurd rfl (hm rfl)
    subst hm0
    have HF : Hid (∀ W, NumR W (.agg #[.bool false, .slice A 0 c]) (-z) K) := Lib.hid (fun W => ⟨false, A, c, [], rfl, Or.inl rfl, (fun x h => by cases h), Or.inl rfl, (fun h => by cases h), (by rw [hz]; simp [val]), Nat.zero_le _⟩)
    clear hz hr hd hc hm hl
    go_enter Try.func50, Try.ntmps50
    go_wp2_with fail
    exact bodyPost_ret (v := .agg #[.bool false, .slice A 0 c]) (by simp [results, Try.results50, go_sem]) rfl ⟨⟨_, rfl, HF.out _⟩, ((Ext.refl _).alloc _).alloc _⟩
  · have hlp : 0 < l.length := List.length_pos_iff.2 h0
    have f2 : (0 : Int) < (l.length : Int) := by omega
    have HF : Hid (∀ W, Rd1 W A l → NumR W (.agg #[.bool (!m), .slice A l.length c]) (-z) K) := Lib.hid (fun W h => ⟨!m, A, c, l, rfl, h, hd, hc, (fun _ => h0), (by rw [hz]; cases m <;> simp), hl⟩)
    have HR := Lib.hid hr
    clear hz hr hd hc hm
    cases m <;> (
      go_enter Try.func50, Try.ntmps50
      go_wp2_with fail
      exact bodyPost_ret (v := .agg #[.bool _, .slice A l.length c]) (by simp [results, Try.results50, go_sem]) rfl ⟨⟨_, rfl, HF.out _ (HR.out.ext (((Ext.refl _).alloc _).alloc _))⟩, ((Ext.refl _).alloc _).alloc _⟩)

set_option maxHeartbeats 1000000 in
set_option maxRecDepth 100000 in
theorem digit_any (A : Option Addr) (c : Nat) (l : List Int) (i : Nat) (w : World) (hl : l.length ≤ 1000000) (hR : Rd1 w A l) :
    Calls Try.prog 47 #[.slice A l.length c, .int .i64 i] w fun e w' => e = .returned (.int .i64 (at1 l i)) ∧ w' = w := by
  by_cases h : i < l.length
  · obtain ⟨b, o, rfl, hc⟩ := hR.open_ (by omega)
    have x0 := hc i h
    generalize at1 l i = x at *
    clear hc hR
    have h1 : (i : Int) < (l.length : Int) := by omega
    go_enter Try.func47, Try.ntmps47
    go_wp2_with fail
    go_ret
    exact ⟨rfl, rfl⟩
  · have hx : at1 l i = 0 := by unfold at1; rw [List.getD_eq_getElem?_getD, List.getElem?_eq_none (by omega)]; rfl
    rw [hx]
    have h1 : ¬ (i : Int) < (l.length : Int) := by omega
    clear hx
    go_enter Try.func47, Try.ntmps47
    go_wp2_with fail
    go_ret
    exact ⟨rfl, rfl⟩
end Go.Proofs.Ytagofpmcbbkmgaa
