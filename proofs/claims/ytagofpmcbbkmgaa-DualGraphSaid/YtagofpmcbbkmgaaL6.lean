/- Slices that are read: of places, segments, triangles, numbers, rows; package pred: Fits, Orient. -/
import Derived.Test.YtagofpmcbbkmgaaL5
namespace Go.Proofs.Ytagofpmcbbkmgaa
open Go.RowKit

/-- The cells of a slice whose elements have two numbers. -/
def Rd2 (w : World) (A : Option Addr) (xs : List (Int × Int)) : Prop :=
  xs = [] ∨ ∃ b o, A = some ⟨b, o, none⟩ ∧ ∀ j x, xs[j]? = some x → w.cell? ⟨b, o + j * 2, none⟩ = some (.int .i64 x.1) ∧ w.cell? ⟨b, o + j * 2 + 1, none⟩ = some (.int .i64 x.2)
/-- .. three numbers. -/
def Rd3 (w : World) (A : Option Addr) (xs : List (Int × Int × Int)) : Prop :=
  xs = [] ∨ ∃ b o, A = some ⟨b, o, none⟩ ∧ ∀ j x, xs[j]? = some x → w.cell? ⟨b, o + j * 3, none⟩ = some (.int .i64 x.1) ∧ w.cell? ⟨b, o + j * 3 + 1, none⟩ = some (.int .i64 x.2.1) ∧ w.cell? ⟨b, o + j * 3 + 2, none⟩ = some (.int .i64 x.2.2)
/-- .. one number. -/
def Rd1 (w : World) (A : Option Addr) (xs : List Int) : Prop :=
  xs = [] ∨ ∃ b o, A = some ⟨b, o, none⟩ ∧ ∀ j x, xs[j]? = some x → w.cell? ⟨b, o + j, none⟩ = some (.int .i64 x)

section
variable {w w' : World} {A : Option Addr}
theorem Rd2.ext {xs : List (Int × Int)} (h : Rd2 w A xs) (hx : Ext w w') : Rd2 w' A xs :=
  h.imp id fun ⟨b, o, e, hc⟩ => ⟨b, o, e, fun j x hj => ⟨hx.cell (hc j x hj).1, hx.cell (hc j x hj).2⟩⟩
theorem Rd3.ext {xs : List (Int × Int × Int)} (h : Rd3 w A xs) (hx : Ext w w') : Rd3 w' A xs :=
  h.imp id fun ⟨b, o, e, hc⟩ => ⟨b, o, e, fun j x hj => ⟨hx.cell (hc j x hj).1, hx.cell (hc j x hj).2.1, hx.cell (hc j x hj).2.2⟩⟩
theorem Rd1.ext {xs : List Int} (h : Rd1 w A xs) (hx : Ext w w') : Rd1 w' A xs :=
  h.imp id fun ⟨b, o, e, hc⟩ => ⟨b, o, e, fun j x hj => hx.cell (hc j x hj)⟩
theorem Rd2.at_ {xs : List (Int × Int)} (h : Rd2 w A xs) {k : Nat} (hk : k < xs.length) : ∃ b o p q, A = some ⟨b, o, none⟩ ∧ xs[k]? = some (p, q) ∧ w.cell? ⟨b, o + k * 2, none⟩ = some (.int .i64 p) ∧ w.cell? ⟨b, o + k * 2 + 1, none⟩ = some (.int .i64 q) := by
  rcases h with rfl | ⟨b, o, e, hc⟩
  · simp at hk
  · exact ⟨b, o, xs[k].1, xs[k].2, e, List.getElem?_eq_getElem hk, hc k _ (List.getElem?_eq_getElem hk)⟩
theorem Rd3.at_ {xs : List (Int × Int × Int)} (h : Rd3 w A xs) {k : Nat} (hk : k < xs.length) : ∃ b o p q r, A = some ⟨b, o, none⟩ ∧ xs[k]? = some (p, q, r) ∧ w.cell? ⟨b, o + k * 3, none⟩ = some (.int .i64 p) ∧ w.cell? ⟨b, o + k * 3 + 1, none⟩ = some (.int .i64 q) ∧ w.cell? ⟨b, o + k * 3 + 2, none⟩ = some (.int .i64 r) := by
  rcases h with rfl | ⟨b, o, e, hc⟩
  · simp at hk
  · exact ⟨b, o, xs[k].1, xs[k].2.1, xs[k].2.2, e, List.getElem?_eq_getElem hk, hc k _ (List.getElem?_eq_getElem hk)⟩
theorem Rd1.at_ {xs : List Int} (h : Rd1 w A xs) {k : Nat} (hk : k < xs.length) : ∃ b o p, A = some ⟨b, o, none⟩ ∧ xs[k]? = some p ∧ w.cell? ⟨b, o + k, none⟩ = some (.int .i64 p) := by
  rcases h with rfl | ⟨b, o, e, hc⟩
  · simp at hk
  · exact ⟨b, o, xs[k], e, List.getElem?_eq_getElem hk, hc k _ (List.getElem?_eq_getElem hk)⟩
end

/-- a number that an int holds -/
def Fit (x : Int) : Prop := -9223372036854775808 ≤ x ∧ x ≤ 9223372036854775807

/-- does a place lie near enough? -/
def fitB (p : Int × Int) : Bool := decide (-4294967296 ≤ p.1) && decide (p.1 ≤ 4294967296) && decide (-4294967296 ≤ p.2) && decide (p.2 ≤ 4294967296)
theorem fitB_iff (p : Int × Int) : fitB p = true ↔ (-4294967296 ≤ p.1 ∧ p.1 ≤ 4294967296) ∧ (-4294967296 ≤ p.2 ∧ p.2 ≤ 4294967296) := by unfold fitB; simp [and_assoc]

theorem all_take_succ {α : Type} (f : α → Bool) (l : List α) (k : Nat) (x : α) (hx : l[k]? = some x) : (l.take (k + 1)).all f = ((l.take k).all f && f x) := by
  rw [List.take_add_one, hx, List.all_append]
  simp
theorem all_false {α : Type} (f : α → Bool) (l : List α) (k : Nat) (x : α) (hx : l[k]? = some x) (h : f x = false) : l.all f = false := by
  rw [List.all_eq_false]
  exact ⟨x, List.mem_of_getElem? hx, by simp [h]⟩

set_option maxHeartbeats 1000000 in
set_option maxRecDepth 100000 in
theorem fits_any (A : Option Addr) (c : Nat) (l : List (Int × Int)) (w : World) (hl : l.length ≤ 1000000) (hR : Rd2 w A l) :
    Calls Try.prog 81 #[.slice A l.length c] w fun e w' => e = .returned (.bool (l.all fitB)) ∧ Ext w w' := by
  go_enter Try.func81, Try.ntmps81
  go_wp2_with fail
  go_loopw [4, 7] (fun _ i wr => ∃ k : Nat, k ≤ l.length ∧ i = .int .i64 k ∧ (l.take k).all fitB = true ∧ Ext w wr) (fun _ i _ => l.length - (intOf i).toNat)
  case atStart => exact ⟨0, Nat.zero_le _, rfl, rfl, Ext.refl _⟩
  case round =>
    obtain ⟨k, hk, rfl, hs, hx⟩ := hrel
    have HS := Lib.hid hs
    clear hs
    by_cases hlt : k < l.length
    · obtain ⟨b, o, px, py, rfl, hg, c0, c1⟩ := (hR.ext hx).at_ hlt
      have HA := Lib.hid (all_take_succ fitB l k _ hg)
      have HF := Lib.hid (all_false fitB l k _ hg)
      clear hg hR
      by_cases hf : fitB (px, py) = true
      · obtain ⟨⟨f1, f2⟩, f3, f4⟩ := (fitB_iff _).1 hf
        simp only at f1 f2 f3 f4
        have HFF := Lib.hid hf
        clear hf
        go_wp2
        go_roundw
        case rel => exact ⟨k + 1, by omega, by go_num, by rw [HA.out, HS.out, HFF.out]; rfl, hx.alloc _⟩
        case measure => simp [intOf]; omega
      · have hff : fitB (px, py) = false := by simpa using hf
        have HB := Lib.hid (HF.out hff)
        have hn : ¬ ((-4294967296 ≤ px ∧ px ≤ 4294967296) ∧ (-4294967296 ≤ py ∧ py ≤ 4294967296)) := fun h => hf ((fitB_iff _).2 h)
        have hd : px < -4294967296 ∨ (-4294967296 ≤ px ∧ 4294967296 < px) ∨ (-4294967296 ≤ px ∧ px ≤ 4294967296 ∧ py < -4294967296) ∨ (-4294967296 ≤ px ∧ px ≤ 4294967296 ∧ -4294967296 ≤ py ∧ 4294967296 < py) := by omega
        clear hff hf hn
        rcases hd with f1 | ⟨f1, f2⟩ | ⟨f1, f2, f3⟩ | ⟨f1, f2, f3, f4⟩
        all_goals
          go_wp2
          go_ret
          exact ⟨ret_bool HB.out.symm, hx.alloc _⟩
    · go_wp2
      go_ret
      exact ⟨ret_bool (by have := HS.out; rw [List.take_of_length_le (by omega)] at this; exact this.symm), hx⟩

/-- Orient, of places anywhere. -/
def orientP (a b c : Int × Int) : Int := if fitB a && fitB b && fitB c then orientI a.1 a.2 b.1 b.2 c.1 c.2 else 0

theorem rd2_3 (w : World) (B : Nat) (a b c : Int × Int) (h0 : w.cell? ⟨B, 0, none⟩ = some (.int .i64 a.1)) (h1 : w.cell? ⟨B, 1, none⟩ = some (.int .i64 a.2)) (h2 : w.cell? ⟨B, 2, none⟩ = some (.int .i64 b.1)) (h3 : w.cell? ⟨B, 3, none⟩ = some (.int .i64 b.2)) (h4 : w.cell? ⟨B, 4, none⟩ = some (.int .i64 c.1)) (h5 : w.cell? ⟨B, 5, none⟩ = some (.int .i64 c.2)) :
    Rd2 w (some ⟨B, 0, none⟩) [a, b, c] := by
  refine Or.inr ⟨B, 0, rfl, fun j x hj => ?_⟩
  match j, hj with
  | 0, hj => simp at hj; subst hj; exact ⟨h0, h1⟩
  | 1, hj => simp at hj; subst hj; exact ⟨h2, h3⟩
  | 2, hj => simp at hj; subst hj; exact ⟨h4, h5⟩
  | n + 3, hj => simp at hj

theorem fits3 (B c : Nat) (p q r : Int × Int) (w : World) (h : Rd2 w (some ⟨B, 0, none⟩) [p, q, r]) :
    Calls Try.prog 81 #[.slice (some ⟨B, 0, none⟩) 3 c] w fun e w' => e = .returned (.bool (fitB p && fitB q && fitB r)) ∧ Ext w w' := by
  refine (fits_any _ c [p, q, r] w (by simp) h).mono ?_
  rintro e w' ⟨rfl, hx⟩
  exact ⟨ret_bool (by simp [Bool.and_assoc]), hx⟩

set_option maxHeartbeats 1000000 in
set_option maxRecDepth 100000 in
theorem orient_any (ax ay bx by_ cx cy : Int) (w : World) :
    Calls Try.prog 61 #[.agg #[.int .i64 ax, .int .i64 ay], .agg #[.int .i64 bx, .int .i64 by_], .agg #[.int .i64 cx, .int .i64 cy]] w fun e w' => e = .returned (.int .i64 (orientP (ax, ay) (bx, by_) (cx, cy))) ∧ Ext w w' := by
  have hin : (fitB (ax, ay) && fitB (bx, by_) && fitB (cx, cy)) = true → ∀ W, Calls Try.prog 82 #[.agg #[.int .i64 ax, .int .i64 ay], .agg #[.int .i64 bx, .int .i64 by_], .agg #[.int .i64 cx, .int .i64 cy]] W fun e w' => e = .returned (.int .i64 (orientI ax ay bx by_ cx cy)) ∧ Ext W w' := fun h W => by
    rw [Bool.and_eq_true, Bool.and_eq_true, fitB_iff, fitB_iff, fitB_iff] at h
    obtain ⟨⟨⟨a1, a2⟩, b1, b2⟩, c1, c2⟩ := h
    exact orient_in ax ay bx by_ cx cy W a1 a2 b1 b2 c1 c2
  have hft := fun (B c : Nat) (W : World) => fits3 B c (ax, ay) (bx, by_) (cx, cy) W
  unfold orientP
  generalize (fitB (ax, ay) && fitB (bx, by_) && fitB (cx, cy)) = f at *
  generalize orientI ax ay bx by_ cx cy = r at *
  have HF := Lib.hid hft
  have HI := Lib.hid hin
  clear hft hin
  cases f
  all_goals
    go_enter Try.func61, Try.ntmps61
    go_wp2_with fail
    refine (HF.out _ _ _ (rd2_3 _ _ _ _ _ (by simp [go_sem]) (by simp [go_sem]) (by simp [go_sem]) (by simp [go_sem]) (by simp [go_sem]) (by simp [go_sem]))).mono ?_
    rintro e W1 ⟨rfl, hW1⟩
    have hx := ((((Ext.refl w).alloc _).alloc _).alloc _).alloc _ |>.trans hW1
    have c0 := hW1.cell (p := ⟨w.heap.size, 0, none⟩) (v := .int .i64 ax) (by simp [go_sem])
    have c1 := hW1.cell (p := ⟨w.heap.size, 1, none⟩) (v := .int .i64 ay) (by simp [go_sem])
    have c2 := hW1.cell (p := ⟨w.heap.size + 1, 0, none⟩) (v := .int .i64 bx) (by simp [go_sem])
    have c3 := hW1.cell (p := ⟨w.heap.size + 1, 1, none⟩) (v := .int .i64 by_) (by simp [go_sem])
    have c4 := hW1.cell (p := ⟨w.heap.size + 1 + 1, 0, none⟩) (v := .int .i64 cx) (by simp [go_sem])
    have c5 := hW1.cell (p := ⟨w.heap.size + 1 + 1, 1, none⟩) (v := .int .i64 cy) (by simp [go_sem])
    go_wp2_with fail
  · go_ret
    exact ⟨rfl, hx⟩
  · refine (HI.out trivial _).mono ?_
    rintro e W2 ⟨rfl, hW2⟩
    go_wp2_with fail
    go_ret
    exact ⟨rfl, hx.trans hW2⟩
end Go.Proofs.Ytagofpmcbbkmgaa
