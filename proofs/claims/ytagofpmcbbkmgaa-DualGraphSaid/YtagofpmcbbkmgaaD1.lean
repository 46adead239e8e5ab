/- parquetref12: Sides, Has, Left, before. -/
import Derived.Test.YtagofpmcbbkmgaaR14
namespace Go.Proofs.Ytagofpmcbbkmgaa
open Go.RowKit Go.Sort

theorem rd2_3a (w : World) (t : TypeId) (a b c : Int × Int) : Rd2 (w.alloc (.cells #[.int .i64 a.1, .int .i64 a.2, .int .i64 b.1, .int .i64 b.2, .int .i64 c.1, .int .i64 c.2] t)) (some ⟨w.heap.size, 0, none⟩) [a, b, c] := by
  refine Or.inr ⟨_, _, rfl, ?_⟩
  intro j x hj
  match j, hj with
  | 0, hj => simp at hj; subst hj; simp [go_sem]
  | 1, hj => simp at hj; subst hj; simp [go_sem]
  | 2, hj => simp at hj; subst hj; simp [go_sem]
  | n + 3, hj => simp at hj

set_option maxHeartbeats 1000000 in
set_option maxRecDepth 100000 in
theorem Sides12_any (a b c : Int) (w : World) :
    Calls Try.prog 30 #[.agg #[.int .i64 a, .int .i64 b, .int .i64 c]] w fun e w' => (∃ B, e = .returned (.slice (some ⟨B, 0, none⟩) 3 3) ∧ Rd2 w' (some ⟨B, 0, none⟩) [(a, b), (b, c), (c, a)]) ∧ Ext w w' := by
  go_enter Try.func30, Try.ntmps30
  go_wp2_with fail
  go_ret
  refine ⟨⟨w.heap.size + 1, rfl, ?_⟩, ((Ext.refl _).alloc _).alloc _⟩
  have := rd2_3a (w.alloc (.cells #[.int .i64 a, .int .i64 b, .int .i64 c] 36)) 39 (a, b) (b, c) (c, a)
  simp only [World.size_alloc] at this
  exact this

/-- is a segment between two places, in one direction or the other? -/
def hasS (a b : Int) (s : Int × Int) : Bool := s.1 == a && s.2 == b || s.1 == b && s.2 == a
def hasB (l : List (Int × Int)) (a b : Int) : Bool := l.any (hasS a b)
theorem hasB_none {l : List (Int × Int)} {a b : Int} (h : ∀ j, j < l.length → hasS a b (at2 l j) = false) : hasB l a b = false := by
  unfold hasB
  rw [List.any_eq_false]
  intro x hx
  obtain ⟨j, hj⟩ := List.getElem?_of_mem hx
  have hjl := (List.getElem?_eq_some_iff.1 hj).1
  have := h j hjl
  rw [at2_get hjl] at hj
  rw [Option.some.inj hj] at this
  simp [this]
theorem hasB_some {l : List (Int × Int)} {a b : Int} {j : Nat} (hj : j < l.length) (h : hasS a b (at2 l j) = true) : hasB l a b = true := by
  unfold hasB
  rw [List.any_eq_true]
  exact ⟨_, List.mem_of_getElem? (at2_get hj), h⟩

set_option maxHeartbeats 2000000 in
set_option maxRecDepth 100000 in
theorem Has12_any (A : Option Addr) (c : Nat) (l : List (Int × Int)) (a b : Int) (w : World) (hl : l.length ≤ 1000000) (hR : Rd2 w A l) :
    Calls Try.prog 41 #[.slice A l.length c, .int .i64 a, .int .i64 b] w fun e w' => e = .returned (.bool (hasB l a b)) ∧ Ext w w' := by
  generalize hr : hasB l a b = r
  have HNo := Lib.hid (show (∀ j, j < l.length → hasS a b (at2 l j) = false) → r = false from fun h => by rw [← hr]; exact hasB_none h)
  have HYes := Lib.hid (show ∀ j, j < l.length → hasS a b (at2 l j) = true → r = true from fun j h1 h2 => by rw [← hr]; exact hasB_some h1 h2)
  have HR := Lib.hid hR
  clear hr hR
  go_enter Try.func41, Try.ntmps41
  go_wp2_with fail
  go_loopw [7] (fun iv wx => ∃ k : Nat, k ≤ l.length ∧ iv = .int .i64 k ∧ Hid (∀ j, j < k → hasS a b (at2 l j) = false) ∧ Ext w wx) (fun iv _ => l.length - (intOf iv).toNat)
  case atStart => exact ⟨0, Nat.zero_le _, rfl, Lib.hid (fun j h => absurd h (Nat.not_lt_zero _)), Ext.refl _⟩
  case round =>
    obtain ⟨k, hk, rfl, HN, hx⟩ := hrel
    by_cases hlt : k < l.length
    · have hlt1 : (k : Int) < (l.length : Int) := by omega
      obtain ⟨b1, o1, rfl, hcs⟩ := (HR.out.ext hx).open_ (by omega)
      obtain ⟨d0, d1⟩ := hcs k hlt
      clear hcs
      have HY := Lib.hid (fun h => HYes.out k hlt h)
      have HS := Lib.hid (show hasS a b (at2 l k) = false → ∀ j, j < k + 1 → hasS a b (at2 l j) = false from fun h j hj => by
        by_cases e : j = k
        · subst e; exact h
        · exact HN.out j (by omega))
      have HD := Lib.hid (show hasS a b (at2 l k) = ((at2 l k).1 == a && (at2 l k).2 == b || (at2 l k).1 == b && (at2 l k).2 == a) from rfl)
      generalize hasS a b (at2 l k) = hs at *
      generalize at2 l k = s at *
      obtain ⟨x, y⟩ := s
      simp only at d0 d1 HD
      obtain ⟨p1, e1⟩ : ∃ p, (x == a) = p := ⟨_, rfl⟩
      obtain ⟨p2, e2⟩ : ∃ p, (y == b) = p := ⟨_, rfl⟩
      obtain ⟨p3, e3⟩ : ∃ p, (x == b) = p := ⟨_, rfl⟩
      obtain ⟨p4, e4⟩ : ∃ p, (y == a) = p := ⟨_, rfl⟩
      rw [e1, e2, e3, e4] at HD
      cases p1 <;> cases p2 <;> cases p3 <;> cases p4
      all_goals
        have HV := HD.out
        simp only [Bool.and_true, Bool.and_false, Bool.or_true, Bool.or_false, Bool.and_self, Bool.or_self, Bool.false_or, Bool.true_or] at HV
        clear HD
        subst HV
        first
          | (have HS1 := Lib.hid (HS.out rfl)
             clear HS HY
             go_wp2_with fail
             go_roundw
             case rel => exact ⟨k + 1, by omega, by go_num, HS1, hx⟩
             case measure => simp [intOf]; omega)
          | (have HY1 := Lib.hid (HY.out rfl)
             clear HS HY
             go_wp2_with fail
             go_ret
             exact ⟨ret_bool HY1.out.symm, hx⟩)
    · have hge : ¬ (k : Int) < (l.length : Int) := by omega
      have HS := Lib.hid (HNo.out (fun j hj => HN.out j (by omega)))
      go_wp2_with fail
      go_ret
      exact ⟨ret_bool HS.out.symm, hx⟩

/-- the first triangle that has an edge in a direction; -1: none -/
def leftF (s : Int × Int) : Nat → List (Int × Int × Int) → Int
  | _, [] => -1
  | k, t :: l => if s ∈ edgesT t then k else leftF s (k + 1) l
theorem leftF_take (s : Int × Int) : ∀ (l : List (Int × Int × Int)) (k i : Nat), i < l.length → (∀ j, j < i → s ∉ edgesT (at3 l j)) → s ∈ edgesT (at3 l i) → leftF s k l = ((k + i : Nat) : Int)
  | [], _, _, h, _, _ => by simp at h
  | t :: l, k, 0, _, _, h => by
    have h' : s ∈ edgesT t := h
    simp [leftF, h']
  | t :: l, k, i + 1, hi, hn, h => by
    have h0 : s ∉ edgesT t := hn 0 (by omega)
    have ih := leftF_take s l (k + 1) i (by simpa using hi) (fun j hj => by simpa [at3] using hn (j + 1) (by omega)) (by simpa [at3] using h)
    simp only [leftF, h0, if_false]
    rw [ih]
    omega
theorem leftF_none (s : Int × Int) : ∀ (l : List (Int × Int × Int)) (k : Nat), (∀ j, j < l.length → s ∉ edgesT (at3 l j)) → leftF s k l = -1
  | [], _, _ => rfl
  | t :: l, k, h => by
    have h0 : s ∉ edgesT t := h 0 (by simp)
    simp only [leftF, h0, if_false]
    exact leftF_none s l (k + 1) (fun j hj => by simpa [at3] using h (j + 1) (by simpa using hj))
/-- parquetref12.Left -/
def leftI (l : List (Int × Int × Int)) (s : Int × Int) : Int := leftF s 0 l
theorem edges_at (t : Int × Int × Int) (k : Nat) (hk : k < 3) : at2 (edgesT t) k ∈ edgesT t := by
  have : k = 0 ∨ k = 1 ∨ k = 2 := by omega
  rcases this with rfl | rfl | rfl <;> simp [edgesT, at2]
theorem edges_not {t : Int × Int × Int} {s : Int × Int} (h : ∀ k, k < 3 → at2 (edgesT t) k ≠ s) : s ∉ edgesT t := fun hm => by
  simp only [edgesT, List.mem_cons, List.not_mem_nil, or_false] at hm
  rcases hm with rfl | rfl | rfl
  · exact h 0 (by omega) rfl
  · exact h 1 (by omega) rfl
  · exact h 2 (by omega) rfl

set_option maxHeartbeats 2000000 in
set_option maxRecDepth 100000 in
theorem Left12_any (A : Option Addr) (c : Nat) (l : List (Int × Int × Int)) (a b : Int) (w : World) (hl : l.length ≤ 1000000) (hR : Rd3 w A l) :
    Calls Try.prog 40 #[.slice A l.length c, .int .i64 a, .int .i64 b] w fun e w' => e = .returned (.int .i64 (leftI l (a, b))) ∧ Ext w w' := by
  generalize hr : leftI l (a, b) = r
  have HNo := Lib.hid (show (∀ j, j < l.length → (a, b) ∉ edgesT (at3 l j)) → r = -1 from fun h => by rw [← hr]; exact leftF_none _ l 0 h)
  have HYes := Lib.hid (show ∀ i, i < l.length → (∀ j, j < i → (a, b) ∉ edgesT (at3 l j)) → (a, b) ∈ edgesT (at3 l i) → r = (i : Int) from fun i h1 h2 h3 => by
    rw [← hr]; have := leftF_take (a, b) l 0 i h1 h2 h3; rw [Nat.zero_add] at this; exact this)
  have HR := Lib.hid hR
  clear hr hR
  go_enter Try.func40, Try.ntmps40
  go_wp2_with fail
  go_loopw [7, 8, 9] (fun iv _ _ wx => ∃ i : Nat, i ≤ l.length ∧ iv = .int .i64 i ∧ Hid (∀ j, j < i → (a, b) ∉ edgesT (at3 l j)) ∧ Ext w wx) (fun iv _ _ _ => l.length - (intOf iv).toNat)
  case atStart => exact ⟨0, Nat.zero_le _, rfl, Lib.hid (fun j h => absurd h (Nat.not_lt_zero _)), Ext.refl _⟩
  case round =>
    obtain ⟨i, hi, rfl, HN, hx⟩ := hrel
    by_cases hlt : i < l.length
    · have hlt1 : (i : Int) < (l.length : Int) := by omega
      obtain ⟨b1, o1, rfl, hcs⟩ := (HR.out.ext hx).open_ (by omega)
      obtain ⟨d0, d1, d2⟩ := hcs i hlt
      clear hcs
      have HY := Lib.hid (fun h => HYes.out i hlt HN.out h)
      have HS := Lib.hid (show (a, b) ∉ edgesT (at3 l i) → ∀ j, j < i + 1 → (a, b) ∉ edgesT (at3 l j) from fun h j hj => by
        by_cases e : j = i
        · subst e; exact h
        · exact HN.out j (by omega))
      generalize at3 l i = t at *
      obtain ⟨ta, tb, tc⟩ := t
      simp only at d0 d1 d2
      have HSd := Lib.hid (fun W => Sides12_any ta tb tc W)
      go_wp2_with fail
      refine (HSd.out _).mono ?_
      rintro e W1 ⟨⟨B, rfl, hrd⟩, hx1⟩
      replace hx := hx.trans hx1
      have HE := Lib.hid (show Rd2 W1 (some ⟨B, 0, none⟩) (edgesT (ta, tb, tc)) from hrd)
      clear hrd hx1 HSd d0 d1 d2
      go_wp2_with fail
      go_loopw [9] (fun kv wx => ∃ k : Nat, k ≤ 3 ∧ kv = .int .i64 k ∧ Hid (∀ j, j < k → at2 (edgesT (ta, tb, tc)) j ≠ (a, b)) ∧ Ext W1 wx) (fun kv _ => 3 - (intOf kv).toNat)
      case atStart => exact ⟨0, by omega, rfl, Lib.hid (fun j h => absurd h (Nat.not_lt_zero _)), Ext.refl _⟩
      case round =>
        obtain ⟨k, hk, rfl, HK, hx2⟩ := hrel
        by_cases hk3 : k < 3
        · have hk31 : (k : Int) < 3 := by omega
          obtain ⟨b2, o2, he2, hcs⟩ := (HE.out.ext hx2).open_ (by simp [edgesT])
          simp only [Option.some.injEq, Addr.mk.injEq, and_true] at he2
          obtain ⟨rfl, rfl⟩ := he2
          obtain ⟨c0, c1⟩ := hcs k (by simp [edgesT]; omega)
          rw [Nat.zero_add] at c0 c1
          clear hcs
          have HM := Lib.hid (edges_at (ta, tb, tc) k hk3)
          have HS2 := Lib.hid (show at2 (edgesT (ta, tb, tc)) k ≠ (a, b) → ∀ j, j < k + 1 → at2 (edgesT (ta, tb, tc)) j ≠ (a, b) from fun h j hj => by
            by_cases e : j = k
            · subst e; exact h
            · exact HK.out j (by omega))
          generalize at2 (edgesT (ta, tb, tc)) k = s at *
          obtain ⟨x, y⟩ := s
          simp only at c0 c1
          by_cases h1 : x = a
          · subst h1
            have f1 : (x == x) = true := by simp
            by_cases h2 : y = b
            · subst h2
              have f2 : (y == y) = true := by simp
              have HY1 := Lib.hid (HY.out HM.out)
              clear HS2 HM HY HS
              go_wp2_with fail
              go_ret
              exact ⟨ret_i64 HY1.out.symm, hx.trans hx2⟩
            · have f2 : (y == b) = false := by simpa using h2
              have HS3 := Lib.hid (HS2.out (fun h => h2 (Prod.mk.inj h).2))
              clear HS2 HM h2
              go_wp2_with fail
              go_roundw
              case rel => exact ⟨k + 1, by omega, by go_num, HS3, hx2⟩
              case measure => simp [intOf]; omega
          · have f1 : (x == a) = false := by simpa using h1
            have HS3 := Lib.hid (HS2.out (fun h => h1 (Prod.mk.inj h).1))
            clear HS2 HM h1
            go_wp2_with fail
            go_roundw
            case rel => exact ⟨k + 1, by omega, by go_num, HS3, hx2⟩
            case measure => simp [intOf]; omega
        · have hk31 : ¬ (k : Int) < 3 := by omega
          have HS3 := Lib.hid (HS.out (edges_not fun j hj => HK.out j (by omega)))
          clear HS HY
          go_wp2_with fail
          go_roundw
          case rel => exact ⟨i + 1, by omega, by go_num, HS3, hx.trans hx2⟩
          case measure => simp [intOf]; omega
    · have hge : ¬ (i : Int) < (l.length : Int) := by omega
      have HS := Lib.hid (HNo.out (fun j hj => HN.out j (by omega)))
      go_wp2_with fail
      go_ret
      exact ⟨ret_i64 HS.out.symm, hx⟩

theorem byTriI_neg (a b : Int × Int × Int) : byTriI a b < 0 ↔ a.1 < b.1 ∨ a.1 = b.1 ∧ (a.2.1 < b.2.1 ∨ a.2.1 = b.2.1 ∧ a.2.2 < b.2.2) := by
  unfold byTriI
  simp only [orL]
  have h1 := compareInt_neg a.1 b.1
  have h2 := compareInt_zero a.1 b.1
  have h3 := compareInt_neg a.2.1 b.2.1
  have h4 := compareInt_zero a.2.1 b.2.1
  have h5 := compareInt_neg a.2.2 b.2.2
  have h6 := compareInt_zero a.2.2 b.2.2
  (repeat' split) <;> omega
/-- does a triangle stand ahead of another one? -/
def beforeB (a b : Int × Int × Int) : Bool := decide (byTriI a b < 0)
theorem beforeB_eq (a b : Int × Int × Int) : beforeB a b = if a.1 ≠ b.1 then decide (a.1 < b.1) else if a.2.1 ≠ b.2.1 then decide (a.2.1 < b.2.1) else decide (a.2.2 < b.2.2) := by
  unfold beforeB
  rw [Bool.eq_iff_iff, decide_eq_true_eq, byTriI_neg]
  split
  · rw [decide_eq_true_eq]; omega
  · split
    · rw [decide_eq_true_eq]; omega
    · rw [decide_eq_true_eq]; omega

set_option maxHeartbeats 1000000 in
set_option maxRecDepth 100000 in
theorem before12_any (a0 a1 a2 b0 b1 b2 : Int) (w : World) :
    Calls Try.prog 36 #[.agg #[.int .i64 a0, .int .i64 a1, .int .i64 a2], .agg #[.int .i64 b0, .int .i64 b1, .int .i64 b2]] w fun e w' => e = .returned (.bool (beforeB (a0, a1, a2) (b0, b1, b2))) ∧ Ext w w' := by
  rw [beforeB_eq]
  simp only
  by_cases h1 : a0 = b0
  · subst h1
    have f1 : (a0 != a0) = false := by simp
    by_cases h2 : a1 = b1
    · subst h2
      have f2 : (a1 != a1) = false := by simp
      simp only [ne_eq, not_true_eq_false, if_false]
      go_enter Try.func36, Try.ntmps36
      go_wp2_with fail
      go_ret
      exact ⟨rfl, ((Ext.refl _).alloc _).alloc _⟩
    · have f2 : (a1 != b1) = true := by simpa using h2
      simp only [ne_eq, not_true_eq_false, if_false, h2, not_false_eq_true, if_true]
      clear h2
      go_enter Try.func36, Try.ntmps36
      go_wp2_with fail
      go_ret
      exact ⟨rfl, ((Ext.refl _).alloc _).alloc _⟩
  · have f1 : (a0 != b0) = true := by simpa using h1
    simp only [ne_eq, h1, not_false_eq_true, if_true]
    clear h1
    go_enter Try.func36, Try.ntmps36
    go_wp2_with fail
    go_ret
    exact ⟨rfl, ((Ext.refl _).alloc _).alloc _⟩
end Go.Proofs.Ytagofpmcbbkmgaa
