/- slices.SortFunc of segments by the closure of dual.Pairs. -/
import Derived.Test.YtagofpmcbbkmgaaL16
import Derived.Test.YtagofpmcbbkmgaaSh
import Derived.Shelf.SlSortCmp.NoneTotal
namespace Go.Proofs.Ytagofpmcbbkmgaa
open Go.RowKit Go.Sort

/-- A segment's two cells; all of a list. -/
def encS (x : Int × Int) : List Value := [.int .i64 x.1, .int .i64 x.2]
def cellsS : List (Int × Int) → List Value
  | [] => []
  | x :: l => .int .i64 x.1 :: .int .i64 x.2 :: cellsS l
theorem cellsS_append : ∀ a b : List (Int × Int), cellsS (a ++ b) = cellsS a ++ cellsS b
  | [], _ => rfl
  | x :: a, b => by simp [cellsS, cellsS_append a b]
theorem cellsS_length : ∀ l : List (Int × Int), (cellsS l).length = l.length * 2
  | [] => rfl
  | x :: l => by simp [cellsS, cellsS_length l]; omega
theorem cellsS_get : ∀ (l : List (Int × Int)) (j : Nat), j < l.length → (cellsS l)[j * 2]? = some (.int .i64 (at2 l j).1) ∧ (cellsS l)[j * 2 + 1]? = some (.int .i64 (at2 l j).2)
  | [], j, h => by simp at h
  | x :: l, 0, _ => by simp [cellsS, at2]
  | x :: l, j + 1, h => by
    have := cellsS_get l j (by simpa using h)
    rw [show (j + 1) * 2 = j * 2 + 2 by omega, show j * 2 + 2 + 1 = j * 2 + 1 + 2 by omega]
    simpa [cellsS, at2] using this
theorem cellsS_one (l : List (Int × Int)) : ∀ u ∈ cellsS l, u.oneCell' = true := by
  induction l with
  | nil => intro u h; cases h
  | cons x l ih =>
    intro u h
    simp only [cellsS, List.mem_cons] at h
    rcases h with rfl | rfl | h
    · rfl
    · rfl
    · exact ih u h

theorem own_rd2 {w : World} {base n : Nat} {e : TypeId} {A : Option Addr} {c : Nat} {l : List (Int × Int)} (h : w.ownsRow base e 2 (.slice A n c) n (cellsS l)) : n = l.length ∧ Rd2 w A l := by
  have hn : n = l.length := by have := h.1; rw [cellsS_length] at this; omega
  subst hn
  refine ⟨rfl, ?_⟩
  rcases h.2 with ⟨_, h0⟩ | ⟨g, cap, cur, hv, _⟩
  · exact Or.inl (List.eq_nil_of_length_eq_zero h0)
  · simp only [Value.slice.injEq] at hv
    obtain ⟨rfl, _, rfl⟩ := hv
    refine Or.inr ⟨g, 0, rfl, fun j x hj => ?_⟩
    have hjl : j < l.length := (List.getElem?_eq_some_iff.1 hj).1
    have h2 := cellsS_get l j hjl
    have hx : at2 l j = x := by simp [at2, List.getD, hj]
    rw [hx] at h2
    have c0 := h.cellAt (j * 2) (by omega)
    have c1 := h.cellAt (j * 2 + 1) (by omega)
    rw [Nat.zero_add]
    exact ⟨c0.trans h2.1, c1.trans h2.2⟩

theorem flatS (l : List (Int × Int)) (t : Nat) (h : t < l.length * 2) : (cellsS l)[t]? = some ((encS (l.toArray[t / 2]!))[t % 2]!) := by
  have hq : t / 2 < l.length := by omega
  have h2 := cellsS_get l (t / 2) hq
  have ha : l.toArray[t / 2]! = at2 l (t / 2) := by
    rw [getElem!_pos l.toArray (t / 2) (by simpa using hq)]
    simp [at2, List.getD, List.getElem?_eq_getElem hq]
  rw [ha]
  rcases Nat.mod_two_eq_zero_or_one t with hm | hm
  · rw [hm]
    have : t = t / 2 * 2 := by omega
    rw [← this] at h2
    exact h2.1
  · rw [hm]
    have : t = t / 2 * 2 + 1 := by omega
    rw [← this] at h2
    exact h2.2
theorem own_holds {w : World} {base : Nat} {e : TypeId} {g c : Nat} {l : List (Int × Int)} (h : w.ownsRow base e 2 (.slice (some ⟨g, 0, none⟩) l.length c) l.length (cellsS l)) : HoldsK encS 2 w g 0 l.toArray := by
  intro t ht
  have ht' : t < l.length * 2 := by simpa [size_flatK] using ht
  rw [Nat.zero_add, get_flatK _ _ _ t (by simpa using ht'), h.cellAt t ht', flatS l t ht']
  exact ⟨rfl, h.frozenAt t⟩
theorem holds_rd2 {w : World} {g : Nat} {l : List (Int × Int)} (h : HoldsK encS 2 w g 0 l.toArray) : Rd2 w (some ⟨g, 0, none⟩) l := by
  refine Or.inr ⟨g, 0, rfl, fun j x hj => ?_⟩
  have hjl : j < l.length := (List.getElem?_eq_some_iff.1 hj).1
  have c0 := (h.cell (i := j) (c := 0) (by simpa using hjl) (by omega)).1
  have c1 := (h.cell (i := j) (c := 1) (by simpa using hjl) (by omega)).1
  have ha : l.toArray[j]! = x := by
    rw [getElem!_pos l.toArray j (by simpa using hjl)]
    simpa [List.getElem?_eq_getElem hjl] using hj
  rw [ha] at c0 c1
  exact ⟨c0, c1⟩

/-- the order in which Pairs sorts -/
def ordS (a b : Int × Int) : Int := bySegI a b

set_option maxHeartbeats 1000000 in
set_option maxRecDepth 100000 in
theorem less_any (a0 a1 b0 b1 : Int) (w : World) :
    Calls Try.prog 54 #[.agg #[.int .i64 a0, .int .i64 a1], .agg #[.int .i64 b0, .int .i64 b1]] w fun e w' => e = .returned (.int .i64 (ordS (a0, a1) (b0, b1))) ∧ ∃ q os', w' = grow (w.drewN q) os' := by
  unfold ordS bySegI
  simp only
  have h0 := fun W => Try.cmp_Compare_int a0 b0 W
  have h1 := fun W => Try.cmp_Compare_int a1 b1 W
  generalize Lib.compareInt a0 b0 = x at *
  generalize Lib.compareInt a1 b1 = y at *
  have H0 := Lib.hid h0
  have H1 := Lib.hid h1
  clear h0 h1
  have HO := Lib.hid (fun B c W h => or_any (some ⟨B, 0, none⟩) c [x, y] W (by simp) h)
  go_enter Try.func54, Try.ntmps54
  go_wp2_with fail
  refine wp_world (fun W => (∃ os, W = grow w os) ∧ W.cell? ⟨w.heap.size, 0, none⟩ = some (.int .i64 a0) ∧ W.cell? ⟨w.heap.size, 1, none⟩ = some (.int .i64 a1) ∧ W.cell? ⟨w.heap.size + 1, 0, none⟩ = some (.int .i64 b0) ∧ W.cell? ⟨w.heap.size + 1, 1, none⟩ = some (.int .i64 b1))
    ⟨⟨_, by rw [alloc_eq_grow, alloc_eq_grow, grow_grow]⟩, by simp [go_sem], by simp [go_sem], by simp [go_sem], by simp [go_sem]⟩ ?_
  rintro W ⟨hW, c0, c1, c2, c3⟩
  go_still_tail 10, (by kernel_rfl)
  still_call (H0.out _)
  repeat still_step
  still_call (H1.out _)
  refine wpStill_nil ?_
  change wpList _ _ _ _ _ W.drew
  have hW1 : ∃ os, W.drew = grow (w.drewN 1) os := by obtain ⟨os, rfl⟩ := hW; exact ⟨os, rfl⟩
  generalize W.drew = W1 at *
  go_wp2_with fail
  refine (HO.out _ _ _ (rd1_2 _ _ _ _ (by simp [go_sem]) (by simp [go_sem]))).mono ?_
  rintro e w' ⟨rfl, rfl⟩
  go_wp2_with fail
  go_ret
  obtain ⟨os, rfl⟩ := hW1
  exact ⟨rfl, 1, _, by rw [alloc_eq_grow, grow_grow]⟩

theorem lt_ordS (x y : Int × Int) : ltOf ordS x y = decide (x.1 < y.1 ∨ x.1 = y.1 ∧ x.2 < y.2) := by
  unfold ltOf ordS bySegI Lib.compareInt
  simp only [orL]
  rcases Int.lt_trichotomy x.1 y.1 with h | h | h
  · simp [h]
  · rcases Int.lt_trichotomy x.2 y.2 with h2 | h2 | h2
    · simp [h, h2]
    · simp [h, h2]
    · simp [h, show ¬ x.2 < y.2 by omega, h2]
  · simp [show ¬ x.1 < y.1 by omega, h, show ¬ x.1 = y.1 by omega]
theorem swoS : SWO (ltOf ordS) where
  irrefl x := by rw [lt_ordS]; simp
  trans x y z h1 h2 := by rw [lt_ordS] at *; simp at *; omega
  ntrans x y z h1 h2 := by rw [lt_ordS] at *; simp at *; omega
/-- sorted -/
def sortS (l : List (Int × Int)) : List (Int × Int) := l.mergeSort fun x y => !ltOf ordS y x

theorem ext_sorted {w0 w : World} (hx : Ext w0 w) {g : Nat} (hg : w0.heap.size ≤ g) (n : Nat) (d : Array (Int × Int)) (os : Array Obj) : Ext w0 (sortWorldK encS 2 w g 0 n d os) := by
  refine ⟨hx.os, hx.tape, hx.output, ?_, ?_⟩
  · have := hx.size
    simp [sortWorldK, grow, putRowK, putRow, mapBlock, ahead]
    omega
  · intro k hk
    have h1 := hx.block k hk
    have h2 := hx.size
    rw [← h1]
    simp only [sortWorldK, grow, putRowK, putRow, mapBlock, ahead]
    rw [Array.getElem?_append, if_pos (by simp; omega), Array.getElem?_modify, if_neg (by omega)]
    rfl

set_option maxHeartbeats 1000000 in
set_option maxRecDepth 100000 in
theorem sortSeg_any (A : Option Addr) (c : Nat) (e : TypeId) (l : List (Int × Int)) (w0 w : World) (hx : Ext w0 w) (hown : w.ownsRow w0.heap.size e 2 (.slice A l.length c) l.length (cellsS l)) (hl : l.length ≤ 3000000) :
    Calls Try.prog 53 #[.slice A l.length c, .func (.func 54) #[] #[]] w fun e w' => e = .returned (.tuple #[]) ∧ Ext w0 w' ∧ Rd2 w' A (sortS l) := by
  by_cases h0 : l = []
  · subst h0
    have := AnyF.slices_SortFunc_none Try.sortSeg A c (.func (.func 54) #[] #[]) w
    exact this.mono fun _ _ ⟨he, hw⟩ => ⟨he, hw ▸ hx, Or.inl (by simp [sortS])⟩
  · obtain ⟨g, rfl, hg⟩ : ∃ g, A = some ⟨g, 0, none⟩ ∧ w0.heap.size ≤ g := by
      rcases hown.2 with ⟨_, hn⟩ | ⟨g, cap, cur, hv, hg, _⟩
      · exact absurd (List.eq_nil_of_length_eq_zero hn) h0
      · simp only [Value.slice.injEq] at hv
        exact ⟨g, hv.1, hg⟩
    have hblk := (hown.lt g rfl).2
    have hH := own_holds hown
    have eg : ∀ args w, (callFunc 54 args).run Try.prog w = .ok (.enter 54 args) w := enters_of Try.func54 (by kernel_rfl) rfl
    have hcon := AnyQ.slices_SortFunc_total Try.sortSeg 2 Try.isAgg39 Try.sizeOf39 encS (fun _ => rfl) (fun x v hv => by simp [encS] at hv; rcases hv with rfl | rfl <;> rfl) ordS swoS 54 #[] g 0 c l.toArray w eg
      (fun m os dk _ x y => less_any x.1 x.2 y.1 y.2 _) hH hblk (by simp; omega) (fun x y h1 h2 => by rw [lt_ordS] at h1 h2; simp at h1 h2; apply Prod.ext <;> omega)
    simp only [List.size_toArray] at hcon
    refine Calls.mono hcon ?_
    rintro e w' ⟨he, n, os, rfl⟩
    refine ⟨he, ext_sorted hx hg n _ os, ?_⟩
    have hh := holdsK_sortWorldK_c encS 2 w g 0 l.toArray (l.mergeSort fun x y => !(ltOf ordS) y x).toArray n os hH hblk (by simp)
    exact holds_rd2 hh
end Go.Proofs.Ytagofpmcbbkmgaa
