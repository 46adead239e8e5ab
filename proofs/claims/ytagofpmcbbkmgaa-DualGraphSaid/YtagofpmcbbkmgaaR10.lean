/- parquetref01: Plus, Cmp. -/
import Derived.Test.YtagofpmcbbkmgaaR9
namespace Go.Proofs.Ytagofpmcbbkmgaa
open Go.RowKit Go.Sort

theorem NumR.mono {w : World} {v : Value} {z : Int} {K K' : Nat} (h : NumR w v z K) (hK : K ≤ K') : NumR w v z K' := by
  obtain ⟨m, A, c, l, hv, hr, hd, hc, hm, hz, hl⟩ := h
  exact ⟨m, A, c, l, hv, hr, hd, hc, hm, hz, by omega⟩
/-- A number comes back, in a world that has only grown. -/
def RetN (w : World) (z : Int) (K : Nat) (e : Ending) (w' : World) : Prop := (∃ v', e = .returned v' ∧ NumR w' v' z K) ∧ Ext w w'

theorem Plus_any (v u : Value) (z1 z2 : Int) (K : Nat) (w : World) (hK : K ≤ 1000) (h1 : NumR w v z1 K) (h2 : NumR w u z2 K) :
    Calls Try.prog 22 #[v, u] w (RetN w (z1 + z2) (K + 1)) := by
  obtain ⟨m, A, c, l, rfl, hr, hd, hc, hm, hz, hl⟩ := h1
  obtain ⟨m', A', c', l', rfl, hr', hd', hc', hm', hz', hl'⟩ := h2
  by_cases hmm : m = m'
  · subst hmm
    have := PlusS_any m A A' c c' l l' K w hK hr hr' hd hd' hl hl'
    have e : z1 + z2 = (if m then -(val l + val l') else val l + val l') := by rw [hz, hz']; cases m <;> simp; omega
    rw [e]
    exact this
  · have hn : m' = !m := by cases m <;> cases m' <;> simp_all
    subst hn
    have := PlusD_any m A A' c c' l l' K w hK hr hr' hd hd' hc hc' hl hl'
    have e : z1 + z2 = (if m then val l' - val l else val l - val l') := by rw [hz, hz']; cases m <;> simp <;> omega
    rw [e]
    exact this

set_option maxHeartbeats 1000000 in
set_option maxRecDepth 100000 in
/-- Neg, by its value. -/
theorem Neg_val (m : Bool) (A : Option Addr) (c : Nat) (l : List Int) (w : World) :
    Calls Try.prog 50 #[.agg #[.bool m, .slice A l.length c]] w fun e w' => e = .returned (.agg #[.bool (!m && decide (0 < l.length)), .slice A l.length c]) ∧ Ext w w' := by
  by_cases h0 : l = []
  · subst h0
    have f1 : (!m && decide (0 < ([] : List Int).length)) = false := by cases m <;> rfl
    rw [f1]
    clear f1
    cases m <;> (
      go_enter Try.func50, Try.ntmps50
      go_wp2_with fail
      exact bodyPost_ret (v := .agg #[.bool false, .slice A 0 c]) (by simp [results, Try.results50, go_sem]) rfl ⟨rfl, ((Ext.refl _).alloc _).alloc _⟩)
  · have hlp : 0 < l.length := List.length_pos_iff.2 h0
    have f2 : (0 : Int) < (l.length : Int) := by omega
    have f1 : (!m && decide (0 < l.length)) = !m := by simp [hlp]
    rw [f1]
    clear f1 h0
    cases m <;> (
      go_enter Try.func50, Try.ntmps50
      go_wp2_with fail
      exact bodyPost_ret (v := .agg #[.bool _, .slice A l.length c]) (by simp [results, Try.results50, go_sem]) rfl ⟨rfl, ((Ext.refl _).alloc _).alloc _⟩)
theorem Neg_num {w : World} {m : Bool} {A : Option Addr} {c : Nat} {l : List Int} {z : Int} {K : Nat} (h : NumR w (.agg #[.bool m, .slice A l.length c]) z K) : NumR w (.agg #[.bool (!m && decide (0 < l.length)), .slice A l.length c]) (-z) K := by
  obtain ⟨m', A', c', l', hv, hr, hd, hc, hm, hz, hl⟩ := h
  simp only [Value.agg.injEq, Array.mk.injEq, List.cons.injEq, Value.bool.injEq, Value.slice.injEq, and_true] at hv
  obtain ⟨rfl, rfl, hll, rfl⟩ := hv
  rw [hll]
  by_cases h0 : l' = []
  · subst h0
    have hm0 : m = false := by cases m with | false => rfl | true => exact absurd rfl (hm rfl)
    subst hm0
    exact ⟨_, _, _, [], rfl, Or.inl rfl, (fun x h => by cases h), Or.inl rfl, (fun h => by simp at h), by rw [hz]; simp [val], Nat.zero_le _⟩
  · have hlp : 0 < l'.length := List.length_pos_iff.2 h0
    exact ⟨_, _, _, l', rfl, hr, hd, hc, (fun _ => h0), by rw [hz]; cases m <;> simp [hlp], hl⟩

set_option maxHeartbeats 1000000 in
set_option maxRecDepth 100000 in
theorem Cmp_any (v u : Value) (z1 z2 : Int) (K : Nat) (w : World) (hK : K ≤ 1000) (h1 : NumR w v z1 K) (h2 : NumR w u z2 K) :
    Calls Try.prog 24 #[v, u] w fun e w' => e = .returned (.int .i64 (sgnI (z1 - z2))) ∧ Ext w w' := by
  have hv := h1
  obtain ⟨m, A, c, l, rfl, -⟩ := hv
  have hu := h2
  obtain ⟨m', A', c', l', rfl, -⟩ := hu
  have HNeg := Lib.hid (fun W => Neg_val m' A' c' l' W)
  have HN2 := Lib.hid (Neg_num h2)
  have HN1 := Lib.hid h1
  generalize (!m' && decide (0 < l'.length)) = nm at *
  clear h1 h2
  rw [Int.sub_eq_add_neg]
  have HPl := Lib.hid (fun W h1 h2 => Plus_any (.agg #[.bool m, .slice A l.length c]) (.agg #[.bool nm, .slice A' l'.length c']) z1 (-z2) K W hK h1 h2)
  have HSg := Lib.hid (fun v W h => Sign_any v (z1 + -z2) (K + 1) W h (by omega))
  generalize sgnI (z1 + -z2) = s at *
  go_enter Try.func24, Try.ntmps24
  go_wp2_with fail
  refine wp_world (fun W1 => Ext w W1 ∧ W1.cell? ⟨w.heap.size, 0, none⟩ = some (.bool m) ∧ W1.cell? ⟨w.heap.size, 1, none⟩ = some (.slice A l.length c) ∧ W1.cell? ⟨w.heap.size + 1, 0, none⟩ = some (.bool m') ∧ W1.cell? ⟨w.heap.size + 1, 1, none⟩ = some (.slice A' l'.length c'))
    ⟨((Ext.refl w).alloc _).alloc _, by simp [go_sem], by simp [go_sem], by simp [go_sem], by simp [go_sem]⟩ ?_
  rintro W ⟨hW, p0, p1, q0, q1⟩
  have x0 := cell_ext p0
  have x1 := cell_ext p1
  have x2 := cell_ext q0
  have x3 := cell_ext q1
  refine wp_region_ext_tail 3 (by kernel_rfl) (by kernel_rfl) ?_
  simp only [List.take_succ_cons, List.take_zero, List.drop_succ_cons, List.drop_zero]
  repeat (go_big_quiet_step ((go_at_call 50; with_reducible exact ext_call (HNeg.out _))))
  refine wpQuiet_nil ?_
  intro W2 h2
  replace h2 := ext_of h2
  replace hW := hW.trans h2
  clear x0 x1 x2 x3 p0 p1 q0 q1 h2
  go_wp2_with fail
  refine (HPl.out _ (HN1.out.ext hW) (HN2.out.ext hW)).mono ?_
  rintro e W3 ⟨⟨v', rfl, hn⟩, hx⟩
  replace hW := hW.trans hx
  have HN3 := Lib.hid hn
  clear hx hn
  go_wp2_with fail
  refine (HSg.out _ _ HN3.out).mono ?_
  rintro e W4 ⟨rfl, hx⟩
  go_wp2_with fail
  go_ret
  exact ⟨rfl, hW.trans hx⟩
end Go.Proofs.Ytagofpmcbbkmgaa
