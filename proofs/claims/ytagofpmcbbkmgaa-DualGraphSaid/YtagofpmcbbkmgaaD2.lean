/- parquetref12: Tri. -/
import Derived.Test.YtagofpmcbbkmgaaD1
import Derived.Test.YtagofpmcbbkmgaaC1
namespace Go.Proofs.Ytagofpmcbbkmgaa
open Go.RowKit Go.Sort

theorem orientP_swap (a b c : Int × Int) : orientP a c b = - orientP a b c := by
  unfold orientP
  rw [← area_orient, ← area_orient]
  have e : areaI a.1 a.2 c.1 c.2 b.1 b.2 = - areaI a.1 a.2 b.1 b.2 c.1 c.2 := by
    unfold areaI
    have e1 : c.1 * a.2 = a.2 * c.1 := Int.mul_comm _ _
    have e2 : b.1 * c.2 = c.2 * b.1 := Int.mul_comm _ _
    have e3 : c.1 * b.2 = b.2 * c.1 := Int.mul_comm _ _
    have e4 : b.1 * a.2 = a.2 * b.1 := Int.mul_comm _ _
    have e5 : a.1 * c.2 = c.2 * a.1 := Int.mul_comm _ _
    have e6 : a.1 * b.2 = b.2 * a.1 := Int.mul_comm _ _
    omega
  rw [e]
  generalize areaI a.1 a.2 b.1 b.2 c.1 c.2 = z
  have hs : sgnI (-z) = - sgnI z := by unfold sgnI; (repeat' split) <;> omega
  rw [hs]
  cases fitB a <;> cases fitB b <;> cases fitB c <;> simp
theorem orientP_bd (a b c : Int × Int) : orientP a b c = -1 ∨ orientP a b c = 0 ∨ orientP a b c = 1 := by
  unfold orientP
  split
  · rw [← area_orient]; unfold sgnI; (repeat' split) <;> simp
  · simp
theorem orientP_same (a c : Int × Int) : orientP a a c = 0 := by
  have h := orientP_swap a a c
  have h1 := orientP_cyc a a c
  have h2 := orientP_cyc a c a
  have h3 := orientP_cyc c a a
  omega
/-- the six ways of a triple -/
def sixN (a b c : Nat) : List (Nat × Nat × Nat) := [(a, b, c), (b, c, a), (c, a, b), (a, c, b), (c, b, a), (b, a, c)]
def sixL (a b c : Nat) : List (Int × Int × Int) := [((a : Int), (b : Int), (c : Int)), ((b : Int), (c : Int), (a : Int)), ((c : Int), (a : Int), (b : Int)), ((a : Int), (c : Int), (b : Int)), ((c : Int), (b : Int), (a : Int)), ((b : Int), (a : Int), (c : Int))]
def atN (l : List (Nat × Nat × Nat)) (i : Nat) : Nat × Nat × Nat := l.getD i (0, 0, 0)
/-- the one that begins with the least and turns left -/
def goodN (ps : List (Int × Int)) (t : Nat × Nat × Nat) : Bool := decide (t.1 < t.2.1) && decide (t.1 < t.2.2) && (orientP (at2 ps t.1) (at2 ps t.2.1) (at2 ps t.2.2) == 1)
def toT (t : Nat × Nat × Nat) : Int × Int × Int := ((t.1 : Int), (t.2.1 : Int), (t.2.2 : Int))
theorem six_at (a b c i : Nat) (h : i < 6) : at3 (sixL a b c) i = toT (atN (sixN a b c) i) := by
  have : i = 0 ∨ i = 1 ∨ i = 2 ∨ i = 3 ∨ i = 4 ∨ i = 5 := by omega
  rcases this with rfl | rfl | rfl | rfl | rfl | rfl <;> rfl
theorem six_lt {n a b c i : Nat} (h : i < 6) (ha : a < n) (hb : b < n) (hc : c < n) : (atN (sixN a b c) i).1 < n ∧ (atN (sixN a b c) i).2.1 < n ∧ (atN (sixN a b c) i).2.2 < n := by
  have : i = 0 ∨ i = 1 ∨ i = 2 ∨ i = 3 ∨ i = 4 ∨ i = 5 := by omega
  rcases this with rfl | rfl | rfl | rfl | rfl | rfl <;> simp [atN, sixN] <;> omega
theorem good_all {ps : List (Int × Int)} {a b c : Nat} (h0 : orientP (at2 ps a) (at2 ps b) (at2 ps c) ≠ 0) :
    (∃ i, i < 6 ∧ goodN ps (atN (sixN a b c) i) = true) ∧
    (∀ i, i < 6 → goodN ps (atN (sixN a b c) i) = true → toT (atN (sixN a b c) i) = if orientP (at2 ps a) (at2 ps b) (at2 ps c) = -1 then rotTri a c b else rotTri a b c) := by
  have hab : a ≠ b := fun e => h0 (by rw [e, orientP_same])
  have hbc : b ≠ c := fun e => h0 (by rw [e, orientP_cyc, orientP_same])
  have hca : c ≠ a := fun e => h0 (by rw [e, orientP_cyc, orientP_cyc, orientP_same])
  have e1 : orientP (at2 ps b) (at2 ps c) (at2 ps a) = orientP (at2 ps a) (at2 ps b) (at2 ps c) := (orientP_cyc _ _ _).symm
  have e2 : orientP (at2 ps c) (at2 ps a) (at2 ps b) = orientP (at2 ps a) (at2 ps b) (at2 ps c) := by rw [orientP_cyc]
  have e3 : orientP (at2 ps a) (at2 ps c) (at2 ps b) = - orientP (at2 ps a) (at2 ps b) (at2 ps c) := orientP_swap _ _ _
  have e4 : orientP (at2 ps c) (at2 ps b) (at2 ps a) = - orientP (at2 ps a) (at2 ps b) (at2 ps c) := by rw [← e3, orientP_cyc (at2 ps a)]
  have e5 : orientP (at2 ps b) (at2 ps a) (at2 ps c) = - orientP (at2 ps a) (at2 ps b) (at2 ps c) := by rw [← e4, orientP_cyc (at2 ps c)]
  have hbd := orientP_bd (at2 ps a) (at2 ps b) (at2 ps c)
  have h6 : ∀ i, i < 6 → i = 0 ∨ i = 1 ∨ i = 2 ∨ i = 3 ∨ i = 4 ∨ i = 5 := fun i hi => by omega
  generalize hr : orientP (at2 ps a) (at2 ps b) (at2 ps c) = r at *
  have g0 : goodN ps (atN (sixN a b c) 0) = (decide (a < b) && decide (a < c) && (r == 1)) := by show (_ && _ && (orientP (at2 ps a) (at2 ps b) (at2 ps c) == 1)) = _; rw [hr]; rfl
  have g1 : goodN ps (atN (sixN a b c) 1) = (decide (b < c) && decide (b < a) && (r == 1)) := by show (_ && _ && (orientP (at2 ps b) (at2 ps c) (at2 ps a) == 1)) = _; rw [e1]; rfl
  have g2 : goodN ps (atN (sixN a b c) 2) = (decide (c < a) && decide (c < b) && (r == 1)) := by show (_ && _ && (orientP (at2 ps c) (at2 ps a) (at2 ps b) == 1)) = _; rw [e2]; rfl
  have g3 : goodN ps (atN (sixN a b c) 3) = (decide (a < c) && decide (a < b) && (-r == 1)) := by show (_ && _ && (orientP (at2 ps a) (at2 ps c) (at2 ps b) == 1)) = _; rw [e3]; rfl
  have g4 : goodN ps (atN (sixN a b c) 4) = (decide (c < b) && decide (c < a) && (-r == 1)) := by show (_ && _ && (orientP (at2 ps c) (at2 ps b) (at2 ps a) == 1)) = _; rw [e4]; rfl
  have g5 : goodN ps (atN (sixN a b c) 5) = (decide (b < a) && decide (b < c) && (-r == 1)) := by show (_ && _ && (orientP (at2 ps b) (at2 ps a) (at2 ps c) == 1)) = _; rw [e5]; rfl
  have t0 : toT (atN (sixN a b c) 0) = ((a : Int), (b : Int), (c : Int)) := rfl
  have t1 : toT (atN (sixN a b c) 1) = ((b : Int), (c : Int), (a : Int)) := rfl
  have t2 : toT (atN (sixN a b c) 2) = ((c : Int), (a : Int), (b : Int)) := rfl
  have t3 : toT (atN (sixN a b c) 3) = ((a : Int), (c : Int), (b : Int)) := rfl
  have t4 : toT (atN (sixN a b c) 4) = ((c : Int), (b : Int), (a : Int)) := rfl
  have t5 : toT (atN (sixN a b c) 5) = ((b : Int), (a : Int), (c : Int)) := rfl
  constructor
  · rcases hbd with h | h | h
    · by_cases h1 : a < b ∧ a < c
      · exact ⟨3, by omega, by rw [g3, h]; simp; omega⟩
      · by_cases h2 : c < b ∧ c < a
        · exact ⟨4, by omega, by rw [g4, h]; simp; omega⟩
        · exact ⟨5, by omega, by rw [g5, h]; simp; omega⟩
    · exact absurd h h0
    · by_cases h1 : a < b ∧ a < c
      · exact ⟨0, by omega, by rw [g0, h]; simp; omega⟩
      · by_cases h2 : b < c ∧ b < a
        · exact ⟨1, by omega, by rw [g1, h]; simp; omega⟩
        · exact ⟨2, by omega, by rw [g2, h]; simp; omega⟩
  · intro i hi hg
    unfold rotTri
    rcases h6 i hi with rfl | rfl | rfl | rfl | rfl | rfl
    · rw [g0] at hg; simp at hg
      rw [t0, if_neg (by omega), if_pos (by omega)]
    · rw [g1] at hg; simp at hg
      rw [t1, if_neg (by omega), if_neg (by omega), if_pos (by omega)]
    · rw [g2] at hg; simp at hg
      rw [t2, if_neg (by omega), if_neg (by omega), if_neg (by omega)]
    · rw [g3] at hg; simp at hg
      rw [t3, if_pos (by omega), if_pos (by omega)]
    · rw [g4] at hg; simp at hg
      rw [t4, if_pos (by omega), if_neg (by omega), if_pos (by omega)]
    · rw [g5] at hg; simp at hg
      rw [t5, if_pos (by omega), if_neg (by omega), if_neg (by omega)]

set_option maxHeartbeats 2000000 in
set_option maxRecDepth 100000 in
theorem Tri12_out (A : Option Addr) (cap : Nat) (ps : List (Int × Int)) (a b c : Int) (w : World) (hl : ps.length ≤ 1000000) (h : (inR ps.length a && inR ps.length b && inR ps.length c) = false) :
    Calls Try.prog 39 #[.slice A ps.length cap, .int .i64 a, .int .i64 b, .int .i64 c] w fun e w' => e = .returned (triV none) ∧ Ext w w' := by
  unfold triV
  have hd : a < 0 ∨ (¬ a < 0 ∧ b < 0) ∨ (¬ a < 0 ∧ ¬ b < 0 ∧ c < 0) ∨ (¬ a < 0 ∧ ¬ b < 0 ∧ ¬ c < 0 ∧ (ps.length : Int) ≤ a) ∨ (¬ a < 0 ∧ ¬ b < 0 ∧ ¬ c < 0 ∧ ¬ (ps.length : Int) ≤ a ∧ (ps.length : Int) ≤ b) ∨ (¬ a < 0 ∧ ¬ b < 0 ∧ ¬ c < 0 ∧ ¬ (ps.length : Int) ≤ a ∧ ¬ (ps.length : Int) ≤ b ∧ (ps.length : Int) ≤ c) := by
    unfold inR at h
    simp at h
    omega
  clear h
  go_enter Try.func39, Try.ntmps39
  go_upto_region 2 with fail
  refine wp_world (fun W1 => (Ext w W1 ∧ w.heap.size < W1.heap.size) ∧ (W1.cell? ⟨w.heap.size, 0, none⟩ = some (.int .i64 0) ∧ W1.cell? ⟨w.heap.size, 1, none⟩ = some (.int .i64 0) ∧ W1.cell? ⟨w.heap.size, 2, none⟩ = some (.int .i64 0)) ∧ W1.frozen? ⟨w.heap.size, 0, none⟩ = false ∧ W1.frozen? ⟨w.heap.size, 1, none⟩ = false ∧ W1.frozen? ⟨w.heap.size, 2, none⟩ = false)
    ⟨⟨(Ext.refl w).alloc _, by simp⟩, ⟨by simp [go_sem], by simp [go_sem], by simp [go_sem]⟩, by simp [go_sem], by simp [go_sem], by simp [go_sem]⟩ ?_
  rintro W ⟨⟨hW, hzW⟩, ⟨r0, r1, r2⟩, g0, g1, g2⟩
  rcases hd with h1 | ⟨h1, h2⟩ | ⟨h1, h2, h3⟩ | ⟨h1, h2, h3, h4⟩ | ⟨h1, h2, h3, h4, h5⟩ | ⟨h1, h2, h3, h4, h5, h6⟩
  · have f1 : decide (a < 0) = true := by simp; omega
    refine wp_region_ext (by kernel_rfl) (by kernel_rfl) ?_
    repeat (go_big_quiet_step ((fail)))
    refine wpQuiet_nil ?_
    intro W1 hW1_
    have hW1 := ext_of hW1_
    clear hW1_
    have q0 := hW1.cell r0
    have q1 := hW1.cell r1
    have q2 := hW1.cell r2
    have k0 := hW1.frozen r0 g0
    have k1 := hW1.frozen r1 g1
    have k2 := hW1.frozen r2 g2
    clear r0 r1 r2 g0 g1 g2
    go_wp2_with fail
    exact bodyPost_ret (v := .tuple #[.agg #[.int .i64 0, .int .i64 0, .int .i64 0], .bool false]) (by simp [results, Try.results39, go_sem, *]) rfl ⟨rfl, (((hW.trans hW1).setCell (Nat.le_refl _) _).setCell (Nat.le_refl _) _).setCell (Nat.le_refl _) _⟩
  · have f1 : decide (a < 0) = false := by simp; omega
    have f2 : decide (b < 0) = true := by simp; omega
    refine wp_region_ext (by kernel_rfl) (by kernel_rfl) ?_
    repeat (go_big_quiet_step ((fail)))
    refine wpQuiet_nil ?_
    intro W1 hW1_
    have hW1 := ext_of hW1_
    clear hW1_
    have q0 := hW1.cell r0
    have q1 := hW1.cell r1
    have q2 := hW1.cell r2
    have k0 := hW1.frozen r0 g0
    have k1 := hW1.frozen r1 g1
    have k2 := hW1.frozen r2 g2
    clear r0 r1 r2 g0 g1 g2
    go_wp2_with fail
    exact bodyPost_ret (v := .tuple #[.agg #[.int .i64 0, .int .i64 0, .int .i64 0], .bool false]) (by simp [results, Try.results39, go_sem, *]) rfl ⟨rfl, (((hW.trans hW1).setCell (Nat.le_refl _) _).setCell (Nat.le_refl _) _).setCell (Nat.le_refl _) _⟩
  · have f1 : decide (a < 0) = false := by simp; omega
    have f2 : decide (b < 0) = false := by simp; omega
    have f3 : decide (c < 0) = true := by simp; omega
    refine wp_region_ext (by kernel_rfl) (by kernel_rfl) ?_
    repeat (go_big_quiet_step ((fail)))
    refine wpQuiet_nil ?_
    intro W1 hW1_
    have hW1 := ext_of hW1_
    clear hW1_
    have q0 := hW1.cell r0
    have q1 := hW1.cell r1
    have q2 := hW1.cell r2
    have k0 := hW1.frozen r0 g0
    have k1 := hW1.frozen r1 g1
    have k2 := hW1.frozen r2 g2
    clear r0 r1 r2 g0 g1 g2
    go_wp2_with fail
    exact bodyPost_ret (v := .tuple #[.agg #[.int .i64 0, .int .i64 0, .int .i64 0], .bool false]) (by simp [results, Try.results39, go_sem, *]) rfl ⟨rfl, (((hW.trans hW1).setCell (Nat.le_refl _) _).setCell (Nat.le_refl _) _).setCell (Nat.le_refl _) _⟩
  · have f1 : decide (a < 0) = false := by simp; omega
    have f2 : decide (b < 0) = false := by simp; omega
    have f3 : decide (c < 0) = false := by simp; omega
    have f4 : decide ((ps.length : Int) ≤ a) = true := by simp; omega
    refine wp_region_ext (by kernel_rfl) (by kernel_rfl) ?_
    repeat (go_big_quiet_step ((fail)))
    refine wpQuiet_nil ?_
    intro W1 hW1_
    have hW1 := ext_of hW1_
    clear hW1_
    have q0 := hW1.cell r0
    have q1 := hW1.cell r1
    have q2 := hW1.cell r2
    have k0 := hW1.frozen r0 g0
    have k1 := hW1.frozen r1 g1
    have k2 := hW1.frozen r2 g2
    clear r0 r1 r2 g0 g1 g2
    go_wp2_with fail
    exact bodyPost_ret (v := .tuple #[.agg #[.int .i64 0, .int .i64 0, .int .i64 0], .bool false]) (by simp [results, Try.results39, go_sem, *]) rfl ⟨rfl, (((hW.trans hW1).setCell (Nat.le_refl _) _).setCell (Nat.le_refl _) _).setCell (Nat.le_refl _) _⟩
  · have f1 : decide (a < 0) = false := by simp; omega
    have f2 : decide (b < 0) = false := by simp; omega
    have f3 : decide (c < 0) = false := by simp; omega
    have f4 : decide ((ps.length : Int) ≤ a) = false := by simp; omega
    have f5 : decide ((ps.length : Int) ≤ b) = true := by simp; omega
    refine wp_region_ext (by kernel_rfl) (by kernel_rfl) ?_
    repeat (go_big_quiet_step ((fail)))
    refine wpQuiet_nil ?_
    intro W1 hW1_
    have hW1 := ext_of hW1_
    clear hW1_
    have q0 := hW1.cell r0
    have q1 := hW1.cell r1
    have q2 := hW1.cell r2
    have k0 := hW1.frozen r0 g0
    have k1 := hW1.frozen r1 g1
    have k2 := hW1.frozen r2 g2
    clear r0 r1 r2 g0 g1 g2
    go_wp2_with fail
    exact bodyPost_ret (v := .tuple #[.agg #[.int .i64 0, .int .i64 0, .int .i64 0], .bool false]) (by simp [results, Try.results39, go_sem, *]) rfl ⟨rfl, (((hW.trans hW1).setCell (Nat.le_refl _) _).setCell (Nat.le_refl _) _).setCell (Nat.le_refl _) _⟩
  · have f1 : decide (a < 0) = false := by simp; omega
    have f2 : decide (b < 0) = false := by simp; omega
    have f3 : decide (c < 0) = false := by simp; omega
    have f4 : decide ((ps.length : Int) ≤ a) = false := by simp; omega
    have f5 : decide ((ps.length : Int) ≤ b) = false := by simp; omega
    have f6 : decide ((ps.length : Int) ≤ c) = true := by simp; omega
    refine wp_region_ext (by kernel_rfl) (by kernel_rfl) ?_
    repeat (go_big_quiet_step ((fail)))
    refine wpQuiet_nil ?_
    intro W1 hW1_
    have hW1 := ext_of hW1_
    clear hW1_
    have q0 := hW1.cell r0
    have q1 := hW1.cell r1
    have q2 := hW1.cell r2
    have k0 := hW1.frozen r0 g0
    have k1 := hW1.frozen r1 g1
    have k2 := hW1.frozen r2 g2
    clear r0 r1 r2 g0 g1 g2
    go_wp2_with fail
    exact bodyPost_ret (v := .tuple #[.agg #[.int .i64 0, .int .i64 0, .int .i64 0], .bool false]) (by simp [results, Try.results39, go_sem, *]) rfl ⟨rfl, (((hW.trans hW1).setCell (Nat.le_refl _) _).setCell (Nat.le_refl _) _).setCell (Nat.le_refl _) _⟩

theorem rd3_6n (w : World) (t : TypeId) (a b c : Nat) : Rd3 (w.alloc (.cells #[.int .i64 a, .int .i64 b, .int .i64 c, .int .i64 b, .int .i64 c, .int .i64 a, .int .i64 c, .int .i64 a, .int .i64 b, .int .i64 a, .int .i64 c, .int .i64 b, .int .i64 c, .int .i64 b, .int .i64 a, .int .i64 b, .int .i64 a, .int .i64 c] t)) (some ⟨w.heap.size, 0, none⟩) (sixL a b c) := by
  refine Or.inr ⟨_, _, rfl, ?_⟩
  intro j x hj
  unfold sixL at hj
  match j, hj with
  | 0, hj => simp at hj; subst hj; simp [go_sem]
  | 1, hj => simp at hj; subst hj; simp [go_sem]
  | 2, hj => simp at hj; subst hj; simp [go_sem]
  | 3, hj => simp at hj; subst hj; simp [go_sem]
  | 4, hj => simp at hj; subst hj; simp [go_sem]
  | 5, hj => simp at hj; subst hj; simp [go_sem]
  | n + 6, hj => simp at hj

set_option maxHeartbeats 4000000 in
set_option maxRecDepth 100000 in
theorem Tri12_in (A : Option Addr) (cap : Nat) (ps : List (Int × Int)) (a b c : Nat) (w : World) (hl : ps.length ≤ 1000000) (hR : Rd2 w A ps) (ha : a < ps.length) (hb : b < ps.length) (hc : c < ps.length) :
    Calls Try.prog 39 #[.slice A ps.length cap, .int .i64 a, .int .i64 b, .int .i64 c] w fun e w' => e = .returned (triV (if orientP (at2 ps a) (at2 ps b) (at2 ps c) = 0 then none else some (if orientP (at2 ps a) (at2 ps b) (at2 ps c) = -1 then rotTri a c b else rotTri a b c))) ∧ Ext w w' := by
  have HR := Lib.hid hR
  clear hR
  have HAll := Lib.hid (fun h => good_all (ps := ps) (a := a) (b := b) (c := c) h)
  generalize hres : (if orientP (at2 ps a) (at2 ps b) (at2 ps c) = -1 then rotTri a c b else rotTri a b c) = res at *
  have HOr := Lib.hid (fun W => Orient3_any (at2 ps a).1 (at2 ps a).2 (at2 ps b).1 (at2 ps b).2 (at2 ps c).1 (at2 ps c).2 W)
  have HPost : Hid (∀ e, (orientP (at2 ps a) (at2 ps b) (at2 ps c) = 0 → e = Ending.returned (triV none) → e = .returned (triV (if orientP (at2 ps a) (at2 ps b) (at2 ps c) = 0 then none else some res))) ∧ (¬ orientP (at2 ps a) (at2 ps b) (at2 ps c) = 0 → e = Ending.returned (triV (some res)) → e = .returned (triV (if orientP (at2 ps a) (at2 ps b) (at2 ps c) = 0 then none else some res)))) := Lib.hid (fun e => ⟨fun h he => by rw [if_pos h]; exact he, fun h he => by rw [if_neg h]; exact he⟩)
  generalize hg : (if orientP (at2 ps a) (at2 ps b) (at2 ps c) = 0 then none else some res) = G at *
  clear hg hres
  go_enter Try.func39, Try.ntmps39
  go_upto_region 2 with fail
  refine wp_world (fun W1 => (Ext w W1 ∧ w.heap.size < W1.heap.size) ∧ (W1.cell? ⟨w.heap.size, 0, none⟩ = some (.int .i64 0) ∧ W1.cell? ⟨w.heap.size, 1, none⟩ = some (.int .i64 0) ∧ W1.cell? ⟨w.heap.size, 2, none⟩ = some (.int .i64 0)) ∧ W1.frozen? ⟨w.heap.size, 0, none⟩ = false ∧ W1.frozen? ⟨w.heap.size, 1, none⟩ = false ∧ W1.frozen? ⟨w.heap.size, 2, none⟩ = false)
    ⟨⟨(Ext.refl w).alloc _, by simp⟩, ⟨by simp [go_sem], by simp [go_sem], by simp [go_sem]⟩, by simp [go_sem], by simp [go_sem], by simp [go_sem]⟩ ?_
  rintro W ⟨⟨hW, hzW⟩, ⟨r0, r1, r2⟩, g0, g1, g2⟩
  have d0 := (HR.out.ext hW)
  have hA0 : 0 < ps.length := by omega
  have ea : (a : Int) < (ps.length : Int) := by omega
  have eb : (b : Int) < (ps.length : Int) := by omega
  have ec : (c : Int) < (ps.length : Int) := by omega
  have f1 : decide ((a : Int) < 0) = false := by simp
  have f2 : decide ((b : Int) < 0) = false := by simp
  have f3 : decide ((c : Int) < 0) = false := by simp
  have f4 : decide (ps.length ≤ a) = false := by simp; omega
  have f5 : decide (ps.length ≤ b) = false := by simp; omega
  have f6 : decide (ps.length ≤ c) = false := by simp; omega
  have f7 : decide ((ps.length : Int) ≤ (a : Int)) = false := by simp; omega
  have f8 : decide ((ps.length : Int) ≤ (b : Int)) = false := by simp; omega
  have f9 : decide ((ps.length : Int) ≤ (c : Int)) = false := by simp; omega
  obtain ⟨bb, oo, rfl, hcs⟩ := d0.open_ hA0
  obtain ⟨a0, a1⟩ := hcs a ha
  obtain ⟨b0, b1⟩ := hcs b hb
  obtain ⟨c0, c1⟩ := hcs c hc
  clear hcs
  generalize hpa : at2 ps a = pa at *
  generalize hpb : at2 ps b = pb at *
  generalize hpc : at2 ps c = pc at *
  have HP := Lib.hid (show at2 ps a = pa ∧ at2 ps b = pb ∧ at2 ps c = pc from ⟨hpa, hpb, hpc⟩)
  clear hpa hpb hpc
  obtain ⟨pax, pay⟩ := pa
  obtain ⟨pbx, pby⟩ := pb
  obtain ⟨pcx, pcy⟩ := pc
  simp only at a0 a1 b0 b1 c0 c1 HOr
  generalize orientP (pax, pay) (pbx, pby) (pcx, pcy) = o at *
  have x0 := cell_ext a0
  have x1 := cell_ext a1
  have x2 := cell_ext b0
  have x3 := cell_ext b1
  have x4 := cell_ext c0
  have x5 := cell_ext c1
  refine wp_region_ext (by kernel_rfl) (by kernel_rfl) ?_
  repeat (go_big_quiet_step (((go_at_call 28; with_reducible exact ext_call (HOr.out _)))))
  refine wpQuiet_nil ?_
  intro W1 hW1_
  have hW1 := ext_of hW1_
  clear hW1_
  clear x0 x1 x2 x3 x4 x5 a0 a1 b0 b1 c0 c1 HOr f1 f2 f3 f4 f5 f6 f7 f8 f9
  replace hW := hW.trans hW1
  replace hzW := Nat.lt_of_lt_of_le hzW hW1.size
  replace g0 := hW1.frozen r0 g0
  replace g1 := hW1.frozen r1 g1
  replace g2 := hW1.frozen r2 g2
  replace r0 := hW1.cell r0
  replace r1 := hW1.cell r1
  replace r2 := hW1.cell r2
  clear hW1 d0
  by_cases ho : o = 0
  · subst ho
    have HE := Lib.hid ((HPost.out _).1 rfl rfl)
    clear HPost HAll
    go_wp2_with fail
    exact bodyPost_ret (v := .tuple #[.agg #[.int .i64 0, .int .i64 0, .int .i64 0], .bool false]) (by simp [results, Try.results39, go_sem, *]) rfl ⟨HE.out, ((hW.setCell (Nat.le_refl _) _).setCell (Nat.le_refl _) _).setCell (Nat.le_refl _) _⟩
  · have f1 : (o == 0) = false := by simpa using ho
    have HE := Lib.hid ((HPost.out _).2 ho rfl)
    have HA2 := Lib.hid (HAll.out ho)
    clear HPost HAll ho
    go_upto_region 5 with fail
    refine wp_world (fun W2 => Ext w W2 ∧ (W2.cell? ⟨w.heap.size, 0, none⟩ = some (.int .i64 0) ∧ W2.cell? ⟨w.heap.size, 1, none⟩ = some (.int .i64 0) ∧ W2.cell? ⟨w.heap.size, 2, none⟩ = some (.int .i64 0)) ∧ (W2.frozen? ⟨w.heap.size, 0, none⟩ = false ∧ W2.frozen? ⟨w.heap.size, 1, none⟩ = false ∧ W2.frozen? ⟨w.heap.size, 2, none⟩ = false) ∧ Hid (Rd3 W2 (some ⟨W1.heap.size, 0, none⟩) (sixL a b c)))
      ⟨hW.alloc _, ⟨((Ext.refl W1).alloc _).cell r0, ((Ext.refl W1).alloc _).cell r1, ((Ext.refl W1).alloc _).cell r2⟩, ⟨((Ext.refl W1).alloc _).frozen r0 g0, ((Ext.refl W1).alloc _).frozen r1 g1, ((Ext.refl W1).alloc _).frozen r2 g2⟩, Lib.hid (rd3_6n W1 36 a b c)⟩ ?_
    clear r0 r1 r2 g0 g1 g2 hW hzW
    generalize W1.heap.size = B6
    rintro W2 ⟨hW, ⟨r0, r1, r2⟩, ⟨g0, g1, g2⟩, HSix⟩
    clear HP f1
    go_wp2_with fail
    go_loopw [12, 13] (fun iv _ wx => ∃ k : Nat, k ≤ 6 ∧ iv = .int .i64 k ∧ Hid (∀ j, j < k → goodN ps (atN (sixN a b c) j) = false) ∧ Ext W2 wx) (fun iv _ _ => 6 - (intOf iv).toNat)
    case atStart => exact ⟨0, by omega, rfl, Lib.hid (fun j h => absurd h (Nat.not_lt_zero _)), Ext.refl _⟩
    case round =>
      obtain ⟨k, hk, rfl, HN, hx⟩ := hrel
      by_cases hk6 : k < 6
      · have hk61 : (k : Int) < 6 := by omega
        have hlt := six_lt (n := ps.length) hk6 ha hb hc
        have h6 := six_at a b c k hk6
        obtain ⟨b6, o6, he6, hcs⟩ := (HSix.out.ext hx).open_ (by simp [sixL])
        simp only [Option.some.injEq, Addr.mk.injEq, and_true] at he6
        obtain ⟨rfl, rfl⟩ := he6
        obtain ⟨s0, s1, s2⟩ := hcs k (by simp [sixL]; omega)
        rw [h6, Nat.zero_add] at s0 s1 s2
        clear hcs h6
        have HG := Lib.hid (HA2.out.2 k hk6)
        have HS := Lib.hid (show goodN ps (atN (sixN a b c) k) = false → ∀ j, j < k + 1 → goodN ps (atN (sixN a b c) j) = false from fun h j hj => by
          by_cases e : j = k
          · subst e; exact h
          · exact HN.out j (by omega))
        generalize atN (sixN a b c) k = t at *
        obtain ⟨x, y, z⟩ := t
        simp only [toT] at s0 s1 s2 hlt
        obtain ⟨hlx, hly, hlz⟩ := hlt
        go_upto_region 9 with fail
        clear s0 s1 s2
        refine wp_world (fun W3 => Ext wr W3 ∧ W3.cell? ⟨wr.heap.size, 0, none⟩ = some (.int .i64 x) ∧ W3.cell? ⟨wr.heap.size, 1, none⟩ = some (.int .i64 y) ∧ W3.cell? ⟨wr.heap.size, 2, none⟩ = some (.int .i64 z))
          ⟨(Ext.refl wr).alloc _, by simp [go_sem], by simp [go_sem], by simp [go_sem]⟩ ?_
        generalize wr.heap.size = B7
        rintro W3 ⟨hx3, t0, t1, t2⟩
        obtain ⟨b8, o8, he8, hcs⟩ := ((HR.out.ext (hW.trans (hx.trans hx3)))).open_ hA0
        simp only [Option.some.injEq, Addr.mk.injEq, and_true] at he8
        obtain ⟨rfl, rfl⟩ := he8
        obtain ⟨a0, a1⟩ := hcs x hlx
        obtain ⟨b0, b1⟩ := hcs y hly
        obtain ⟨c0, c1⟩ := hcs z hlz
        clear hcs
        have HGd := Lib.hid (show goodN ps (x, y, z) = (decide (x < y) && decide (x < z) && (orientP (at2 ps x) (at2 ps y) (at2 ps z) == 1)) from rfl)
        have HOr := Lib.hid (fun W => Orient3_any (at2 ps x).1 (at2 ps x).2 (at2 ps y).1 (at2 ps y).2 (at2 ps z).1 (at2 ps z).2 W)
        generalize at2 ps x = px at *
        generalize at2 ps y = py at *
        generalize at2 ps z = pz at *
        obtain ⟨pxx, pxy⟩ := px
        obtain ⟨pyx, pyy⟩ := py
        obtain ⟨pzx, pzy⟩ := pz
        simp only at a0 a1 b0 b1 c0 c1 HOr
        generalize orientP (pxx, pxy) (pyx, pyy) (pzx, pzy) = q at *
        generalize goodN ps (x, y, z) = gd at *
        have ex : (x : Int) < (ps.length : Int) := by omega
        have ey : (y : Int) < (ps.length : Int) := by omega
        have ez : (z : Int) < (ps.length : Int) := by omega
        go_cut [121] (fun g wx => ∃ Gd : Bool, g = .bool Gd ∧ Hid (Gd = gd) ∧ Ext W3 wx)
        case first =>
          have y0 := cell_ext t0
          have y1 := cell_ext t1
          have y2 := cell_ext t2
          by_cases h1 : x < y
          · have f1 : decide (x < y) = true := by simpa using h1
            have HH1 := Lib.hid f1
            clear h1
            by_cases h2 : x < z
            · have f2 : decide (x < z) = true := by simpa using h2
              have HH2 := Lib.hid f2
              clear h2
              have x0 := cell_ext a0
              have x1 := cell_ext a1
              have x2 := cell_ext b0
              have x3 := cell_ext b1
              have x4 := cell_ext c0
              have x5 := cell_ext c1
              refine wp_region_ext (by kernel_rfl) (by kernel_rfl) ?_
              repeat (go_big_quiet_step (((go_at_call 28; with_reducible exact ext_call (HOr.out _)))))
              refine wpQuiet_nil ?_
              intro W4 hW4_
              have hW4 := ext_of hW4_
              clear hW4_
              go_wp2_with fail
              go_meet
              exact ⟨_, rfl, Lib.hid (by rw [HGd.out, HH1.out, HH2.out]; simp), hW4⟩
            · have f2 : decide (x < z) = false := by simpa using h2
              have HH2 := Lib.hid f2
              clear h2
              refine wp_region_ext (by kernel_rfl) (by kernel_rfl) ?_
              repeat (go_big_quiet_step ((fail)))
              refine wpQuiet_nil ?_
              intro W4 hW4_
              have hW4 := ext_of hW4_
              clear hW4_
              go_wp2_with fail
              go_meet
              exact ⟨_, rfl, Lib.hid (by rw [HGd.out, HH2.out]; simp), hW4⟩
          · have f1 : decide (x < y) = false := by simpa using h1
            have HH1 := Lib.hid f1
            clear h1
            refine wp_region_ext (by kernel_rfl) (by kernel_rfl) ?_
            repeat (go_big_quiet_step ((fail)))
            refine wpQuiet_nil ?_
            intro W4 hW4_
            have hW4 := ext_of hW4_
            clear hW4_
            go_wp2_with fail
            go_meet
            exact ⟨_, rfl, Lib.hid (by rw [HGd.out, HH1.out]; simp), hW4⟩
        case rest =>
          obtain ⟨Gd, rfl, HGd2, hx4⟩ := hcut
          replace hx := (hx.trans hx3).trans hx4
          replace t0 := hx4.cell t0
          replace t1 := hx4.cell t1
          replace t2 := hx4.cell t2
          clear a0 a1 b0 b1 c0 c1 HOr HGd hx3 hx4
          cases Gd with
          | false =>
            have HS1 := Lib.hid (HS.out HGd2.out.symm)
            clear HS HG HGd2
            go_wp2_with fail
            go_roundw
            case rel => exact ⟨k + 1, by omega, by go_num, HS1, hx⟩
            case measure => simp [intOf]; omega
          | true =>
            have HRes := Lib.hid (show ((x : Int), (y : Int), (z : Int)) = res from HG.out HGd2.out.symm)
            have q0 := hx.cell r0
            have q1 := hx.cell r1
            have q2 := hx.cell r2
            have k0 := hx.frozen r0 g0
            have k1 := hx.frozen r1 g1
            have k2 := hx.frozen r2 g2
            clear HS HG HGd2 r0 r1 r2 g0 g1 g2
            have hfin : Ext w (((wc.setCell ⟨w.heap.size, 0, none⟩ (.int .i64 x)).setCell ⟨w.heap.size, 1, none⟩ (.int .i64 y)).setCell ⟨w.heap.size, 2, none⟩ (.int .i64 z)) := (((hW.trans hx).setCell (Nat.le_refl _) _).setCell (Nat.le_refl _) _).setCell (Nat.le_refl _) _
            have HFin := Lib.hid hfin
            clear hfin
            go_wp2_with fail
            exact bodyPost_ret (v := .tuple #[.agg #[.int .i64 x, .int .i64 y, .int .i64 z], .bool true]) (by simp [results, Try.results39, go_sem, *]) rfl ⟨by rw [← HE.out, ← HRes.out]; rfl, HFin.out⟩
      · have hk61 : ¬ (k : Int) < 6 := by omega
        exfalso
        obtain ⟨i, hi, hgi⟩ := HA2.out.1
        have := HN.out i (by omega)
        rw [hgi] at this; cases this

theorem Tri12_any (A : Option Addr) (cap : Nat) (ps : List (Int × Int)) (a b c : Int) (w : World) (hl : ps.length ≤ 1000000) (hR : Rd2 w A ps) :
    Calls Try.prog 39 #[.slice A ps.length cap, .int .i64 a, .int .i64 b, .int .i64 c] w fun e w' => e = .returned (triV (triP ps a b c)) ∧ Ext w w' := by
  unfold triP
  cases h : inR ps.length a && inR ps.length b && inR ps.length c
  · simp only [Bool.false_eq_true, if_false]
    exact Tri12_out A cap ps a b c w hl h
  · simp only [if_true]
    unfold inR at h
    simp at h
    obtain ⟨⟨⟨a1, a2⟩, b1, b2⟩, c1, c2⟩ := h
    obtain ⟨na, rfl⟩ := Int.eq_ofNat_of_zero_le a1
    obtain ⟨nb, rfl⟩ := Int.eq_ofNat_of_zero_le b1
    obtain ⟨nc, rfl⟩ := Int.eq_ofNat_of_zero_le c1
    have := Tri12_in A cap ps na nb nc w hl hR (by omega) (by omega) (by omega)
    simp only [Int.toNat_natCast]
    refine this.mono ?_
    rintro e w' ⟨rfl, hx⟩
    refine ⟨?_, hx⟩
    split
    · rfl
    · split <;> rfl
end Go.Proofs.Ytagofpmcbbkmgaa
