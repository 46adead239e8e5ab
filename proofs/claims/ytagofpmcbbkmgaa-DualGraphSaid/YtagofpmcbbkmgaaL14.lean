/- slices.Index, slices.Contains of segments; package dual: quad, Quad. -/
import Derived.Test.YtagofpmcbbkmgaaL13
import Derived.Test.YtagofpmcbbkmgaaLQ
import Derived.Deep.RegionHeld3
namespace Go.Proofs.Ytagofpmcbbkmgaa
open Go.RowKit

/-- where a segment stands first; -1: nowhere -/
def idxS (k : Nat) (s : Int × Int) : List (Int × Int) → Int
  | [] => -1
  | x :: l => if s = x then k else idxS (k + 1) s l
theorem idxS_take (s : Int × Int) : ∀ (l : List (Int × Int)) (k i : Nat), i < l.length → (∀ j, j < i → at2 l j ≠ s) → at2 l i = s → idxS k s l = ((k + i : Nat) : Int)
  | [], _, _, hi, _, _ => by simp at hi
  | x :: l, k, 0, _, _, h => by
    simp [at2] at h
    simp [idxS, h]
  | x :: l, k, i + 1, hi, hn, h => by
    have h0 := hn 0 (by omega)
    simp [at2] at h0
    have := idxS_take s l (k + 1) i (by simpa using hi) (fun j hj => by have := hn (j + 1) (by omega); simpa [at2] using this) (by simpa [at2] using h)
    simp only [idxS]
    rw [if_neg (fun e => h0 e.symm), this]
    congr 1
    omega
theorem idxS_none (s : Int × Int) : ∀ (l : List (Int × Int)) (k : Nat), (∀ j, j < l.length → at2 l j ≠ s) → idxS k s l = -1
  | [], _, _ => rfl
  | x :: l, k, hn => by
    have h0 := hn 0 (by simp)
    simp [at2] at h0
    have := idxS_none s l (k + 1) (fun j hj => by have := hn (j + 1) (by simpa using hj); simpa [at2] using this)
    simp only [idxS]
    rw [if_neg (fun e => h0 e.symm), this]

set_option maxHeartbeats 1000000 in
set_option maxRecDepth 100000 in
theorem indexSeg_any (A : Option Addr) (c : Nat) (l : List (Int × Int)) (x y : Int) (w : World) (hl : l.length ≤ 1000000) (hR : Rd2 w A l) :
    Calls Try.prog 89 #[.slice A l.length c, .agg #[.int .i64 x, .int .i64 y]] w fun e w' => e = .returned (.int .i64 (idxS 0 (x, y) l)) ∧ Ext w w' := by
  go_enter Try.func89, Try.ntmps89
  go_wp2_with fail
  go_loopw [8] (fun i wr => ∃ k : Nat, k ≤ l.length ∧ i = .int .i64 k ∧ Hid (∀ j, j < k → at2 l j ≠ (x, y)) ∧ Ext w wr ∧ wr.cell? ⟨w.heap.size, 0, none⟩ = some (.int .i64 x) ∧ wr.cell? ⟨w.heap.size, 1, none⟩ = some (.int .i64 y)) (fun i _ => l.length - (intOf i).toNat)
  case atStart => exact ⟨0, Nat.zero_le _, rfl, (show ∀ j, j < 0 → at2 l j ≠ (x, y) from fun j hj => absurd hj (Nat.not_lt_zero _)), (Ext.refl _).alloc _, by simp [go_sem], by simp [go_sem]⟩
  case round =>
    obtain ⟨k, hk, rfl, HN, hx, v0, v1⟩ := hrel
    by_cases hlt : k < l.length
    · obtain ⟨b, o, rfl, hc⟩ := (hR.ext hx).open_ (by omega)
      obtain ⟨c0, c1⟩ := hc k hlt
      clear hc hR
      generalize hp : at2 l k = p at *
      obtain ⟨p0, p1⟩ := p
      simp only at c0 c1
      have HP := Lib.hid hp
      clear hp
      have he := eqSeg_op (x, y) (p0, p1)
      unfold segV at he
      simp only at he
      have x0 := cell_ext c0
      have x1 := cell_ext c1
      have x2 := cell_ext v0
      have x3 := cell_ext v1
      have hlt' : (k : Int) < (l.length : Int) := by omega
      by_cases hq : (x, y) = (p0, p1)
      · have hd : decide ((x, y) = (p0, p1)) = true := by simpa using hq
        rw [hd] at he
        have HI := Lib.hid (idxS_take (x, y) l 0 k hlt HN.out (HP.out.trans hq.symm))
        clear hq hd
        go_wp2_with fail
        refine wp_region_ext (by kernel_rfl) (by kernel_rfl) ?_
        repeat (go_big_quiet_step ((fail)))
        refine wpQuiet_nil ?_
        intro W1 hW1_
        have hW1 := ext_of hW1_
        clear hW1_
        go_wp2_with fail
        go_ret
        exact ⟨ret_i64 (by have := HI.out; rw [Nat.zero_add] at this; exact this.symm), hx.trans hW1⟩
      · have hd : decide ((x, y) = (p0, p1)) = false := by simpa using hq
        rw [hd] at he
        have HQ := Lib.hid hq
        clear hq hd
        go_wp2_with fail
        refine wp_region_ext (by kernel_rfl) (by kernel_rfl) ?_
        repeat (go_big_quiet_step ((fail)))
        refine wpQuiet_nil ?_
        intro W1 hW1_
        have hW1 := ext_of hW1_
        clear hW1_
        go_wp2_with fail
        go_roundw
        case rel => exact ⟨k + 1, by omega, by go_num, (show ∀ j, j < k + 1 → at2 l j ≠ (x, y) from fun j hj => by
          by_cases e : j = k
          · subst e; rw [HP.out]; exact fun h => HQ.out h.symm
          · exact HN.out j (by omega)), hx.trans hW1, hW1.cell v0, hW1.cell v1⟩
        case measure => simp [intOf]; omega
    · have HI := Lib.hid (idxS_none (x, y) l 0 (fun j hj => HN.out j (by omega)))
      go_wp2_with fail
      go_ret
      exact ⟨ret_i64 HI.out.symm, hx⟩

theorem idxS_mem (s : Int × Int) : ∀ (l : List (Int × Int)) (k : Nat), 0 ≤ idxS k s l ↔ s ∈ l
  | [], _ => by simp [idxS]
  | x :: l, k => by
    have ih := idxS_mem s l (k + 1)
    unfold idxS
    by_cases h : s = x
    · rw [if_pos h]; simp [h]
    · rw [if_neg h, ih]; simp [h]
theorem idxS_iff (s : Int × Int) (l : List (Int × Int)) (k : Nat) : decide (0 ≤ idxS k s l) = decide (s ∈ l) := decide_eq_decide.2 (idxS_mem s l k)

set_option maxHeartbeats 1000000 in
set_option maxRecDepth 100000 in
theorem containsSeg_any (A : Option Addr) (c : Nat) (l : List (Int × Int)) (x y : Int) (w : World) (hl : l.length ≤ 1000000) (hR : Rd2 w A l) :
    Calls Try.prog 73 #[.slice A l.length c, .agg #[.int .i64 x, .int .i64 y]] w fun e w' => e = .returned (.bool (decide ((x, y) ∈ l))) ∧ Ext w w' := by
  rw [← idxS_iff (x, y) l 0]
  have HI := Lib.hid (fun W h => indexSeg_any A c l x y W hl h)
  have HR := Lib.hid hR
  generalize idxS 0 (x, y) l = r at *
  clear hR
  go_enter Try.func73, Try.ntmps73
  go_wp2_with fail
  refine (HI.out _ (HR.out.ext ((Ext.refl _).alloc _))).mono ?_
  rintro e W1 ⟨rfl, hW1⟩
  go_wp2_with fail
  go_ret
  exact ⟨rfl, ((Ext.refl _).alloc _).trans hW1⟩

/-- two triangles as one face, of what may be -/
def quadP (ps : List (Int × Int)) (ss : List (Int × Int)) (a b : Int × Int × Int) : Option (List Int) :=
  let l := (sharedP a b).1
  if (sharedP a b).2 = true ∧ upS (l.1, l.2.2.1) ∉ ss ∧ convexB [at2 ps l.1.toNat, at2 ps l.2.1.toNat, at2 ps l.2.2.1.toNat, at2 ps l.2.2.2.toNat] = true then some (fromP l) else none

/-- What a call has answered. -/
def QuadRes (w0 w' : World) (e : Ending) : Option (List Int) → Prop
  | none => e = .returned (.tuple #[.slice none 0 0, .bool false])
  | some l => ∃ A c, e = .returned (.tuple #[.slice A 4 c, .bool true]) ∧ w'.ownsRow w0.heap.size 3 1 (.slice A 4 c) 4 (l.map (Value.int .i64))

def inT (n : Nat) (t : Int × Int × Int) : Prop := (0 ≤ t.1 ∧ t.1 < n) ∧ (0 ≤ t.2.1 ∧ t.2.1 < n) ∧ (0 ≤ t.2.2 ∧ t.2.2 < n)
def in4 (n : Nat) (t : Int × Int × Int × Int) : Prop := (0 ≤ t.1 ∧ t.1 < n) ∧ (0 ≤ t.2.1 ∧ t.2.1 < n) ∧ (0 ≤ t.2.2.1 ∧ t.2.2.1 < n) ∧ (0 ≤ t.2.2.2 ∧ t.2.2.2 < n)
theorem sideT_in {n : Nat} {t : Int × Int × Int} (h : inT n t) : ∀ i, inT n (sideT t i)
  | 0 => ⟨h.1, h.2.1, h.2.2⟩
  | 1 => ⟨h.2.1, h.2.2, h.1⟩
  | _ + 2 => ⟨h.2.2, h.1, h.2.1⟩
theorem shRow_in {n : Nat} {x b : Int × Int × Int} (hx : inT n x) (hb : inT n b) {s : (Int × Int × Int × Int) × Int} (hs : s.2 = 0 ∨ in4 n s.1) : ∀ j, (shRow s x b j).2 = 0 ∨ in4 n (shRow s x b j).1
  | 0 => hs
  | j + 1 => by
    have h := shRow_in hx hb hs j
    simp only [shRow, shStep]
    split
    · exact Or.inr ⟨hx.1, (sideT_in hb j).2.2, hx.2.1, hx.2.2⟩
    · exact h
theorem shAll_in {n : Nat} {a b : Int × Int × Int} (ha : inT n a) (hb : inT n b) : ∀ i, (shAll a b i).2 = 0 ∨ in4 n (shAll a b i).1
  | 0 => Or.inl rfl
  | i + 1 => shRow_in (sideT_in ha i) hb (shAll_in ha hb i) 3
theorem sharedP_in {n : Nat} {a b : Int × Int × Int} {q : Int × Int × Int × Int} (h : (sharedP a b).2 = true) (hq : (sharedP a b).1 = q) (ha : inT n a) (hb : inT n b) : in4 n q := by
  subst hq
  rcases shAll_in ha hb 3 with h0 | h0
  · simp [sharedP, h0] at h
  · exact h0

theorem rd2_new (w : World) (t : TypeId) (xp yp xq yq xr yr xs ys : Int) :
    Rd2 (w.alloc (.cells #[.int .i64 xp, .int .i64 yp, .int .i64 xq, .int .i64 yq, .int .i64 xr, .int .i64 yr, .int .i64 xs, .int .i64 ys] t)) (some ⟨w.heap.size, 0, none⟩) [(xp, yp), (xq, yq), (xr, yr), (xs, ys)] := by
  refine Or.inr ⟨_, _, rfl, ?_⟩
  intro j x hj
  match j, hj with
  | 0, hj => simp at hj; subst hj; simp [go_sem]
  | 1, hj => simp at hj; subst hj; simp [go_sem]
  | 2, hj => simp at hj; subst hj; simp [go_sem]
  | 3, hj => simp at hj; subst hj; simp [go_sem]
  | n + 4, hj => simp at hj
theorem own_new (w : World) : Own4 (w.alloc (.cells #[.int .i64 0, .int .i64 0, .int .i64 0, .int .i64 0] 114)) w.heap.size (0, 0, 0, 0) :=
  ⟨⟨by simp [go_sem], by simp [go_sem], by simp [go_sem], by simp [go_sem]⟩, by simp [go_sem], by simp [go_sem], by simp [go_sem], by simp [go_sem]⟩

set_option maxHeartbeats 4000000 in
set_option maxRecDepth 100000 in
theorem quad_any (AP AT AS : Option Addr) (cp ct cs : Nat) (ps : List (Int × Int)) (ts : List (Int × Int × Int)) (ss : List (Int × Int)) (i k : Nat) (w : World) (hM : Mesh w AP AT AS ps ts ss) (hi : i < ts.length) (hk : k < ts.length) (hin : ∀ j, j < ts.length → inT ps.length (at3 ts j)) :
    Calls Try.prog 44 #[.agg #[.slice AP ps.length cp, .slice AT ts.length ct, .slice AS ss.length cs], .int .i64 i, .int .i64 k] w fun e w' => QuadRes w w' e (quadP ps ss (at3 ts i) (at3 ts k)) ∧ Ext w w' := by
  obtain ⟨hP, hT, hS, lp, lt, ls⟩ := hM
  obtain ⟨b, o, rfl, hc⟩ := hT.open_ (by omega)
  obtain ⟨c0, c1, c2⟩ := hc i hi
  obtain ⟨d0, d1, d2⟩ := hc k hk
  have ha := hin i hi
  have hb := hin k hk
  clear hc hT hin
  generalize at3 ts i = ta at *
  generalize at3 ts k = tb at *
  obtain ⟨a0, a1, a2⟩ := ta
  obtain ⟨b0, b1, b2⟩ := tb
  simp only at c0 c1 c2 d0 d1 d2
  obtain ⟨p, q, r, s, hpq⟩ : ∃ p q r s : Int, (sharedP (a0, a1, a2) (b0, b1, b2)).1 = (p, q, r, s) := ⟨_, _, _, _, rfl⟩
  have HSh := Lib.hid (fun W => (shared_any a0 a1 a2 b0 b1 b2 W).mono (R' := fun e w' => e = .returned (.tuple #[.agg #[.int .i64 p, .int .i64 q, .int .i64 r, .int .i64 s], .bool (sharedP (a0, a1, a2) (b0, b1, b2)).2]) ∧ Ext W w') (by
    rintro e w' ⟨⟨p', q', r', s', h, rfl⟩, hx⟩
    rw [hpq] at h
    cases h
    exact ⟨rfl, hx⟩))
  have hQ : quadP ps ss (a0, a1, a2) (b0, b1, b2) = if (sharedP (a0, a1, a2) (b0, b1, b2)).2 = true ∧ upS (p, r) ∉ ss ∧ convexB [at2 ps p.toNat, at2 ps q.toNat, at2 ps r.toNat, at2 ps s.toNat] = true then some (fromP (p, q, r, s)) else none := by
    unfold quadP
    rw [hpq]
  rw [hQ]
  clear hQ
  generalize hres : (if (sharedP (a0, a1, a2) (b0, b1, b2)).2 = true ∧ upS (p, r) ∉ ss ∧ convexB [at2 ps p.toNat, at2 ps q.toNat, at2 ps r.toNat, at2 ps s.toNat] = true then some (fromP (p, q, r, s)) else none) = res
  have R0 := Lib.hid (show (sharedP (a0, a1, a2) (b0, b1, b2)).2 = false → res = none from fun h => by rw [← hres, h]; simp)
  have R1 := Lib.hid (show (min p r, max p r) ∈ ss → res = none from fun h => by rw [← hres, if_neg (fun h' => h'.2.1 h)])
  have R2 := Lib.hid (show convexB [at2 ps p.toNat, at2 ps q.toNat, at2 ps r.toNat, at2 ps s.toNat] = false → res = none from fun h => by rw [← hres, h]; simp)
  have R3 := Lib.hid (show (sharedP (a0, a1, a2) (b0, b1, b2)).2 = true → (min p r, max p r) ∉ ss → convexB [at2 ps p.toNat, at2 ps q.toNat, at2 ps r.toNat, at2 ps s.toNat] = true → res = some (fromP (p, q, r, s)) from fun h1 h2 h3 => by rw [← hres, if_pos ⟨h1, h2, h3⟩])
  clear hres
  have hbd : (sharedP (a0, a1, a2) (b0, b1, b2)).2 = true → (0 ≤ p ∧ p < ps.length) ∧ (0 ≤ q ∧ q < ps.length) ∧ (0 ≤ r ∧ r < ps.length) ∧ (0 ≤ s ∧ s < ps.length) := fun h => sharedP_in h hpq ha hb
  clear hpq ha hb
  generalize (sharedP (a0, a1, a2) (b0, b1, b2)).2 = found at *
  have hi' : (i : Int) < (ts.length : Int) := by omega
  have hk' : (k : Int) < (ts.length : Int) := by omega
  have HPost := Lib.hid hbd
  clear hbd hi hk
  go_enter Try.func44, Try.ntmps44
  go_wp2_with fail
  generalize hB0 : w.heap.size = B0
  refine wp_world (fun W1 => Ext w W1 ∧ W1.cell? ⟨b, o + i * 3, none⟩ = some (.int .i64 a0) ∧ W1.cell? ⟨b, o + i * 3 + 1, none⟩ = some (.int .i64 a1) ∧ W1.cell? ⟨b, o + i * 3 + 2, none⟩ = some (.int .i64 a2) ∧ W1.cell? ⟨b, o + k * 3, none⟩ = some (.int .i64 b0) ∧ W1.cell? ⟨b, o + k * 3 + 1, none⟩ = some (.int .i64 b1) ∧ W1.cell? ⟨b, o + k * 3 + 2, none⟩ = some (.int .i64 b2) ∧
      W1.cell? ⟨B0, 0, none⟩ = some (.slice AP ps.length cp) ∧ W1.cell? ⟨B0, 1, none⟩ = some (.slice (some ⟨b, o, none⟩) ts.length ct) ∧ W1.cell? ⟨B0, 2, none⟩ = some (.slice AS ss.length cs))
    ⟨(Ext.refl w).alloc _, ((Ext.refl w).alloc _).cell c0, ((Ext.refl w).alloc _).cell c1, ((Ext.refl w).alloc _).cell c2, ((Ext.refl w).alloc _).cell d0, ((Ext.refl w).alloc _).cell d1, ((Ext.refl w).alloc _).cell d2, by subst hB0; simp [go_sem], by subst hB0; simp [go_sem], by subst hB0; simp [go_sem]⟩ ?_
  clear c0 c1 c2 d0 d1 d2 hB0
  rintro W ⟨hW, c0, c1, c2, d0, d1, d2, e0, e1, e2⟩
  have HK := Lib.hid (show ∀ W1, Ext W W1 → (Ext W W1 ∧ W1.cell? ⟨b, o + i * 3, none⟩ = some (.int .i64 a0) ∧ W1.cell? ⟨b, o + i * 3 + 1, none⟩ = some (.int .i64 a1) ∧ W1.cell? ⟨b, o + i * 3 + 2, none⟩ = some (.int .i64 a2) ∧ W1.cell? ⟨b, o + k * 3, none⟩ = some (.int .i64 b0) ∧ W1.cell? ⟨b, o + k * 3 + 1, none⟩ = some (.int .i64 b1) ∧ W1.cell? ⟨b, o + k * 3 + 2, none⟩ = some (.int .i64 b2) ∧
      W1.cell? ⟨B0, 0, none⟩ = some (.slice AP ps.length cp) ∧ W1.cell? ⟨B0, 1, none⟩ = some (.slice (some ⟨b, o, none⟩) ts.length ct) ∧ W1.cell? ⟨B0, 2, none⟩ = some (.slice AS ss.length cs)) from
    fun W1 h => ⟨h, h.cell c0, h.cell c1, h.cell c2, h.cell d0, h.cell d1, h.cell d2, h.cell e0, h.cell e1, h.cell e2⟩)
  go_cut [8, 9] (fun x8 x9 wx => ∃ B, x8 = .pointer (some ⟨B, 0, none⟩) ∧ x9 = .bool found ∧ Ext W wx ∧ W.heap.size ≤ B ∧ Own4 wx B (p, q, r, s))
  case first =>
    go_region_held3 (fun W1 => Ext W W1 ∧ W1.cell? ⟨b, o + i * 3, none⟩ = some (.int .i64 a0) ∧ W1.cell? ⟨b, o + i * 3 + 1, none⟩ = some (.int .i64 a1) ∧ W1.cell? ⟨b, o + i * 3 + 2, none⟩ = some (.int .i64 a2) ∧ W1.cell? ⟨b, o + k * 3, none⟩ = some (.int .i64 b0) ∧ W1.cell? ⟨b, o + k * 3 + 1, none⟩ = some (.int .i64 b1) ∧ W1.cell? ⟨b, o + k * 3 + 2, none⟩ = some (.int .i64 b2) ∧
      W1.cell? ⟨B0, 0, none⟩ = some (.slice AP ps.length cp) ∧ W1.cell? ⟨B0, 1, none⟩ = some (.slice (some ⟨b, o, none⟩) ts.length ct) ∧ W1.cell? ⟨B0, 2, none⟩ = some (.slice AS ss.length cs))
      (exact HK.out _ (by
        have hsz : W.heap.size ≤ W.heap.size := Nat.le_refl _
        repeat (first | exact (Ext.refl _).drew | exact ((Ext.refl _).alloc _).drew | exact (Ext.refl _).drew.trans hx | exact ((Ext.refl _).alloc _).drew.trans hx | refine Ext.setCell ?_ (by first | exact Nat.le_refl _ | exact hx.size) _ | refine Ext.alloc ?_ _)))
      ((go_at_call 72; refine (HSh.out _).mono ?_; rintro e w' ⟨rfl, hx⟩; first | (have g : Own4 w' W.heap.size (0, 0, 0, 0) := Own4.ext (own_new W) ((Ext.refl _).drew.trans hx); obtain ⟨⟨g0, g1, g2, g3⟩, f0, f1, f2, f3⟩ := g; simp only at g0 g1 g2 g3) | skip))
    all_goals (go_wp2_with fail)
    all_goals go_meet
    · exact ⟨_, rfl, rfl, ((Ext.refl _).drew.trans hx).alloc _, hx.size, ⟨⟨by simp [go_sem], by simp [go_sem], by simp [go_sem], by simp [go_sem]⟩, by simp [go_sem], by simp [go_sem], by simp [go_sem], by simp [go_sem]⟩⟩
    · exact ⟨_, rfl, rfl, ((((((Ext.refl _).alloc _).drew.trans hx).setCell (Nat.le_refl _) _).setCell (Nat.le_refl _) _).setCell (Nat.le_refl _) _).setCell (Nat.le_refl _) _, Nat.le_refl _, Own4.put (q := (0, 0, 0, 0)) ⟨⟨g0, g1, g2, g3⟩, f0, f1, f2, f3⟩ p q r s⟩
  case rest =>
    obtain ⟨B, rfl, rfl, hWc, hB, hO⟩ := hcut
    replace e0 := hWc.cell e0
    replace e2 := hWc.cell e2
    replace hB := Nat.le_trans hW.size hB
    replace hW := hW.trans hWc
    clear HSh HK e1 hWc c0 c1 c2 d0 d1 d2 W lt
    obtain ⟨⟨c0, c1, c2, c3⟩, -⟩ := hO
    simp only at c0 c1 c2 c3
    cases found with
    | false =>
      have hn := R0.out rfl
      clear R0 R1 R2 R3
      subst hn
      go_wp2_with fail
      exact bodyPost_ret (v := .tuple #[.slice none 0 0, .bool false]) (by simp [results, Try.results44, go_sem, *]) rfl ⟨rfl, hW⟩
    | true =>
      have hbd := HPost.out rfl
      have HC := Lib.hid (fun W h => containsSeg_any AS cs ss (min p r) (max p r) W ls h)
      have HS := Lib.hid (fun W (h : Ext wc W) => hS.ext (hW.trans h))
      by_cases hm : (min p r, max p r) ∈ ss
      · have hd : decide ((min p r, max p r) ∈ ss) = true := by simpa using hm
        have hn := R1.out hm
        clear R0 R1 R2 R3
        subst hn
        simp only [hd] at HC
        clear hm hd
        go_wp2_with (go_at_call 73; refine (HC.out _ (HS.out _ (Ext.refl _))).mono ?_; rintro e W1 ⟨rfl, hW1⟩)
        exact bodyPost_ret (v := .tuple #[.slice none 0 0, .bool false]) (by simp [results, Try.results44, go_sem, *]) rfl ⟨rfl, hW.trans hW1⟩
      · have hd : decide ((min p r, max p r) ∈ ss) = false := by simpa using hm
        have R4 := Lib.hid (R3.out rfl hm)
        simp only [hd] at HC
        clear hm hd R0 R1 R3
        go_wp2_with (go_at_call 73; refine (HC.out _ (HS.out _ (Ext.refl _))).mono ?_; rintro e W1 ⟨rfl, hW1⟩)
        replace e0 := hW1.cell e0
        replace c0 := hW1.cell c0
        replace c1 := hW1.cell c1
        replace c2 := hW1.cell c2
        replace c3 := hW1.cell c3
        replace hW := hW.trans hW1
        clear hW1 HC HS hS e2 HPost
        obtain ⟨⟨p0, p1⟩, ⟨q0, q1⟩, ⟨r0, r1⟩, ⟨s0, s1⟩⟩ := hbd
        obtain ⟨bp, op, rfl, hcp⟩ := (hP.ext hW).open_ (by omega)
        obtain ⟨P0, P1⟩ := hcp p.toNat (by omega)
        obtain ⟨Q0, Q1⟩ := hcp q.toNat (by omega)
        obtain ⟨Z0, Z1⟩ := hcp r.toNat (by omega)
        obtain ⟨S0, S1⟩ := hcp s.toNat (by omega)
        clear hcp hP
        generalize at2 ps p.toNat = vp at *
        generalize at2 ps q.toNat = vq at *
        generalize at2 ps r.toNat = vr at *
        generalize at2 ps s.toNat = vs at *
        obtain ⟨xp, yp⟩ := vp
        obtain ⟨xq, yq⟩ := vq
        obtain ⟨xr, yr⟩ := vr
        obtain ⟨xs, ys⟩ := vs
        simp only at P0 P1 Q0 Q1 Z0 Z1 S0 S1
        have HV := Lib.hid (fun A c W h => convex_any A c [(xp, yp), (xq, yq), (xr, yr), (xs, ys)] W (by simp) h)
        generalize convexB [(xp, yp), (xq, yq), (xr, yr), (xs, ys)] = cvx at *
        have x0 := cell_ext e0
        have x1 := cell_ext c0
        have x2 := cell_ext c1
        have x3 := cell_ext c2
        have x4 := cell_ext c3
        have y0 := cell_ext P0
        have y1 := cell_ext P1
        have y2 := cell_ext Q0
        have y3 := cell_ext Q1
        have y4 := cell_ext Z0
        have y5 := cell_ext Z1
        have y6 := cell_ext S0
        have y7 := cell_ext S1
        refine wp_region_ext_tail 24 (by kernel_rfl) (by kernel_rfl) ?_
        simp only [List.take_succ_cons, List.take_zero, List.drop_succ_cons, List.drop_zero]
        repeat (go_big_quiet_step (fail))
        refine wpQuiet_nil ?_
        intro W2 h2
        replace h2 := ext_of h2
        clear x0 x1 x2 x3 x4 y0 y1 y2 y3 y4 y5 y6 y7 e0 P0 P1 Q0 Q1 Z0 Z1 S0 S1
        replace c0 := h2.cell c0
        replace c1 := h2.cell c1
        replace c2 := h2.cell c2
        replace c3 := h2.cell c3
        replace hW := hW.trans h2
        have hF := from_any p q r s
        clear h2
        go_wp2_with fail
        refine (HV.out _ _ _ (rd2_new W2 _ xp yp xq yq xr yr xs ys)).mono ?_
        rintro e W3 ⟨rfl, hW3⟩
        replace hW3 := ((Ext.refl W2).alloc _).trans hW3
        replace c0 := hW3.cell c0
        replace c1 := hW3.cell c1
        replace c2 := hW3.cell c2
        replace c3 := hW3.cell c3
        replace hW := hW.trans hW3
        clear HV hW3
        cases cvx with
        | false =>
          have hn := R2.out rfl
          clear R2 R4
          subst hn
          go_wp2_with fail
          exact bodyPost_ret (v := .tuple #[.slice none 0 0, .bool false]) (by simp [results, Try.results44, go_sem, *]) rfl ⟨rfl, hW⟩
        | true =>
          have hn := R4.out rfl
          clear R2 R4
          subst hn
          have HF := Lib.hid (from_any p q r s)
          clear hF
          go_wp2_with fail
          refine (HF.out _).mono ?_
          rintro e W4 ⟨⟨A', c', rfl, hown⟩, hW4⟩
          go_wp2_with fail
          exact bodyPost_ret (v := .tuple #[.slice A' 4 c', .bool true]) (by simp [results, Try.results44, go_sem, *]) rfl ⟨⟨A', c', rfl, own_base_le hown hW.size⟩, hW.trans hW4⟩
end Go.Proofs.Ytagofpmcbbkmgaa
