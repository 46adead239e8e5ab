/- Rows of triangles of the call's own; the law DualFan, walked. -/
import Derived.Test.YtagofpmcbbkmgaaF2
namespace Go.Proofs.Ytagofpmcbbkmgaa
open Go.RowKit Go.Sort

def cellsT : List (Int × Int × Int) → List Value
  | [] => []
  | x :: l => .int .i64 x.1 :: .int .i64 x.2.1 :: .int .i64 x.2.2 :: cellsT l
theorem cellsT_append : ∀ a b : List (Int × Int × Int), cellsT (a ++ b) = cellsT a ++ cellsT b
  | [], _ => rfl
  | x :: a, b => by simp [cellsT, cellsT_append a b]
theorem cellsT_length : ∀ l : List (Int × Int × Int), (cellsT l).length = l.length * 3
  | [] => rfl
  | x :: l => by simp [cellsT, cellsT_length l]; omega
theorem cellsT_get : ∀ (l : List (Int × Int × Int)) (j : Nat), j < l.length → (cellsT l)[j * 3]? = some (.int .i64 (at3 l j).1) ∧ (cellsT l)[j * 3 + 1]? = some (.int .i64 (at3 l j).2.1) ∧ (cellsT l)[j * 3 + 2]? = some (.int .i64 (at3 l j).2.2)
  | [], j, h => by simp at h
  | x :: l, 0, _ => by simp [cellsT, at3]
  | x :: l, j + 1, h => by
    have := cellsT_get l j (by simpa using h)
    rw [show (j + 1) * 3 = j * 3 + 3 by omega, show j * 3 + 3 + 1 = j * 3 + 1 + 3 by omega, show j * 3 + 3 + 2 = j * 3 + 2 + 3 by omega]
    simpa [cellsT, at3] using this
theorem cellsT_one (l : List (Int × Int × Int)) : ∀ u ∈ cellsT l, u.oneCell' = true := by
  induction l with
  | nil => intro u h; cases h
  | cons x l ih =>
    intro u h
    simp only [cellsT, List.mem_cons] at h
    rcases h with rfl | rfl | rfl | h
    · rfl
    · rfl
    · rfl
    · exact ih u h
theorem own_rd3 {w : World} {base n : Nat} {e : TypeId} {A : Option Addr} {c : Nat} {l : List (Int × Int × Int)} (h : w.ownsRow base e 3 (.slice A n c) n (cellsT l)) : n = l.length ∧ Rd3 w A l := by
  have hn : n = l.length := by have := h.1; rw [cellsT_length] at this; omega
  subst hn
  refine ⟨rfl, ?_⟩
  rcases h.2 with ⟨_, h0⟩ | ⟨g, cap, cur, hv, _⟩
  · exact Or.inl (List.eq_nil_of_length_eq_zero h0)
  · simp only [Value.slice.injEq] at hv
    obtain ⟨rfl, _, rfl⟩ := hv
    refine Or.inr ⟨g, 0, rfl, fun j x hj => ?_⟩
    have hjl : j < l.length := (List.getElem?_eq_some_iff.1 hj).1
    have h2 := cellsT_get l j hjl
    have hx : at3 l j = x := by simp [at3, List.getD, hj]
    rw [hx] at h2
    have c0 := h.cellAt (j * 3) (by omega)
    have c1 := h.cellAt (j * 3 + 1) (by omega)
    have c2 := h.cellAt (j * 3 + 2) (by omega)
    rw [Nat.zero_add]
    exact ⟨c0.trans h2.1, c1.trans h2.2.1, c2.trans h2.2.2⟩
theorem infoTri : (Try.prog.info? 36).map (fun i => (i.zero, i.size, i.bytes)) = some (some (.agg #[.int .i64 0, .int .i64 0, .int .i64 0]), 3, 24) := by kernel_rfl
/-- Rows of different elements never lie in one block. -/
theorem own_other {w : World} {b b' : Nat} {e e' : TypeId} {s s' n n' : Nat} {v v' : Value} {xs xs' : List Value} (h : w.ownsRow b e s v n xs) (h' : w.ownsRow b' e' s' v' n' xs') (hne : e ≠ e') : v.ownBlock = none ∨ v.ownBlock ≠ v'.ownBlock := by
  rcases h.2 with ⟨rfl, _⟩ | ⟨g, cap, cur, rfl, _, hg, _⟩
  · exact Or.inl rfl
  · refine Or.inr fun he => ?_
    rcases h'.2 with ⟨rfl, _⟩ | ⟨g', cap', cur', rfl, _, hg', _⟩
    · simp [Value.ownBlock] at he
    · simp only [Value.ownBlock, Option.some.injEq] at he
      subst he
      rw [hg] at hg'
      simp only [Option.some.injEq, Obj.cells.injEq] at hg'
      exact hne hg'.2.1
theorem Rd2.grown {w w' : World} {b o : Nat} {xs : List (Int × Int)} {row : Option Nat} (h : Rd2 w (some ⟨b, o, none⟩) xs) (hg : w.grownBy w' row) (hne : some b ≠ row) : Rd2 w' (some ⟨b, o, none⟩) xs := by
  rcases h with rfl | ⟨b', o', e, hc⟩
  · exact Or.inl rfl
  · simp only [Option.some.injEq, Addr.mk.injEq, and_true] at e
    obtain ⟨rfl, rfl⟩ := e
    exact Or.inr ⟨b, o, rfl, fun j x hj => ⟨hg.cell (hc j x hj).1 hne, hg.cell (hc j x hj).2 hne⟩⟩
theorem grown_setCell (w : World) (p : Addr) (u : Value) : w.grownBy (w.setCell p u) (some p.block) :=
  ⟨rfl, rfl, rfl, by simp [World.setCell], fun k _ hne => Below.heap_setCell w p u k (fun e => hne (by rw [e]))⟩
theorem grown_frozen {w w' : World} {row : Option Nat} (hg : w.grownBy w' row) {p : Addr} {v : Value} (hc : w.cell? p = some v) (hne : some p.block ≠ row) (hf : w.frozen? p = false) : w'.frozen? p = false :=
  (World.frozen?_of_block (hg.block p.block (World.block_lt_of_cell? w p hc) hne)).trans hf
theorem own_far {w w' : World} {base n size k : Nat} {e : TypeId} {v : Value} {xs : List Value} (h : w.ownsRow base e size v n xs) (hg : w.grownBy w' (some k)) (hk : k < base) : w'.ownsRow base e size v n xs :=
  h.kept hg (by
    cases hv : v.ownBlock with
    | none => exact Or.inl rfl
    | some g => exact Or.inr fun he => by have := (h.lt g hv).1; simp only [Option.some.injEq] at he; omega)
theorem own_ne {w : World} {base n size k : Nat} {e : TypeId} {v : Value} {xs : List Value} (h : w.ownsRow base e size v n xs) (hk : k < base) : some k ≠ v.ownBlock := fun he => by have := (h.lt k he.symm).1; omega

/-- A mesh in a block B of the call's own; its triangles and segments in rows of the call's own. -/
structure FanM (w W : World) (PB B : Nat) (P : List (Int × Int)) (np : Nat) (A1 : Option Addr) (c1 : Nat) (ts : List (Int × Int × Int)) (A2 : Option Addr) (c2 : Nat) (ss : List (Int × Int)) : Prop where
  ext : Ext w W
  low : w.heap.size ≤ PB
  lt : PB < B
  ltB : B < W.heap.size
  pts : Rd2 W (some ⟨PB, 0, none⟩) P
  m0 : W.cell? ⟨B, 0, none⟩ = some (.slice (some ⟨PB, 0, none⟩) np 7)
  m1 : W.cell? ⟨B, 1, none⟩ = some (.slice A1 ts.length c1)
  m2 : W.cell? ⟨B, 2, none⟩ = some (.slice A2 ss.length c2)
  g1 : W.frozen? ⟨B, 1, none⟩ = false
  g2 : W.frozen? ⟨B, 2, none⟩ = false
  own1 : W.ownsRow (B + 1) 36 3 (.slice A1 ts.length c1) ts.length (cellsT ts)
  own2 : W.ownsRow (B + 1) 39 2 (.slice A2 ss.length c2) ss.length (cellsS ss)
section
variable {w W : World} {PB B np c1 c2 : Nat} {P : List (Int × Int)} {A1 A2 : Option Addr} {ts : List (Int × Int × Int)} {ss : List (Int × Int)}
theorem FanM.to {W' : World} (h : FanM w W PB B P np A1 c1 ts A2 c2 ss) (hx : Ext W W') : FanM w W' PB B P np A1 c1 ts A2 c2 ss :=
  ⟨h.ext.trans hx, h.low, h.lt, hx.lt h.ltB, h.pts.ext hx, hx.cell h.m0, hx.cell h.m1, hx.cell h.m2, hx.frozen h.m1 h.g1, hx.frozen h.m2 h.g2, own_ext h.own1 hx, own_ext h.own2 hx⟩
theorem FanM.appT (h : FanM w W PB B P np A1 c1 ts A2 c2 ss) (hs : ts.length ≤ 1000000) (x y z : Int) :
    ∃ A5 c5 w5, (Builtin.append_ #[28, 28] 28 #[.slice A1 ts.length c1, .slice (some ⟨W.heap.size, 0, none⟩) 1 1]).run Try.prog (W.alloc (.cells #[.int .i64 x, .int .i64 y, .int .i64 z] 36)) = .ok (.slice A5 (ts.length + 1) c5) w5 ∧
      w5.cell? ⟨B, 1, none⟩ = some (.slice A1 ts.length c1) ∧ w5.frozen? ⟨B, 1, none⟩ = false ∧ FanM w (w5.setCell ⟨B, 1, none⟩ (.slice A5 (ts.length + 1) c5)) PB B P np A5 c5 (ts ++ [(x, y, z)]) A2 c2 ss := by
  have h1 := h.to ((Ext.refl W).alloc (.cells #[.int .i64 x, .int .i64 y, .int .i64 z] 36))
  obtain ⟨A5, c5, w5, hr5, ho5, hg5⟩ := append_run 28 Try.underlying28 infoTri rfl (by omega) h1.own1 (by have := h1.ltB; omega) ⟨W.heap.size, 0, none⟩ 1 1 [.int .i64 x, .int .i64 y, .int .i64 z] rfl (by
    intro j u hu
    match j, hu with
    | 0, hu => simp at hu; subst hu; simp [go_sem]
    | 1, hu => simp at hu; subst hu; simp [go_sem]
    | 2, hu => simp at hu; subst hu; simp [go_sem]
    | n + 3, hu => simp at hu) (by intro u hu; simp at hu; rcases hu with rfl | rfl | rfl <;> rfl) (by omega) (by omega)
  have hne := own_ne h1.own1 (k := B) (by omega)
  have hneP := own_ne h1.own1 (k := PB) (by have := h.lt; omega)
  have k0 := hg5.cell h1.m0 hne
  have k1 := hg5.cell h1.m1 hne
  have k2 := hg5.cell h1.m2 hne
  have j1 := grown_frozen hg5 h1.m1 hne h1.g1
  have j2 := grown_frozen hg5 h1.m2 hne h1.g2
  have hgs := grown_setCell w5 ⟨B, 1, none⟩ (.slice A5 (ts.length + 1) c5)
  refine ⟨A5, c5, w5, hr5, k1, j1, ?_⟩
  have ho : w5.ownsRow (B + 1) 36 3 (.slice A5 (ts ++ [(x, y, z)]).length c5) (ts ++ [(x, y, z)]).length (cellsT (ts ++ [(x, y, z)])) := by
    rw [cellsT_append, List.length_append]; exact ho5
  have hw5 : w5.cell? ⟨B, 1, none⟩ ≠ none := by rw [k1]; simp
  refine ⟨(h1.ext.grown hg5 (fun r hr => by have := (h1.own1.lt r hr).1; have := h.low; have := h.lt; omega)).setCell (by have := h.low; have := h.lt; simp; omega) _, h.low, h.lt, ?_, ?_, ?_, ?_, ?_, ?_, ?_, own_far ho hgs (by simp), ?_⟩
  · have := hgs.size; have := hg5.size; have := h1.ltB; omega
  · exact (h1.pts.grown hg5 hneP).grown hgs (by simp; have := h.lt; omega)
  · rw [World.cell?_setCell_other _ _ _ _ (by simp)]; exact k0
  · simp [go_sem, k1]
  · rw [World.cell?_setCell_other _ _ _ _ (by simp)]; exact k2
  · simpa [go_sem] using j1
  · simpa [go_sem] using j2
  · exact own_far (h1.own2.kept hg5 (own_other h1.own2 h1.own1 (by decide))) hgs (by simp)
theorem FanM.setS (h : FanM w W PB B P np A1 c1 ts A2 c2 ss) {A3 : Option Addr} {c3 : Nat} {s3 : List (Int × Int)} (ho : W.ownsRow (B + 1) 39 2 (.slice A3 s3.length c3) s3.length (cellsS s3)) :
    FanM w (W.setCell ⟨B, 2, none⟩ (.slice A3 s3.length c3)) PB B P np A1 c1 ts A3 c3 s3 := by
  have hgs := grown_setCell W ⟨B, 2, none⟩ (.slice A3 s3.length c3)
  refine ⟨h.ext.setCell (by have := h.low; have := h.lt; simp; omega) _, h.low, h.lt, ?_, h.pts.grown hgs (by simp; have := h.lt; omega), ?_, ?_, ?_, ?_, ?_, own_far h.own1 hgs (by simp), own_far ho hgs (by simp)⟩
  · have := hgs.size; have := h.ltB; omega
  · rw [World.cell?_setCell_other _ _ _ _ (by simp)]; exact h.m0
  · rw [World.cell?_setCell_other _ _ _ _ (by simp)]; exact h.m1
  · simp [go_sem, h.m2]
  · simpa [go_sem] using h.g1
  · simpa [go_sem] using h.g2
end

theorem Rd2.take2 {w : World} {A : Option Addr} {l : List (Int × Int)} (h : Rd2 w A l) (n : Nat) : Rd2 w A (l.take n) := by
  rcases h with rfl | ⟨b, o, rfl, hc⟩
  · exact Or.inl (by simp)
  · refine Or.inr ⟨b, o, rfl, fun j x hj => hc j x ?_⟩
    rw [List.getElem?_take] at hj
    split at hj
    · exact hj
    · cases hj
theorem fan_k (n : Int) : ∃ r : Int, (IntKind.u64.wrap n).tmod 5 = r ∧ ∃ q : Nat, min (3 + r) 6 = (q : Int) + 1 + 1 ∧ 1 ≤ q ∧ q ≤ 4 ∧ 0 ≤ r ∧ r ≤ 4 := by
  have h0 : 0 ≤ IntKind.u64.wrap n := by simp [IntKind.wrap, IntKind.signed, IntKind.bits]; omega
  rw [Int.tmod_eq_emod_of_nonneg h0]
  generalize IntKind.u64.wrap n = v at *
  refine ⟨_, rfl, (min (3 + v % 5) 6 - 2).toNat, ?_, ?_, ?_, ?_, ?_⟩ <;> omega

set_option maxHeartbeats 4000000 in
set_option maxRecDepth 100000 in
theorem dualFan_any (n a : Int) (h1 : -9223372036854775808 ≤ n) (h2 : n ≤ 9223372036854775807) (h3 : 0 ≤ a) (h4 : a ≤ 255) (w : World)  :
    Calls Try.prog 9 #[.int .i64 n, .int .u8 a] w fun e w' => e = .returned (.bool true) ∧ Ext w w' := by
  obtain ⟨r, hr, q, hq, hq1, hq4, hr0, hr4⟩ := fan_k n
  go_enter Try.func9, Try.ntmps9
  go_upto_region 5 with fail
  clear hr hq
  refine wp_world (fun W => (Ext w W ∧ w.heap.size + 1 < W.heap.size) ∧ Hid (Rd2 W (some ⟨w.heap.size, 0, none⟩) (fanP (10 + a))) ∧ W.cell? ⟨w.heap.size + 1, 0, none⟩ = some (.slice (some ⟨w.heap.size, 0, none⟩) (q + 1 + 1 + 1) 7) ∧ W.cell? ⟨w.heap.size + 1, 1, none⟩ = some (.slice none 0 0) ∧ W.cell? ⟨w.heap.size + 1, 2, none⟩ = some (.slice none 0 0) ∧ W.frozen? ⟨w.heap.size + 1, 1, none⟩ = false ∧ W.frozen? ⟨w.heap.size + 1, 2, none⟩ = false)
    ⟨⟨((Ext.refl w).alloc _).alloc _, by simp⟩, Lib.hid (Or.inr ⟨_, _, rfl, fun j x hj => by
      unfold fanP at hj
      match j, hj with
      | 0, hj => simp at hj; subst hj; simp [go_sem]
      | 1, hj => simp at hj; subst hj; simp [go_sem]
      | 2, hj => simp at hj; subst hj; simp [go_sem]
      | 3, hj => simp at hj; subst hj; simp [go_sem]
      | 4, hj => simp at hj; subst hj; simp [go_sem]
      | 5, hj => simp at hj; subst hj; simp [go_sem]
      | 6, hj => simp at hj; subst hj; simp [go_sem]
      | n + 7, hj => simp at hj⟩), by simp [go_sem], by simp [go_sem], by simp [go_sem], by simp [go_sem], by simp [go_sem]⟩ ?_
  rintro WB ⟨⟨hW, hzW⟩, HP, m0, m1, m2, g1, g2⟩
  obtain ⟨B, hB⟩ : ∃ B, B = w.heap.size + 1 := ⟨_, rfl⟩
  obtain ⟨PB, hPB⟩ : ∃ PB, PB = w.heap.size := ⟨_, rfl⟩
  have hF : FanM w WB PB B (fanP (10 + a)) (q + 1 + 1 + 1) none 0 (fanT 0) none 0 (fanS0 0) := by
    subst hB hPB
    exact ⟨hW, Nat.le_refl _, by omega, hzW, HP.out, m0, m1, m2, g1, g2, World.ownsRow_nil _ _ _ _, World.ownsRow_nil _ _ _ _⟩
  rw [← hB, ← hPB]
  clear m0 m1 m2 g1 g2 hB hPB HP hzW hW
  go_wp2_with fail
  go_loopw [9] (fun i wx => ∃ (k : Nat) (A1 A2 : Option Addr) (c1 c2 : Nat), k ≤ q + 1 ∧ i = .int .i64 ((k : Int) + 1) ∧ FanM w wx PB B (fanP (10 + a)) (q + 1 + 1 + 1) A1 c1 (fanT k) A2 c2 (fanS0 k)) (fun i _ => q + 2 - (intOf i).toNat)
  case atStart => exact ⟨0, none, none, 0, 0, by omega, rfl, hF⟩
  case round =>
    clear hF
    obtain ⟨k, A1, A2, c1, c2, hk, rfl, hF⟩ := hrel
    have m0 := hF.m0
    by_cases hlt : k < q + 1
    · have hlt1 : (k : Int) + 1 + 1 < (q : Int) + 1 + 1 + 1 := by omega
      have hlen := fanT_length k
      obtain ⟨A5, c5, w5, hr5, k1, j1, hF5⟩ := hF.appT (by omega) 0 ((k : Int) + 1) ((k : Int) + 1 + 1)
      have m1 := hF.m1
      rw [hlen] at m1 hr5 hF5 k1
      rw [← fanT_succ] at hF5
      clear hlen
      have HF5 := Lib.hid hF5
      clear hF hF5
      go_upto_region 9 with (at_builtin; refine wpList_append_eq rfl _ _ _ _ rfl rfl rfl hr5 ?_)
      clear hr5 m0 m1 k1 j1
      refine wp_world (fun W => FanM w W PB B (fanP (10 + a)) (q + 1 + 1 + 1) A5 c5 (fanT (k + 1)) A2 c2 (fanS0 k)) HF5.out ?_
      intro W1 hF
      have m2 := hF.m2
      have HLay := Lib.hid (fun h => lay_any A2 c2 (fanS0 k) ((k : Int) + 1) ((k : Int) + 1 + 1) W1 h (own_cap hF.own2) (own_rd2 hF.own2).2)
      rw [show layP (fanS0 k) ((k : Int) + 1, (k : Int) + 1 + 1) = fanS0 (k + 1) from rfl] at HLay
      go_wp2_with fail
      refine (HLay.out (by have := fanS0_length k; omega)).mono ?_
      rintro e W3 ⟨⟨A3, c3, rfl, ho3⟩, hx3⟩
      have hbB := hF.ltB
      replace hF := hF.to hx3
      have n2 := hF.m2
      have j2 := hF.g2
      have HF := Lib.hid (hF.setS (own_base_le ho3 hbB))
      clear ho3 hx3 m2 HLay hbB hF HF5
      go_wp2_with fail
      go_roundw
      case rel => exact ⟨k + 1, A5, A3, c5, c3, by omega, by go_num, HF.out⟩
      case measure => simp [intOf]; omega
    · have hkq : k = q + 1 := by omega
      subst hkq
      have hlt1 : ¬ ((q : Int) + 1 + 1 + 1 < (q : Int) + 1 + 1 + 1) := by omega
      clear hlt hk
      go_upto_region 10 with fail
      have m2 := hF.m2
      have HLay := Lib.hid (fun h => lay_any A2 c2 (fanS0 (q + 1)) 0 1 wr h (own_cap hF.own2) (own_rd2 hF.own2).2)
      go_upto_region 10 with fail
      go_wp2_with fail
      refine (HLay.out (by have := fanS0_length (q + 1); omega)).mono ?_
      rintro e W3 ⟨⟨A3, c3, rfl, ho3⟩, hx3⟩
      have hbB := hF.ltB
      replace hF := hF.to hx3
      replace m0 := hF.m0
      have n2 := hF.m2
      have j2 := hF.g2
      have HF := Lib.hid (hF.setS (own_base_le ho3 hbB))
      clear ho3 hx3 m2 HLay hbB hF
      go_upto_region 11 with fail
      clear n2 j2
      refine wp_world (fun W => FanM w W PB B (fanP (10 + a)) (q + 1 + 1 + 1) A1 c1 (fanT (q + 1)) A3 c3 (layP (fanS0 (q + 1)) (0, 1))) HF.out ?_
      clear HF m0
      intro W1 hF
      have m0 := hF.m0
      have m2 := hF.m2
      have HLay := Lib.hid (fun h => lay_any A3 c3 (layP (fanS0 (q + 1)) (0, 1)) 0 ((q : Int) + 1 + 1) W1 h (own_cap hF.own2) (own_rd2 hF.own2).2)
      have e1 : (q : Int) + 1 + 1 + 1 - 1 = (q : Int) + 1 + 1 := by omega
      go_wp2_with fail
      refine (HLay.out (by have := fanS0_length (q + 1); have := layP_length (fanS0 (q + 1)) (0, 1); omega)).mono ?_
      rintro e W3 ⟨⟨A4, c4, rfl, ho3⟩, hx3⟩
      have hfs : layP (layP (fanS0 (q + 1)) (0, 1)) (0, (q : Int) + 1 + 1) = fanS (q + 1) := rfl
      rw [hfs] at ho3 ⊢
      clear hfs e1
      have hbB := hF.ltB
      replace hF := hF.to hx3
      replace m0 := hF.m0
      have n2 := hF.m2
      have j2 := hF.g2
      have HF := Lib.hid (hF.setS (own_base_le ho3 hbB))
      clear ho3 hx3 m2 HLay hbB hF
      go_upto_region 12 with fail
      clear n2 j2
      refine wp_world (fun W => FanM w W PB B (fanP (10 + a)) (q + 1 + 1 + 1) A1 c1 (fanT (q + 1)) A4 c4 (fanS (q + 1))) HF.out ?_
      clear HF m0
      intro W1 hF
      have m0 := hF.m0
      have m1 := hF.m1
      have m2 := hF.m2
      have hall := fan_all (n := q + 1) (w := 10 + a) (by omega) (by omega) (by omega) (by omega)
      have HPairs := pairs_any (some ⟨PB, 0, none⟩) A1 A4 7 c1 c4 ((fanP (10 + a)).take (q + 1 + 2)) (fanT (q + 1)) (fanS (q + 1)) W1 ⟨hF.pts.take2 _, (own_rd3 hF.own1).2, (own_rd2 hF.own2).2, by rw [fanP_length _ _ (by omega)]; omega, by rw [fanT_length]; omega, by have := fanS_length (q + 1); omega⟩
      rw [fanP_length _ _ (by omega), fanT_length] at HPairs
      rw [fanT_length] at m1
      replace HPairs := Lib.hid (HPairs.mono (R' := fun e w' => (∃ A c, e = .returned (.tuple #[.slice A q c, .int .i64 0]) ∧ Rd2 w' A (fanL q)) ∧ Ext W1 w') fun e w' h => ⟨by
        obtain ⟨A, c, he, hr⟩ := h.1.uni
        rw [hall.1, hall.2] at he
        rw [hall.2] at hr
        rw [show q + 1 - 1 = q from rfl, fanL_length] at he
        exact ⟨A, c, he, hr⟩, h.2⟩)
      have HF := Lib.hid hF
      clear hall hF
      generalize (fanS (q + 1)).length = sl at *
      go_wp2_with fail
      refine HPairs.out.mono ?_
      rintro e W2 ⟨⟨A5, c5, rfl, hr5⟩, hx⟩
      clear HPairs
      replace m1 := hx.cell m1
      have hxx := HF.out.ext.trans hx
      have HR5 := Lib.hid hr5
      clear m0 m2 hx HF hr5
      go_wp2_with fail
      go_loopw [12] (fun i wx => ∃ k : Nat, k ≤ q ∧ i = .int .i64 k ∧ Ext W2 wx) (fun i _ => q - (intOf i).toNat)
      case atStart => exact ⟨0, Nat.zero_le _, rfl, Ext.refl _⟩
      case round =>
        clear m1
        obtain ⟨k, hk, rfl, hx⟩ := hrel
        by_cases hlt : k < q
        · have hlt1 : (k : Int) < (q : Int) := by omega
          obtain ⟨b, o, rfl, hcs⟩ := (HR5.out.ext hx).open_ (by rw [fanL_length]; omega)
          obtain ⟨d0, d1⟩ := hcs k (by rw [fanL_length]; omega)
          rw [fanL_get hlt] at d0 d1
          simp only at d0 d1
          clear hcs
          have hne := fun W => neqSeg_op ((k : Int), (k : Int) + 1) ((k : Int), (k : Int) + 1) W
          simp only [segV, decide_true, Bool.not_true] at hne
          go_wp2_with fail
          go_roundw
          case rel => exact ⟨k + 1, by omega, by go_num, hx⟩
          case measure => simp [intOf]; omega
        · have hlt1 : ¬ (k : Int) < (q : Int) := by omega
          go_wp2_with fail
          refine (known17_any _).mono ?_
          rintro e W3 ⟨rfl, hx3⟩
          go_wp2_with fail
          go_ret
          exact ⟨rfl, (hxx.trans hx).trans hx3⟩
end Go.Proofs.Ytagofpmcbbkmgaa
