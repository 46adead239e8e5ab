/- Appending to a slice of the call's own; slices.Grow of nothing, slices.Concat of two slices of numbers; package dual: from. -/
import Derived.Test.YtagofpmcbbkmgaaL12
import Derived.StillTailTactics
namespace Go.Proofs.Ytagofpmcbbkmgaa
open Go.RowKit

theorem own_form {w : World} {base : Nat} {e : TypeId} {size n : Nat} {v : Value} {xs : List Value} (h : w.ownsRow base e size v n xs) : ∃ A c, v = .slice A n c := by
  rcases h.2 with ⟨rfl, rfl⟩ | ⟨g, cap, cur, rfl, _⟩
  · exact ⟨none, 0, rfl⟩
  · exact ⟨_, cap, rfl⟩

section
variable {t e : TypeId} {size bytes : Nat} {z : Value}
/-- Appending what lies in memory to a row of the call's own. -/
theorem append_run (ty : TypeId) (ht : Try.prog.underlying t = some (.slice e)) (hinfo : (Try.prog.info? e).map (fun i => (i.zero, i.size, i.bytes)) = some (some z, size, bytes)) (hzs : z.cells.size = size) (hsz : 0 < size)
    {w : World} {base n : Nat} {v : Value} {xs : List Value} (hown : w.ownsRow base e size v n xs) (hbase : base ≤ w.heap.size)
    (a : Addr) (m c : Nat) (news : List Value) (hl : news.length = m * size) (hnews : ∀ j u, news[j]? = some u → w.cell? (a.add j) = some u) (h1 : ∀ u ∈ news, u.oneCell' = true) (hnm : n + m ≤ 1000000000) (hb : bytes ≤ 1000) :
    ∃ A' c' w', (Builtin.append_ #[t, t] ty #[v, .slice (some a) m c]).run Try.prog w = .ok (.slice A' (n + m) c') w' ∧ w'.ownsRow base e size (.slice A' (n + m) c') (n + m) (xs ++ news) ∧ w.grownBy w' v.ownBlock := by
  cases hi : Try.prog.info? e with
  | none => rw [hi] at hinfo; cases hinfo
  | some i =>
    rw [hi] at hinfo
    simp only [Option.map_some, Option.some.injEq, Prod.mk.injEq] at hinfo
    obtain ⟨hz, hs, hy⟩ := hinfo
    have hmul : (n + m) * bytes ≤ 1000000000 * 1000 := Nat.mul_le_mul hnm hb
    obtain ⟨v', w', h2, h3, h4, _⟩ := run_append_own (P := Try.prog) w base t ty e i z size bytes ht hi hz hs hy hzs hsz v n xs hown a m c news hl hnews h1 (by unfold maxLen; omega) (by omega) hbase
    obtain ⟨A', c', rfl⟩ := own_form h3
    exact ⟨A', c', w', h2, h3, h4⟩
end

/-- An append whose run is known. -/
theorem wpList_append_eq {P : Program} {ops : Array Oper} {rest : List Oper} {o : Oper} {a : Act} {Q : Exit → Act → World → Prop} {w w' : World} (hgd : o.guard = none) (s x : Operand) (t u : TypeId)
    (ho : o.op = .call { callee := .builtin .append, args := #[s, x], argTypes := #[t, u] }) {v y v' : Value} (hs : a.eval s = v) (hx : a.eval x = y) (hr : (Builtin.append_ #[t, u] o.type #[v, y]).run P w = .ok v' w')
    (h : wpList P ops Q rest (a.put o.dst v') w') : wpList P ops Q (o :: rest) a w :=
  wpList_plain hgd fun _ hK => by
    unfold Oper.wp execOp
    simp only [ho, resolve, invoke, builtin, Sem.run_bind, Sem.run_pure, Result.andThen_ok, List.map_toArray, List.map_cons, List.map_nil, hs, hx, hr]
    exact hK _ _ h

theorem infoInt : (Try.prog.info? 3).map (fun i => (i.zero, i.size, i.bytes)) = some (some (.int .i64 0), 1, 8) := by kernel_rfl

/-- Room for so many numbers. -/
theorem grow_run (ty : TypeId) (n : Nat) (w : World) (h0 : 0 < n) (hn : n ≤ 1000000) :
    ∃ c w', (Builtin.append_ #[24, 3] ty #[.slice none 0 0, .int .i64 n]).run Try.prog w = .ok (.slice (some ⟨w.heap.size, 0, none⟩) n c) w' ∧ n ≤ c ∧ w'.ownsRow w.heap.size 3 1 (.slice (some ⟨w.heap.size, 0, none⟩) 0 c) 0 [] ∧ Ext w w' ∧ w'.heap.size = w.heap.size + 1 := by
  cases hi : Try.prog.info? 3 with
  | none => have := infoInt; rw [hi] at this; cases this
  | some i =>
    have hinfo := infoInt
    rw [hi] at hinfo
    simp only [Option.map_some, Option.some.injEq, Prod.mk.injEq] at hinfo
    obtain ⟨hz, hs, hy⟩ := hinfo
    have hw : IntKind.i64.wrap (n : Int) = n := IntWalk.i64_in _ (by omega)
    have h1 : ¬ ((n : Int) < 0) := by omega
    have h2 : ¬ ((n : Int) * 8 > 281474976710656) := by omega
    have h3 : ¬ n = 0 := by omega
    have h5 : ¬ (281474976710656 < Builtin.nextslicecap n 0 * 8) := by
      have : Builtin.nextslicecap n 0 = n := by unfold Builtin.nextslicecap; rw [if_pos (by omega)]
      rw [this]; omega
    have h6 : ¬ (9223372036854775807 < (n : Int)) := by omega
    have ha : ∀ W, (asInt (.int .i64 (n : Int))).run Try.prog W = .ok (n : Int) W := fun _ => rfl
    have h7 : ¬ ((n : Int) ≤ 0) := by omega
    have h8 : ¬ n ≤ 0 := by omega
    have h9 : ¬ (281474976710656 < (n : Int) * 8) := by omega
    have hcap := grownCap_ge w n 0 3
    have hcapm := grownCap_le_maxLen w n 0 3 (by unfold maxLen; omega)
    refine ⟨grownCap w n 0 3, w.drew.alloc (.cells (Builtin.zeroCells #[.int .i64 0] n ++ Builtin.zeroCells #[.int .i64 0] (grownCap w n 0 3 - n)) 3), ?_, hcap, ?_, ((Ext.refl _).drew).alloc _, by simp⟩
    · simp [Builtin.append_, run_underlying Try.underlying24, run_underlying Try.underlying3, sizeOf, typeInfo, zeroValue, hi, hz, hs, hy, ha, hw, h1, h2, h3, h5, h6, h7, h8, h9, Question.forced, newRow, grownCap, Value.cells, Builtin.firstCells]
    · have := World.ownsRow_made (base := w.heap.size) (e := 3) (size := 1) w.drew (Builtin.zeroCells #[.int .i64 0] n ++ Builtin.zeroCells #[.int .i64 0] (grownCap w n 0 3 - n)) (grownCap w n 0 3) (by simp) hcapm (by simp [size_zeroCells]; omega)
      simpa using this

set_option maxHeartbeats 1000000 in
set_option maxRecDepth 100000 in
theorem grow_nil (n : Nat) (w : World) (h0 : 0 < n) (hn : n ≤ 1000000) :
    Calls Try.prog 119 #[.slice none 0 0, .int .i64 n] w fun e w' => (∃ c, e = .returned (.slice (some ⟨w.heap.size, 0, none⟩) 0 c) ∧ w'.ownsRow w.heap.size 3 1 (.slice (some ⟨w.heap.size, 0, none⟩) 0 c) 0 []) ∧ Ext w w' ∧ w'.heap.size = w.heap.size + 1 := by
  obtain ⟨c, w', hr, hc, hown, hx, hz⟩ := grow_run 24 n w h0 hn
  have h0' : (0 : Int) < (n : Int) := by omega
  go_enter Try.func119, Try.ntmps119
  go_wp2_with (at_builtin; refine wpList_append_eq rfl _ _ _ _ rfl rfl rfl hr ?_)
  go_ret
  exact ⟨⟨c, rfl, hown⟩, hx, hz⟩

/-- The cells of a stretch. -/
def CellsI (w : World) (a : Addr) (xs : List Int) : Prop := ∀ j u, (xs.map (Value.int .i64))[j]? = some u → w.cell? (a.add j) = some u
theorem CellsI.ext {w w' : World} {a : Addr} {xs : List Int} (h : CellsI w a xs) (hx : Ext w w') : CellsI w' a xs := fun j u hu => hx.cell (h j u hu)
theorem CellsI.grown {w w' : World} {a : Addr} {xs : List Int} {row : Option Nat} (h : CellsI w a xs) (hg : w.grownBy w' row) (hne : some a.block ≠ row) : CellsI w' a xs := fun j u hu => hg.cell (h j u hu) (by
  have : (a.add j).block = a.block := by unfold Addr.add; split <;> rfl
  rw [this]; exact hne)
theorem oneCell_ints (xs : List Int) : ∀ u ∈ xs.map (Value.int .i64), u.oneCell' = true := by
  intro u hu
  rw [List.mem_map] at hu
  obtain ⟨x, _, rfl⟩ := hu
  rfl

set_option maxHeartbeats 2000000 in
set_option maxRecDepth 100000 in
theorem concat2 (B c c1 c2 : Nat) (a1 a2 : Addr) (xs1 xs2 : List Int) (w : World) (h0 : w.cell? ⟨B, 0, none⟩ = some (.slice (some a1) xs1.length c1)) (h1 : w.cell? ⟨B, 1, none⟩ = some (.slice (some a2) xs2.length c2))
    (hs1 : CellsI w a1 xs1) (hs2 : CellsI w a2 xs2) (hb1 : a1.block < w.heap.size) (hb2 : a2.block < w.heap.size) (hn : 0 < xs1.length + xs2.length) (hm1 : xs1.length ≤ 1000) (hm2 : xs2.length ≤ 1000) :
    Calls Try.prog 92 #[.slice (some ⟨B, 0, none⟩) 2 c] w fun e w' => (∃ A' c', e = .returned (.slice A' (xs1.length + xs2.length) c') ∧ w'.ownsRow w.heap.size 3 1 (.slice A' (xs1.length + xs2.length) c') (xs1.length + xs2.length) ((xs1 ++ xs2).map (Value.int .i64))) ∧ Ext w w' := by
  have hB := World.block_lt_of_cell? w _ h0
  go_enter Try.func92, Try.ntmps92
  go_wp2_with fail
  refine wp_loop_rounds 3 ?_
  rw [rounds_succ]
  go_wp2_with fail
  rw [rounds_succ]
  go_wp2_with fail
  rw [rounds_succ]
  go_wp2_with fail
  rw [show ((xs1.length : Int) + (xs2.length : Int)) = ((xs1.length + xs2.length : Nat) : Int) from by omega]
  refine (grow_nil _ _ hn (by omega)).mono ?_
  rintro e W1 ⟨⟨cap, rfl, hown⟩, hx, hz⟩
  have hs1' := hs1.ext hx
  have hs2' := hs2.ext hx
  have h0' := hx.cell h0
  have h1' := hx.cell h1
  obtain ⟨A1, k1, W2, hr1, hown1, hg1⟩ := append_run 24 Try.underlying24 infoInt rfl (by omega) hown (by omega) a1 xs1.length c1 (xs1.map (Value.int .i64)) (by simp) hs1' (oneCell_ints _) (by omega) (by omega)
  simp only [Nat.zero_add, List.nil_append] at hr1 hown1
  have hs2'' : CellsI W2 a2 xs2 := hs2'.grown hg1 (by simp [Value.ownBlock]; omega)
  obtain ⟨A2, k2, W3, hr2, hown2, hg2⟩ := append_run 24 Try.underlying24 infoInt rfl (by omega) hown1 (by have := hg1.size; omega) a2 xs2.length c2 (xs2.map (Value.int .i64)) (by simp) hs2'' (oneCell_ints _) (by omega) (by omega)
  simp only [← List.map_append] at hr2 hown2
  have h1'' := hg1.cell h1' (by simp [Value.ownBlock]; omega)
  clear hs1 hs2 hs1' hs2' hs2'' h0 h1
  go_wp2_with fail
  refine wp_loop_rounds 3 ?_
  rw [rounds_succ]
  go_wp2_with (at_builtin; refine wpList_append_eq rfl _ _ _ _ rfl rfl rfl hr1 ?_)
  rw [rounds_succ]
  go_wp2_with (at_builtin; refine wpList_append_eq rfl _ _ _ _ rfl rfl rfl hr2 ?_)
  rw [rounds_succ]
  go_wp2_with fail
  go_ret
  refine ⟨⟨A2, k2, rfl, hown2⟩, ?_⟩
  · exact (hx.grown hg1 (by intro q hq; simp [Value.ownBlock] at hq; omega)).grown hg2 (by intro q hq; have := (hown1.lt q hq).1; omega)

theorem ext_call1 {P : Program} {f : FuncId} {args : Array Value} {w : World} {n : Nat} {os : Array Obj} {v : Value}
    (h : Calls P f args (extW w n os) fun e w' => e = .returned v ∧ w' = extW w n os) : Calls P f args (extW w n os) fun e w'' => e = .returned v ∧ ∃ p : ExtBy, w'' = extW w p.n p.os :=
  ext_call (h.mono fun _ _ ⟨he, hx⟩ => ⟨he, hx ▸ Ext.refl _⟩)
theorem own_base_le {w : World} {base base' : Nat} {e : TypeId} {size n : Nat} {v : Value} {xs : List Value} (h : w.ownsRow base e size v n xs) (hb : base' ≤ base) : w.ownsRow base' e size v n xs := by
  refine ⟨h.1, h.2.imp id ?_⟩
  rintro ⟨g, cap, cur, hv, hg, r⟩
  exact ⟨g, cap, cur, hv, Nat.le_trans hb hg, r⟩
/-- the places gone round from the least on -/
def fromI (p q r s : Int) : Nat := if p ≤ q ∧ p ≤ r ∧ p ≤ s then 0 else if q ≤ r ∧ q ≤ s then 1 else if r ≤ s then 2 else 3
def fromP (t : Int × Int × Int × Int) : List Int :=
  let l := [t.1, t.2.1, t.2.2.1, t.2.2.2]
  l.drop (fromI t.1 t.2.1 t.2.2.1 t.2.2.2) ++ l.take (fromI t.1 t.2.1 t.2.2.1 t.2.2.2)

theorem idx_min (p q r s : Int) : Lib.idxOf [p, q, r, s] (Lib.minOf [p, q, r, s]) = (fromI p q r s : Int) := by
  have hm : Lib.minOf [p, q, r, s] = min (min (min p q) r) s := by
    unfold Lib.minOf
    simp only [List.headD_cons, List.foldl_cons, List.foldl_nil]
    omega
  rw [hm]
  unfold fromI
  by_cases h0 : p ≤ q ∧ p ≤ r ∧ p ≤ s
  · rw [if_pos h0, show min (min (min p q) r) s = p from by omega]
    simp [Lib.idxOf, Lib.idxFrom]
  · rw [if_neg h0]
    by_cases h1 : q ≤ r ∧ q ≤ s
    · rw [if_pos h1, show min (min (min p q) r) s = q from by omega]
      have e : ¬ p = q := by omega
      simp [Lib.idxOf, Lib.idxFrom, e]
    · rw [if_neg h1]
      by_cases h2 : r ≤ s
      · rw [if_pos h2, show min (min (min p q) r) s = r from by omega]
        have e1 : ¬ p = r := by omega
        have e2 : ¬ q = r := by omega
        simp [Lib.idxOf, Lib.idxFrom, e1, e2]
      · rw [if_neg h2, show min (min (min p q) r) s = s from by omega]
        have e1 : ¬ p = s := by omega
        have e2 : ¬ q = s := by omega
        have e3 : ¬ r = s := by omega
        simp [Lib.idxOf, Lib.idxFrom, e1, e2, e3]
theorem fromI_lt (p q r s : Int) : fromI p q r s = 0 ∨ fromI p q r s = 1 ∨ fromI p q r s = 2 ∨ fromI p q r s = 3 := by
  unfold fromI
  (repeat' split) <;> simp

set_option maxHeartbeats 4000000 in
set_option maxRecDepth 100000 in
theorem from_any (p q r s : Int) (w : World) :
    Calls Try.prog 74 #[.agg #[.int .i64 p, .int .i64 q, .int .i64 r, .int .i64 s]] w fun e w' => (∃ A' c', e = .returned (.slice A' 4 c') ∧ w'.ownsRow w.heap.size 3 1 (.slice A' 4 c') 4 ((fromP (p, q, r, s)).map (Value.int .i64))) ∧ Ext w w' := by
  unfold fromP
  simp only
  have him := idx_min p q r s
  have hcase := fromI_lt p q r s
  generalize fromI p q r s = i at *
  have hcase2 : (i = 0 ∧ Lib.idxOf [p, q, r, s] (Lib.minOf [p, q, r, s]) = 0) ∨ (i = 1 ∧ Lib.idxOf [p, q, r, s] (Lib.minOf [p, q, r, s]) = 1) ∨ (i = 2 ∧ Lib.idxOf [p, q, r, s] (Lib.minOf [p, q, r, s]) = 2) ∨ (i = 3 ∧ Lib.idxOf [p, q, r, s] (Lib.minOf [p, q, r, s]) = 3) := by
    rcases hcase with rfl | rfl | rfl | rfl
    · exact Or.inl ⟨rfl, him⟩
    · exact Or.inr (Or.inl ⟨rfl, him⟩)
    · exact Or.inr (Or.inr (Or.inl ⟨rfl, him⟩))
    · exact Or.inr (Or.inr (Or.inr ⟨rfl, him⟩))
  clear hcase him
  rcases hcase2 with ⟨rfl, him⟩ | ⟨rfl, him⟩ | ⟨rfl, him⟩ | ⟨rfl, him⟩
  · go_enter Try.func74, Try.ntmps74
    go_wp2_with fail
    have hbx : w.heap.size < (w.alloc (.cells #[.int .i64 p, .int .i64 q, .int .i64 r, .int .i64 s] 114)).heap.size := by simp
    refine wp_world (fun W => (Ext w W ∧ w.heap.size < W.heap.size) ∧ W.cell? ⟨w.heap.size, 0, none⟩ = some (.int .i64 p) ∧ W.cell? ⟨w.heap.size, 1, none⟩ = some (.int .i64 q) ∧ W.cell? ⟨w.heap.size, 2, none⟩ = some (.int .i64 r) ∧ W.cell? ⟨w.heap.size, 3, none⟩ = some (.int .i64 s)) ⟨⟨(Ext.refl _).alloc _, hbx⟩, by simp [go_sem], by simp [go_sem], by simp [go_sem], by simp [go_sem]⟩ ?_
    clear hbx
    rintro W ⟨⟨hW, hzW⟩, c0, c1, c2, c3⟩
    have hcells : ∀ W', Ext W W' → ∀ j, j < [p, q, r, s].length → W'.cell? ⟨w.heap.size, 0 + j, none⟩ = some (.int .i64 ([p, q, r, s].getD j 0)) := fun W' hx j hj => by
      have hj' : j < 4 := hj
      have : j = 0 ∨ j = 1 ∨ j = 2 ∨ j = 3 := by omega
      rcases this with rfl | rfl | rfl | rfl
      · exact hx.cell c0
      · exact hx.cell c1
      · exact hx.cell c2
      · exact hx.cell c3
    have HMin := Lib.hid (fun n os => Try.slices_Min_int w.heap.size 0 4 4 [p, q, r, s] (extW W n os) (by omega) (by simp) (by omega) (hcells _ (ext_extW W n os)))
    have HIdx := Lib.hid (fun n os => Try.slices_Index_int w.heap.size 0 4 4 [p, q, r, s] (Lib.minOf [p, q, r, s]) (extW W n os) (by simp) (by omega) (hcells _ (ext_extW W n os)))
    simp only [List.take_succ_cons, List.take_zero] at HMin HIdx
    rw [him] at HIdx
    clear hcells him
    generalize Lib.minOf [p, q, r, s] = mn at *
    refine wp_region_ext (by kernel_rfl) (by kernel_rfl) ?_
    repeat (go_big_quiet_step ((first | (go_at_call 91; with_reducible exact ext_call1 (HMin.out _ _)) | (go_at_call 90; with_reducible exact ext_call1 (HIdx.out _ _)))))
    refine wpQuiet_nil ?_
    intro W1 hW1_
    have hW1 := ext_of hW1_
    clear hW1_
    clear HMin HIdx
    replace hW := hW.trans hW1
    replace hzW := Nat.lt_of_lt_of_le hzW hW1.size
    replace c0 := hW1.cell c0
    replace c1 := hW1.cell c1
    replace c2 := hW1.cell c2
    replace c3 := hW1.cell c3
    clear hW1
    go_wp2_with fail
    go_still_tail 4, (by kernel_rfl)
    change wpList _ _ _ _ _ W1.drew
    have hW2 := hW.drew
    have d0 := ((Ext.refl W1).drew).cell c0
    have d1 := ((Ext.refl W1).drew).cell c1
    have d2 := ((Ext.refl W1).drew).cell c2
    have d3 := ((Ext.refl W1).drew).cell c3
    have hzW2 : w.heap.size < W1.drew.heap.size := hzW
    generalize W1.drew = W2 at *
    clear c0 c1 c2 c3
    go_wp2_with fail
    refine (concat2 _ _ 4 4 ⟨w.heap.size, 0, none⟩ ⟨w.heap.size, 0, none⟩ [p, q, r, s] [] _ (by simp [go_sem]) (by simp [go_sem]) ?_ ?_ (by simp; omega) (by simp; omega) (by simp) (by simp) (by simp)).mono ?_
    · intro j u hu
      refine ((Ext.refl W2).alloc _).cell ?_
      match j, hu with
      | 0, hu => simp at hu; subst hu; exact d0
      | 1, hu => simp at hu; subst hu; exact d1
      | 2, hu => simp at hu; subst hu; exact d2
      | 3, hu => simp at hu; subst hu; exact d3
      | n + 4, hu => simp at hu
    · intro j u hu
      simp at hu
    rintro e W3 ⟨⟨A', c', rfl, hown⟩, hW3⟩
    go_wp2_with fail
    go_ret
    exact ⟨⟨A', c', rfl, (own_base_le hown (by have := hW2.size; simp; omega))⟩, (hW2.alloc _).trans hW3⟩
  · go_enter Try.func74, Try.ntmps74
    go_wp2_with fail
    have hbx : w.heap.size < (w.alloc (.cells #[.int .i64 p, .int .i64 q, .int .i64 r, .int .i64 s] 114)).heap.size := by simp
    refine wp_world (fun W => (Ext w W ∧ w.heap.size < W.heap.size) ∧ W.cell? ⟨w.heap.size, 0, none⟩ = some (.int .i64 p) ∧ W.cell? ⟨w.heap.size, 1, none⟩ = some (.int .i64 q) ∧ W.cell? ⟨w.heap.size, 2, none⟩ = some (.int .i64 r) ∧ W.cell? ⟨w.heap.size, 3, none⟩ = some (.int .i64 s)) ⟨⟨(Ext.refl _).alloc _, hbx⟩, by simp [go_sem], by simp [go_sem], by simp [go_sem], by simp [go_sem]⟩ ?_
    clear hbx
    rintro W ⟨⟨hW, hzW⟩, c0, c1, c2, c3⟩
    have hcells : ∀ W', Ext W W' → ∀ j, j < [p, q, r, s].length → W'.cell? ⟨w.heap.size, 0 + j, none⟩ = some (.int .i64 ([p, q, r, s].getD j 0)) := fun W' hx j hj => by
      have hj' : j < 4 := hj
      have : j = 0 ∨ j = 1 ∨ j = 2 ∨ j = 3 := by omega
      rcases this with rfl | rfl | rfl | rfl
      · exact hx.cell c0
      · exact hx.cell c1
      · exact hx.cell c2
      · exact hx.cell c3
    have HMin := Lib.hid (fun n os => Try.slices_Min_int w.heap.size 0 4 4 [p, q, r, s] (extW W n os) (by omega) (by simp) (by omega) (hcells _ (ext_extW W n os)))
    have HIdx := Lib.hid (fun n os => Try.slices_Index_int w.heap.size 0 4 4 [p, q, r, s] (Lib.minOf [p, q, r, s]) (extW W n os) (by simp) (by omega) (hcells _ (ext_extW W n os)))
    simp only [List.take_succ_cons, List.take_zero] at HMin HIdx
    rw [him] at HIdx
    clear hcells him
    generalize Lib.minOf [p, q, r, s] = mn at *
    refine wp_region_ext (by kernel_rfl) (by kernel_rfl) ?_
    repeat (go_big_quiet_step ((first | (go_at_call 91; with_reducible exact ext_call1 (HMin.out _ _)) | (go_at_call 90; with_reducible exact ext_call1 (HIdx.out _ _)))))
    refine wpQuiet_nil ?_
    intro W1 hW1_
    have hW1 := ext_of hW1_
    clear hW1_
    clear HMin HIdx
    replace hW := hW.trans hW1
    replace hzW := Nat.lt_of_lt_of_le hzW hW1.size
    replace c0 := hW1.cell c0
    replace c1 := hW1.cell c1
    replace c2 := hW1.cell c2
    replace c3 := hW1.cell c3
    clear hW1
    go_wp2_with fail
    go_still_tail 4, (by kernel_rfl)
    change wpList _ _ _ _ _ W1.drew
    have hW2 := hW.drew
    have d0 := ((Ext.refl W1).drew).cell c0
    have d1 := ((Ext.refl W1).drew).cell c1
    have d2 := ((Ext.refl W1).drew).cell c2
    have d3 := ((Ext.refl W1).drew).cell c3
    have hzW2 : w.heap.size < W1.drew.heap.size := hzW
    generalize W1.drew = W2 at *
    clear c0 c1 c2 c3
    go_wp2_with fail
    refine (concat2 _ _ 3 4 ⟨w.heap.size, 1, none⟩ ⟨w.heap.size, 0, none⟩ [q, r, s] [p] _ (by simp [go_sem]) (by simp [go_sem]) ?_ ?_ (by simp; omega) (by simp; omega) (by simp) (by simp) (by simp)).mono ?_
    · intro j u hu
      refine ((Ext.refl W2).alloc _).cell ?_
      match j, hu with
      | 0, hu => simp at hu; subst hu; exact d1
      | 1, hu => simp at hu; subst hu; exact d2
      | 2, hu => simp at hu; subst hu; exact d3
      | n + 3, hu => simp at hu
    · intro j u hu
      refine ((Ext.refl W2).alloc _).cell ?_
      match j, hu with
      | 0, hu => simp at hu; subst hu; exact d0
      | n + 1, hu => simp at hu
    rintro e W3 ⟨⟨A', c', rfl, hown⟩, hW3⟩
    go_wp2_with fail
    go_ret
    exact ⟨⟨A', c', rfl, (own_base_le hown (by have := hW2.size; simp; omega))⟩, (hW2.alloc _).trans hW3⟩
  · go_enter Try.func74, Try.ntmps74
    go_wp2_with fail
    have hbx : w.heap.size < (w.alloc (.cells #[.int .i64 p, .int .i64 q, .int .i64 r, .int .i64 s] 114)).heap.size := by simp
    refine wp_world (fun W => (Ext w W ∧ w.heap.size < W.heap.size) ∧ W.cell? ⟨w.heap.size, 0, none⟩ = some (.int .i64 p) ∧ W.cell? ⟨w.heap.size, 1, none⟩ = some (.int .i64 q) ∧ W.cell? ⟨w.heap.size, 2, none⟩ = some (.int .i64 r) ∧ W.cell? ⟨w.heap.size, 3, none⟩ = some (.int .i64 s)) ⟨⟨(Ext.refl _).alloc _, hbx⟩, by simp [go_sem], by simp [go_sem], by simp [go_sem], by simp [go_sem]⟩ ?_
    clear hbx
    rintro W ⟨⟨hW, hzW⟩, c0, c1, c2, c3⟩
    have hcells : ∀ W', Ext W W' → ∀ j, j < [p, q, r, s].length → W'.cell? ⟨w.heap.size, 0 + j, none⟩ = some (.int .i64 ([p, q, r, s].getD j 0)) := fun W' hx j hj => by
      have hj' : j < 4 := hj
      have : j = 0 ∨ j = 1 ∨ j = 2 ∨ j = 3 := by omega
      rcases this with rfl | rfl | rfl | rfl
      · exact hx.cell c0
      · exact hx.cell c1
      · exact hx.cell c2
      · exact hx.cell c3
    have HMin := Lib.hid (fun n os => Try.slices_Min_int w.heap.size 0 4 4 [p, q, r, s] (extW W n os) (by omega) (by simp) (by omega) (hcells _ (ext_extW W n os)))
    have HIdx := Lib.hid (fun n os => Try.slices_Index_int w.heap.size 0 4 4 [p, q, r, s] (Lib.minOf [p, q, r, s]) (extW W n os) (by simp) (by omega) (hcells _ (ext_extW W n os)))
    simp only [List.take_succ_cons, List.take_zero] at HMin HIdx
    rw [him] at HIdx
    clear hcells him
    generalize Lib.minOf [p, q, r, s] = mn at *
    refine wp_region_ext (by kernel_rfl) (by kernel_rfl) ?_
    repeat (go_big_quiet_step ((first | (go_at_call 91; with_reducible exact ext_call1 (HMin.out _ _)) | (go_at_call 90; with_reducible exact ext_call1 (HIdx.out _ _)))))
    refine wpQuiet_nil ?_
    intro W1 hW1_
    have hW1 := ext_of hW1_
    clear hW1_
    clear HMin HIdx
    replace hW := hW.trans hW1
    replace hzW := Nat.lt_of_lt_of_le hzW hW1.size
    replace c0 := hW1.cell c0
    replace c1 := hW1.cell c1
    replace c2 := hW1.cell c2
    replace c3 := hW1.cell c3
    clear hW1
    go_wp2_with fail
    go_still_tail 4, (by kernel_rfl)
    change wpList _ _ _ _ _ W1.drew
    have hW2 := hW.drew
    have d0 := ((Ext.refl W1).drew).cell c0
    have d1 := ((Ext.refl W1).drew).cell c1
    have d2 := ((Ext.refl W1).drew).cell c2
    have d3 := ((Ext.refl W1).drew).cell c3
    have hzW2 : w.heap.size < W1.drew.heap.size := hzW
    generalize W1.drew = W2 at *
    clear c0 c1 c2 c3
    go_wp2_with fail
    refine (concat2 _ _ 2 4 ⟨w.heap.size, 2, none⟩ ⟨w.heap.size, 0, none⟩ [r, s] [p, q] _ (by simp [go_sem]) (by simp [go_sem]) ?_ ?_ (by simp; omega) (by simp; omega) (by simp) (by simp) (by simp)).mono ?_
    · intro j u hu
      refine ((Ext.refl W2).alloc _).cell ?_
      match j, hu with
      | 0, hu => simp at hu; subst hu; exact d2
      | 1, hu => simp at hu; subst hu; exact d3
      | n + 2, hu => simp at hu
    · intro j u hu
      refine ((Ext.refl W2).alloc _).cell ?_
      match j, hu with
      | 0, hu => simp at hu; subst hu; exact d0
      | 1, hu => simp at hu; subst hu; exact d1
      | n + 2, hu => simp at hu
    rintro e W3 ⟨⟨A', c', rfl, hown⟩, hW3⟩
    go_wp2_with fail
    go_ret
    exact ⟨⟨A', c', rfl, (own_base_le hown (by have := hW2.size; simp; omega))⟩, (hW2.alloc _).trans hW3⟩
  · go_enter Try.func74, Try.ntmps74
    go_wp2_with fail
    have hbx : w.heap.size < (w.alloc (.cells #[.int .i64 p, .int .i64 q, .int .i64 r, .int .i64 s] 114)).heap.size := by simp
    refine wp_world (fun W => (Ext w W ∧ w.heap.size < W.heap.size) ∧ W.cell? ⟨w.heap.size, 0, none⟩ = some (.int .i64 p) ∧ W.cell? ⟨w.heap.size, 1, none⟩ = some (.int .i64 q) ∧ W.cell? ⟨w.heap.size, 2, none⟩ = some (.int .i64 r) ∧ W.cell? ⟨w.heap.size, 3, none⟩ = some (.int .i64 s)) ⟨⟨(Ext.refl _).alloc _, hbx⟩, by simp [go_sem], by simp [go_sem], by simp [go_sem], by simp [go_sem]⟩ ?_
    clear hbx
    rintro W ⟨⟨hW, hzW⟩, c0, c1, c2, c3⟩
    have hcells : ∀ W', Ext W W' → ∀ j, j < [p, q, r, s].length → W'.cell? ⟨w.heap.size, 0 + j, none⟩ = some (.int .i64 ([p, q, r, s].getD j 0)) := fun W' hx j hj => by
      have hj' : j < 4 := hj
      have : j = 0 ∨ j = 1 ∨ j = 2 ∨ j = 3 := by omega
      rcases this with rfl | rfl | rfl | rfl
      · exact hx.cell c0
      · exact hx.cell c1
      · exact hx.cell c2
      · exact hx.cell c3
    have HMin := Lib.hid (fun n os => Try.slices_Min_int w.heap.size 0 4 4 [p, q, r, s] (extW W n os) (by omega) (by simp) (by omega) (hcells _ (ext_extW W n os)))
    have HIdx := Lib.hid (fun n os => Try.slices_Index_int w.heap.size 0 4 4 [p, q, r, s] (Lib.minOf [p, q, r, s]) (extW W n os) (by simp) (by omega) (hcells _ (ext_extW W n os)))
    simp only [List.take_succ_cons, List.take_zero] at HMin HIdx
    rw [him] at HIdx
    clear hcells him
    generalize Lib.minOf [p, q, r, s] = mn at *
    refine wp_region_ext (by kernel_rfl) (by kernel_rfl) ?_
    repeat (go_big_quiet_step ((first | (go_at_call 91; with_reducible exact ext_call1 (HMin.out _ _)) | (go_at_call 90; with_reducible exact ext_call1 (HIdx.out _ _)))))
    refine wpQuiet_nil ?_
    intro W1 hW1_
    have hW1 := ext_of hW1_
    clear hW1_
    clear HMin HIdx
    replace hW := hW.trans hW1
    replace hzW := Nat.lt_of_lt_of_le hzW hW1.size
    replace c0 := hW1.cell c0
    replace c1 := hW1.cell c1
    replace c2 := hW1.cell c2
    replace c3 := hW1.cell c3
    clear hW1
    go_wp2_with fail
    go_still_tail 4, (by kernel_rfl)
    change wpList _ _ _ _ _ W1.drew
    have hW2 := hW.drew
    have d0 := ((Ext.refl W1).drew).cell c0
    have d1 := ((Ext.refl W1).drew).cell c1
    have d2 := ((Ext.refl W1).drew).cell c2
    have d3 := ((Ext.refl W1).drew).cell c3
    have hzW2 : w.heap.size < W1.drew.heap.size := hzW
    generalize W1.drew = W2 at *
    clear c0 c1 c2 c3
    go_wp2_with fail
    refine (concat2 _ _ 1 4 ⟨w.heap.size, 3, none⟩ ⟨w.heap.size, 0, none⟩ [s] [p, q, r] _ (by simp [go_sem]) (by simp [go_sem]) ?_ ?_ (by simp; omega) (by simp; omega) (by simp) (by simp) (by simp)).mono ?_
    · intro j u hu
      refine ((Ext.refl W2).alloc _).cell ?_
      match j, hu with
      | 0, hu => simp at hu; subst hu; exact d3
      | n + 1, hu => simp at hu
    · intro j u hu
      refine ((Ext.refl W2).alloc _).cell ?_
      match j, hu with
      | 0, hu => simp at hu; subst hu; exact d0
      | 1, hu => simp at hu; subst hu; exact d1
      | 2, hu => simp at hu; subst hu; exact d2
      | n + 3, hu => simp at hu
    rintro e W3 ⟨⟨A', c', rfl, hown⟩, hW3⟩
    go_wp2_with fail
    go_ret
    exact ⟨⟨A', c', rfl, (own_base_le hown (by have := hW2.size; simp; omega))⟩, (hW2.alloc _).trans hW3⟩
end Go.Proofs.Ytagofpmcbbkmgaa
