/- parquetref12: Lay. -/
import Derived.Test.YtagofpmcbbkmgaaL20
namespace Go.Proofs.Ytagofpmcbbkmgaa
open Go.RowKit Go.Sort

/-- ahead of another segment -/
def ltS (a b : Int × Int) : Bool := decide (a.1 < b.1 ∨ a.1 = b.1 ∧ a.2 < b.2)
def upI (s : Int × Int) : Int × Int := if s.2 < s.1 then (s.2, s.1) else s
/-- how many stand ahead of it -/
def layN (l : List (Int × Int)) (s : Int × Int) : Nat := (l.takeWhile fun x => ltS x s).length
def layAt (l : List (Int × Int)) (s : Int × Int) (k : Nat) : List (Int × Int) := (l.take k ++ [s]) ++ l.drop (if k < l.length ∧ at2 l k = s then k + 1 else k)
def layK (l : List (Int × Int)) (s : Int × Int) : List (Int × Int) := layAt l s (layN l s)
/-- parquetref12.Lay -/
def layP (l : List (Int × Int)) (s : Int × Int) : List (Int × Int) := layK l (upI s)
theorem layN_eq (s : Int × Int) : ∀ (l : List (Int × Int)) (k : Nat), k ≤ l.length → (∀ j, j < k → ltS (at2 l j) s = true) → (k < l.length → ltS (at2 l k) s = false) → layN l s = k
  | [], k, h, _, _ => by simp at h; subst h; rfl
  | x :: l, 0, _, _, h => by
    have := h (by simp)
    simp only [at2, List.getD_cons_zero] at this
    simp [layN, List.takeWhile_cons, this]
  | x :: l, k + 1, hk, h1, h2 => by
    have h0 := h1 0 (by omega)
    simp only [at2, List.getD_cons_zero] at h0
    have ih := layN_eq s l k (by simpa using hk) (fun j hj => by simpa [at2] using h1 (j + 1) (by omega)) (fun h => by simpa [at2] using h2 (by simpa using h))
    unfold layN at ih ⊢
    rw [List.takeWhile_cons, h0]
    simpa using ih
theorem ltS_iff (a b : Int × Int) : ltS a b = true ↔ a.1 < b.1 ∨ a.1 = b.1 ∧ a.2 < b.2 := by unfold ltS; simp
theorem ltS_not (a b : Int × Int) : ltS a b = false ↔ ¬ (a.1 < b.1 ∨ a.1 = b.1 ∧ a.2 < b.2) := by unfold ltS; simp

/-- Segments that are appended. -/
def SrcS (w : World) (A : Option Addr) (xs : List (Int × Int)) : Prop := xs = [] ∨ ∃ ad, A = some ad ∧ ∀ j u, (cellsS xs)[j]? = some u → w.cell? (ad.add j) = some u
theorem cellsS_drop : ∀ (k : Nat) (l : List (Int × Int)), cellsS (l.drop k) = (cellsS l).drop (k * 2)
  | 0, l => by simp
  | k + 1, [] => by simp [cellsS]
  | k + 1, x :: l => by
    rw [List.drop_succ_cons, cellsS_drop k l, show (k + 1) * 2 = k * 2 + 1 + 1 by omega]
    simp [cellsS]
theorem rd2_cells {w : World} {b o : Nat} {l : List (Int × Int)} (h : ∀ j x, l[j]? = some x → w.cell? ⟨b, o + j * 2, none⟩ = some (.int .i64 x.1) ∧ w.cell? ⟨b, o + j * 2 + 1, none⟩ = some (.int .i64 x.2)) :
    ∀ j u, (cellsS l)[j]? = some u → w.cell? ⟨b, o + j, none⟩ = some u := by
  intro j u hu
  have hj : j < l.length * 2 := by rw [← cellsS_length]; exact (List.getElem?_eq_some_iff.1 hu).1
  have hq : j / 2 < l.length := by omega
  have h2 := cellsS_get l (j / 2) hq
  have h3 := h (j / 2) (at2 l (j / 2)) (at2_get hq)
  rcases Nat.mod_two_eq_zero_or_one j with hm | hm
  · have e : j / 2 * 2 = j := by omega
    rw [e] at h2 h3
    rw [h3.1, ← hu, h2.1]
  · have e : j / 2 * 2 + 1 = j := by omega
    rw [show o + j / 2 * 2 + 1 = o + (j / 2 * 2 + 1) by omega, e] at h3
    rw [e] at h2
    rw [h3.2, ← hu, h2.2]
theorem Rd2.src {w : World} {A : Option Addr} {l : List (Int × Int)} (h : Rd2 w A l) (k c : Nat) (hc : l.length ≤ c) : SrcS w (if c = k then A else A.map (·.add (k * 2))) (l.drop k) := by
  by_cases hk : k < l.length
  · rcases h with rfl | ⟨b, o, rfl, hx⟩
    · simp at hk
    · refine Or.inr ⟨⟨b, o + k * 2, none⟩, ?_, ?_⟩
      · rw [if_neg (by omega)]
        simp only [Option.map_some, Option.some.injEq]
        unfold Addr.add
        split
        · rename_i h0; simp [h0]
        · rfl
      · intro j u hu
        rw [cellsS_drop, List.getElem?_drop] at hu
        have := rd2_cells hx _ _ hu
        rw [← Nat.add_assoc] at this
        unfold Addr.add
        split
        · rename_i h0; simpa [h0] using this
        · simpa using this
  · exact Or.inl (List.drop_eq_nil_of_le (by omega))
theorem SrcS.ext {w w' : World} {A : Option Addr} {l : List (Int × Int)} (h : SrcS w A l) (hx : Ext w w') : SrcS w' A l :=
  h.imp id fun ⟨ad, e, hc⟩ => ⟨ad, e, fun j u hu => hx.cell (hc j u hu)⟩

theorem append_nil_run {t e : TypeId} {size : Nat} (ty : TypeId) (ht : Try.prog.underlying t = some (.slice e)) {w : World} {base n : Nat} {v : Value} {xs : List Value} (hown : w.ownsRow base e size v n xs) {i : TypeInfo} (hi : Try.prog.info? e = some i) (c : Nat) :
    (Builtin.append_ #[t, t] ty #[v, .slice none 0 c]).run Try.prog w = .ok v w := by
  rcases hown.2 with ⟨rfl, rfl⟩ | ⟨g, cap, cur, rfl, _, _, hnc, _⟩
  · simp [Builtin.append_, run_underlying ht, sizeOf, typeInfo, hi, Builtin.lenOf, Builtin.firstCells]
  · simp [Builtin.append_, run_underlying ht, sizeOf, typeInfo, hi, Builtin.lenOf, Builtin.firstCells, hnc, storeCells]
/-- Appending segments from wherever they lie. -/
theorem append_src (ty : TypeId) {w : World} {base n : Nat} {v : Value} {xs : List (Int × Int)} (hown : w.ownsRow base 39 2 v n (cellsS xs)) (hbase : base ≤ w.heap.size) (A : Option Addr) (c : Nat) (ys : List (Int × Int)) (h : SrcS w A ys) (hn : n + ys.length ≤ 1000000000) :
    ∃ A' c' w', (Builtin.append_ #[29, 29] ty #[v, .slice A ys.length c]).run Try.prog w = .ok (.slice A' (n + ys.length) c') w' ∧ w'.ownsRow base 39 2 (.slice A' (n + ys.length) c') (n + ys.length) (cellsS (xs ++ ys)) ∧ w.grownBy w' v.ownBlock := by
  cases A with
  | some ad =>
    obtain ⟨A', c', w', h1, h2, h3⟩ := append_run ty Try.underlying29 infoSeg rfl (by omega) hown hbase ad ys.length c (cellsS ys) (cellsS_length _) (by
      rcases h with rfl | ⟨a', e, hc⟩
      · intro j u hu; simp [cellsS] at hu
      · cases e; exact hc) (cellsS_one _) hn (by omega)
    exact ⟨A', c', w', h1, by rw [cellsS_append]; exact h2, h3⟩
  | none =>
    have hy : ys = [] := by rcases h with h | ⟨_, e, _⟩; exact h; cases e
    subst hy
    cases hi : Try.prog.info? 39 with
    | none => have := infoSeg; rw [hi] at this; cases this
    | some i =>
      have hr := append_nil_run ty Try.underlying29 hown hi c
      obtain ⟨A', c', rfl⟩ := own_form hown
      exact ⟨A', c', w, by simpa using hr, by simpa using hown, World.grownBy.refl w _⟩

theorem own_cap {w : World} {base e size n c : Nat} {A : Option Addr} {xs : List Value} (h : w.ownsRow base e size (.slice A n c) n xs) : n ≤ c := by
  rcases h.2 with ⟨hv, h0⟩ | ⟨g, cap, cur, hv, _, _, hc, _⟩
  · omega
  · simp only [Value.slice.injEq] at hv; omega

set_option maxHeartbeats 4000000 in
set_option maxRecDepth 100000 in
theorem lay_any (A : Option Addr) (c : Nat) (l : List (Int × Int)) (x y : Int) (w : World) (hl : l.length ≤ 1000000) (hc : l.length ≤ c) (hR : Rd2 w A l) :
    Calls Try.prog 14 #[.slice A l.length c, .agg #[.int .i64 x, .int .i64 y]] w fun e w' => (∃ A' c', e = .returned (.slice A' (layP l (x, y)).length c') ∧ w'.ownsRow w.heap.size 39 2 (.slice A' (layP l (x, y)).length c') (layP l (x, y)).length (cellsS (layP l (x, y)))) ∧ Ext w w' := by
  have HR := Lib.hid hR
  clear hR
  unfold layP upI
  by_cases hgt : y < x
  all_goals
    simp only [hgt, if_true, if_false]
    generalize hr : layK l _ = r
    have HRes := Lib.hid hr
    clear hr
    go_enter Try.func14, Try.ntmps14
    go_wp2_with fail
    refine wp_world (fun W => ∃ s0 s1 : Int, Hid (layK l (s0, s1) = r) ∧ (Ext w W ∧ w.heap.size < W.heap.size) ∧ W.cell? ⟨w.heap.size, 0, none⟩ = some (.int .i64 s0) ∧ W.cell? ⟨w.heap.size, 1, none⟩ = some (.int .i64 s1)) ⟨_, _, HRes, ⟨(Ext.refl w).alloc _, by simp⟩, by simp [go_sem], by simp [go_sem]⟩ ?_
    clear HRes
    rintro WB ⟨s0, s1, HRes, ⟨hW, hzW⟩, m0, m1⟩
    generalize w.heap.size = B0 at *
    go_loopw [5, 6] (fun v i wx => ∃ (k : Nat) (A' : Option Addr) (c' : Nat), k ≤ l.length ∧ i = .int .i64 k ∧ v = .slice A' k c' ∧ Hid (wx.ownsRow WB.heap.size 39 2 (.slice A' k c') k (cellsS (l.take k))) ∧ Hid (∀ j, j < k → ltS (at2 l j) (s0, s1) = true) ∧ Ext WB wx) (fun _ i _ => l.length - (intOf i).toNat)
    case atStart => exact ⟨0, none, 0, Nat.zero_le _, rfl, rfl, World.ownsRow_nil _ _ _ _, (fun j h => absurd h (Nat.not_lt_zero _)), Ext.refl _⟩
    case round =>
      obtain ⟨k, A', c', hk, rfl, rfl, HOw, HN, hx⟩ := hrel
      have HG := Lib.hid (ltS_iff (at2 l k) (s0, s1))
      have HX := Lib.hid (show (k < l.length → ltS (at2 l k) (s0, s1) = false) → r = layAt l (s0, s1) k from fun h => by rw [← HRes.out]; unfold layK; rw [layN_eq (s0, s1) l k hk HN.out h])
      have HCell := Lib.hid (fun (h : k < l.length) => (HR.out.ext (hW.trans hx)).open_ (by omega))
      replace m0 := hx.cell m0
      replace m1 := hx.cell m1
      obtain ⟨t0, t1, HT⟩ : ∃ t0 t1, Hid (at2 l k = (t0, t1)) := ⟨_, _, Lib.hid rfl⟩
      rw [HT.out] at HG
      go_upto_region 5 with fail
      go_cut [50] (fun g wx => ∃ G : Bool, g = .bool G ∧ Hid (G = true ↔ k < l.length ∧ ltS (t0, t1) (s0, s1) = true) ∧ Ext wr wx)
      case first =>
        by_cases hlt : k < l.length
        · have hlt1 : (k : Int) < (l.length : Int) := by omega
          obtain ⟨b, o, rfl, hcs⟩ := HCell.out hlt
          obtain ⟨d0, d1⟩ := hcs k hlt
          rw [HT.out] at d0 d1
          clear hcs
          have x0 := cell_ext d0
          have x1 := cell_ext d1
          have x2 := cell_ext m0
          have x3 := cell_ext m1
          by_cases h1 : t0 < s0
          · have f1 : decide (t0 < s0) = true := by simpa using h1
            have HB := Lib.hid (show ltS (t0, t1) (s0, s1) = true from HG.out.2 (Or.inl h1))
            clear h1
            refine wp_region_ext (by kernel_rfl) (by kernel_rfl) ?_
            repeat (go_big_quiet_step ((fail)))
            refine wpQuiet_nil ?_
            intro W1 hW1_
            have hW1 := ext_of hW1_
            clear hW1_
            go_wp2_with fail
            go_meet
            exact ⟨true, rfl, Lib.hid (by simp [HB.out]; omega), hW1⟩
          · have f1 : decide (t0 < s0) = false := by simpa using h1
            by_cases h2 : t0 = s0
            · subst h2
              have f2 : (t0 == t0) = true := by simp
              by_cases h3 : t1 < s1
              · have f3 : decide (t1 < s1) = true := by simpa using h3
                have HB := Lib.hid (show ltS (t0, t1) (t0, s1) = true from HG.out.2 (Or.inr ⟨rfl, h3⟩))
                clear h1 h3
                refine wp_region_ext (by kernel_rfl) (by kernel_rfl) ?_
                repeat (go_big_quiet_step ((fail)))
                refine wpQuiet_nil ?_
                intro W1 hW1_
                have hW1 := ext_of hW1_
                clear hW1_
                go_wp2_with fail
                go_meet
                exact ⟨true, rfl, Lib.hid (by simp [HB.out]; omega), hW1⟩
              · have f3 : decide (t1 < s1) = false := by simpa using h3
                have HB := Lib.hid (show ¬ ltS (t0, t1) (t0, s1) = true from fun h => by have := HG.out.1 h; simp at this; omega)
                clear h1 h3
                refine wp_region_ext (by kernel_rfl) (by kernel_rfl) ?_
                repeat (go_big_quiet_step ((fail)))
                refine wpQuiet_nil ?_
                intro W1 hW1_
                have hW1 := ext_of hW1_
                clear hW1_
                go_wp2_with fail
                go_meet
                exact ⟨false, rfl, Lib.hid ⟨fun h => (by cases h), fun h => absurd h.2 HB.out⟩, hW1⟩
            · have f2 : (t0 == s0) = false := by simpa using h2
              have HB := Lib.hid (show ¬ ltS (t0, t1) (s0, s1) = true from fun h => by have := HG.out.1 h; simp at this; omega)
              clear h1 h2
              refine wp_region_ext (by kernel_rfl) (by kernel_rfl) ?_
              repeat (go_big_quiet_step ((fail)))
              refine wpQuiet_nil ?_
              intro W1 hW1_
              have hW1 := ext_of hW1_
              clear hW1_
              go_wp2_with fail
              go_meet
              exact ⟨false, rfl, Lib.hid ⟨fun h => (by cases h), fun h => absurd h.2 HB.out⟩, hW1⟩
        · have hlt1 : ¬ (k : Int) < (l.length : Int) := by omega
          have f1 : decide ((k : Int) < (l.length : Int)) = false := by simpa using hlt
          have HB := Lib.hid hlt
          clear hlt
          refine wp_region_ext (by kernel_rfl) (by kernel_rfl) ?_
          repeat (go_big_quiet_step ((fail)))
          refine wpQuiet_nil ?_
          intro W1 hW1_
          have hW1 := ext_of hW1_
          clear hW1_
          go_wp2_with fail
          go_meet
          exact ⟨false, rfl, Lib.hid ⟨fun h => (by cases h), fun h => absurd h.1 HB.out⟩, hW1⟩
      case rest =>
        obtain ⟨G, rfl, HGo, hx1⟩ := hcut
        replace HOw := Lib.hid (own_ext HOw.out hx1)
        replace hx := hx.trans hx1
        replace m0 := hx1.cell m0
        replace m1 := hx1.cell m1
        clear hx1
        cases G
        case true =>
          obtain ⟨hlt, hls⟩ := HGo.out.1 rfl
          clear HGo
          have hlt1 : (k : Int) < (l.length : Int) := by omega
          obtain ⟨b, o, rfl, hcs⟩ := (HR.out.ext (hW.trans hx)).open_ (by omega)
          obtain ⟨d0, d1⟩ := hcs k hlt
          rw [HT.out] at d0 d1
          have HN1 := Lib.hid (show ∀ j, j < k + 1 → ltS (at2 l j) (s0, s1) = true from fun j hj => by
            by_cases e : j = k
            · subst e; rw [HT.out]; exact hls
            · exact HN.out j (by omega))
          have HTk := Lib.hid (take_snoc2 l k hlt (t0, t1) HT.out)
          clear hcs hls HN
          have hx5 := hx.alloc (Obj.cells #[Value.int IntKind.i64 t0, Value.int IntKind.i64 t1] 39)
          obtain ⟨A5, c5, w5, hr5, ho5, hg5⟩ := append_run 29 Try.underlying29 infoSeg rfl (by omega) (own_ext HOw.out ((Ext.refl wc).alloc (Obj.cells #[Value.int IntKind.i64 t0, Value.int IntKind.i64 t1] 39))) hx5.size ⟨wc.heap.size, 0, none⟩ 1 1 [.int .i64 t0, .int .i64 t1] rfl (by
            intro j u hu
            match j, hu with
            | 0, hu => simp at hu; subst hu; simp [go_sem]
            | 1, hu => simp at hu; subst hu; simp [go_sem]
            | n + 2, hu => simp at hu) (by intro u hu; simp at hu; rcases hu with rfl | rfl <;> rfl) (by omega) (by omega)
          have hlt5 := (own_ext HOw.out ((Ext.refl wc).alloc (Obj.cells #[Value.int IntKind.i64 t0, Value.int IntKind.i64 t1] 39))).lt
          have HO5 := Lib.hid ho5
          have HG5 := Lib.hid (hx5.grown hg5 (fun r hr => (hlt5 r hr).1))
          clear ho5 hg5 hlt5
          go_wp2_with (at_builtin; refine wpList_append_eq rfl _ _ _ _ rfl rfl rfl hr5 ?_)
          go_roundw
          case rel => exact ⟨k + 1, A5, c5, by omega, by go_num, rfl, by rw [HTk.out, cellsS_append]; exact HO5, HN1, HG5.out⟩
          case measure => simp [intOf]; omega
        case false =>
          have HL := Lib.hid (HX.out (fun h => by
            rw [HT.out]
            cases hc : ltS (t0, t1) (s0, s1)
            · rfl
            · have := HGo.out.2 ⟨h, hc⟩
              cases this))
          clear HGo HX HN HG
          go_upto_region 8 with fail
          go_cut [71] (fun g wx => ∃ G : Bool, g = .bool G ∧ Hid (G = true ↔ k < l.length ∧ at2 l k = (s0, s1)) ∧ Ext wc wx)
          case first =>
            by_cases hlt : k < l.length
            · have hlt1 : (k : Int) < (l.length : Int) := by omega
              obtain ⟨b, o, rfl, hcs⟩ := (HR.out.ext (hW.trans hx)).open_ (by omega)
              obtain ⟨d0, d1⟩ := hcs k hlt
              rw [HT.out] at d0 d1
              clear hcs
              have x0 := cell_ext d0
              have x1 := cell_ext d1
              have x2 := cell_ext m0
              have x3 := cell_ext m1
              have heq := eqSeg_op (t0, t1) (s0, s1)
              unfold segV at heq
              simp only at heq
              generalize hd : decide ((t0, t1) = (s0, s1)) = D at heq
              have HD := Lib.hid hd
              clear hd
              refine wp_region_ext (by kernel_rfl) (by kernel_rfl) ?_
              repeat (go_big_quiet_step ((fail)))
              refine wpQuiet_nil ?_
              intro W1 hW1_
              have hW1 := ext_of hW1_
              clear hW1_
              go_wp2_with fail
              go_meet
              exact ⟨D, rfl, Lib.hid (by rw [← HD.out, HT.out]; simp; intro _ _; omega), hW1⟩
            · have hlt1 : ¬ (k : Int) < (l.length : Int) := by omega
              have f1 : decide ((k : Int) < (l.length : Int)) = false := by simpa using hlt
              have HB := Lib.hid hlt
              clear hlt
              refine wp_region_ext (by kernel_rfl) (by kernel_rfl) ?_
              repeat (go_big_quiet_step ((fail)))
              refine wpQuiet_nil ?_
              intro W1 hW1_
              have hW1 := ext_of hW1_
              clear hW1_
              go_wp2_with fail
              go_meet
              exact ⟨false, rfl, Lib.hid ⟨fun h => (by cases h), fun h => absurd h.1 HB.out⟩, hW1⟩
          case rest =>
            obtain ⟨G, rfl, HGo, hx1⟩ := hcut
            replace HOw := Lib.hid (own_ext HOw.out hx1)
            replace hx := hx.trans hx1
            replace m0 := hx1.cell m0
            replace m1 := hx1.cell m1
            clear hx1
            have HLk : Hid (r = (l.take k ++ [(s0, s1)]) ++ l.drop (if G = true then k + 1 else k)) := Lib.hid (by
              rw [HL.out]
              unfold layAt
              cases G
              · rw [if_neg (fun h => by have := HGo.out.2 h; cases this)]; rfl
              · rw [if_pos (HGo.out.1 rfl)]; rfl)
            have hk2 : G = true → k + 1 ≤ l.length := fun h => (HGo.out.1 h).1
            have HK2 := Lib.hid hk2
            clear hk2 HGo HL HT HCell
            have hx5 := hx.alloc (Obj.cells #[Value.int IntKind.i64 s0, Value.int IntKind.i64 s1] 39)
            obtain ⟨A5, c5, w5, hr5, ho5, hg5⟩ := append_run 29 Try.underlying29 infoSeg rfl (by omega) (own_ext HOw.out ((Ext.refl wc).alloc (Obj.cells #[Value.int IntKind.i64 s0, Value.int IntKind.i64 s1] 39))) hx5.size ⟨wc.heap.size, 0, none⟩ 1 1 [.int .i64 s0, .int .i64 s1] rfl (by
              intro j u hu
              match j, hu with
              | 0, hu => simp at hu; subst hu; simp [go_sem]
              | 1, hu => simp at hu; subst hu; simp [go_sem]
              | n + 2, hu => simp at hu) (by intro u hu; simp at hu; rcases hu with rfl | rfl <;> rfl) (by omega) (by omega)
            have hlt5 := (own_ext HOw.out ((Ext.refl wc).alloc (Obj.cells #[Value.int IntKind.i64 s0, Value.int IntKind.i64 s1] 39))).lt
            have ho5' : w5.ownsRow WB.heap.size 39 2 (.slice A5 (k + 1) c5) (k + 1) (cellsS (l.take k ++ [(s0, s1)])) := by rw [cellsS_append]; exact ho5
            have hg5' := hx5.grown hg5 (fun r hr => (hlt5 r hr).1)
            have HO5 := Lib.hid ho5'
            have HG5 := Lib.hid hg5'
            clear ho5 hg5 hlt5 ho5' hg5' hx5 HOw
            cases G
            case false =>
              have hkl : k ≤ l.length := hk
              have hk1 : 0 ≤ (k : Int) := by omega
              have hk2 : (k : Int) ≤ (l.length : Int) := by omega
              simp only [if_true, if_false, Bool.false_eq_true] at HLk
              go_upto_region 11 with (at_builtin; refine wpList_append_eq rfl _ _ _ _ rfl rfl rfl hr5 ?_)
              clear hr5 m0 m1
              obtain ⟨A6, c6, w6, hr6, ho6, hg6⟩ := append_src 29 HO5.out HG5.out.size (if c = k then A else A.map (·.add (k * 2))) (c - k) (l.drop k) ((HR.out.ext (hW.trans HG5.out)).src k c hc) (by rw [List.length_drop]; omega)
              have hlt6 := HO5.out.lt
              have hg6' := HG5.out.grown hg6 (fun r hr => (hlt6 r hr).1)
              have hlen : k + 1 + (l.drop k).length = r.length := by rw [HLk.out]; simp; omega
              rw [← HLk.out, hlen] at ho6
              rw [hlen, List.length_drop] at hr6
              have HO6 := Lib.hid ho6
              have HG6 := Lib.hid hg6'
              clear ho6 hg6 hlt6 hg6' hlen HO5 HG5 HLk
              have e1 : ((k : Int)).toNat = k := by omega
              go_wp2_with (at_builtin; refine wpList_append_eq rfl _ _ _ _ rfl rfl rfl hr6 ?_)
              all_goals go_ret
              all_goals exact ⟨⟨A6, c6, rfl, own_base_le HO6.out hW.size⟩, hW.trans HG6.out⟩
            case true =>
              have hkl : (k + 1) ≤ l.length := HK2.out rfl
              have hk1 : 0 ≤ (k : Int) + 1 := by omega
              have hk2 : (k : Int) + 1 ≤ (l.length : Int) := by omega
              simp only [if_true, if_false, Bool.false_eq_true] at HLk
              go_upto_region 11 with (at_builtin; refine wpList_append_eq rfl _ _ _ _ rfl rfl rfl hr5 ?_)
              clear hr5 m0 m1
              obtain ⟨A6, c6, w6, hr6, ho6, hg6⟩ := append_src 29 HO5.out HG5.out.size (if c = (k + 1) then A else A.map (·.add ((k + 1) * 2))) (c - (k + 1)) (l.drop (k + 1)) ((HR.out.ext (hW.trans HG5.out)).src (k + 1) c hc) (by rw [List.length_drop]; omega)
              have hlt6 := HO5.out.lt
              have hg6' := HG5.out.grown hg6 (fun r hr => (hlt6 r hr).1)
              have hlen : k + 1 + (l.drop (k + 1)).length = r.length := by rw [HLk.out]; simp; omega
              rw [← HLk.out, hlen] at ho6
              rw [hlen, List.length_drop] at hr6
              have HO6 := Lib.hid ho6
              have HG6 := Lib.hid hg6'
              clear ho6 hg6 hlt6 hg6' hlen HO5 HG5 HLk
              have e1 : ((k : Int) + 1).toNat = (k + 1) := by omega
              go_wp2_with (at_builtin; refine wpList_append_eq rfl _ _ _ _ rfl rfl rfl hr6 ?_)
              all_goals go_ret
              all_goals exact ⟨⟨A6, c6, rfl, own_base_le HO6.out hW.size⟩, hW.trans HG6.out⟩
end Go.Proofs.Ytagofpmcbbkmgaa
