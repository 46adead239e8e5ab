/- Package dual: Beside. -/
import Derived.Test.YtagofpmcbbkmgaaL19
namespace Go.Proofs.Ytagofpmcbbkmgaa
open Go.RowKit Go.Sort

/-- dual.Pairs -/
def pairsP (ps : List (Int × Int)) (ts : List (Int × Int × Int)) (ss : List (Int × Int)) : List (Int × Int) := if chkI ps ts ss = 0 then sortS (outN ps ts ss (3 * ts.length)) else []
theorem PairsRes.uni {ps : List (Int × Int)} {ts : List (Int × Int × Int)} {ss : List (Int × Int)} {w' : World} {e : Ending} (h : PairsRes ps ts ss w' e) : ∃ A c, e = .returned (.tuple #[.slice A (pairsP ps ts ss).length c, .int .i64 (chkI ps ts ss)]) ∧ Rd2 w' A (pairsP ps ts ss) := by
  rcases h with ⟨h0, he⟩ | ⟨h0, A, c, he, hr⟩
  · exact ⟨none, 0, by unfold pairsP; rw [if_neg h0]; exact he, Or.inl (by unfold pairsP; rw [if_neg h0])⟩
  · exact ⟨A, c, by unfold pairsP; rw [if_pos h0, h0, show (sortS (outN ps ts ss (3 * ts.length))).length = (outN ps ts ss (3 * ts.length)).length by unfold sortS; simp]; exact he, by unfold pairsP; rw [if_pos h0]; exact hr⟩
theorem pairsP_length (ps : List (Int × Int)) (ts : List (Int × Int × Int)) (ss : List (Int × Int)) : (pairsP ps ts ss).length ≤ 3 * ts.length := by
  unfold pairsP
  split
  · have := outN_length ps ts ss (3 * ts.length)
    unfold sortS
    simpa using this
  · simp

/-- the ones of a pair, seen from i -/
def besideS (i : Int) (s : Int × Int) : List Int := if i = s.1 then [s.2] else if i = s.2 then [s.1] else []
def besideL (i : Int) (l : List (Int × Int)) : List Int := l.flatMap (besideS i)
theorem besideL_take (i : Int) (l : List (Int × Int)) (k : Nat) (hk : k < l.length) : besideL i (l.take (k + 1)) = besideL i (l.take k) ++ besideS i (at2 l k) := by
  have : l[k]? = some (at2 l k) := by simp [at2, List.getD, List.getElem?_eq_getElem hk]
  unfold besideL
  rw [List.take_add_one, this]
  simp
theorem besideL_length (i : Int) : ∀ (l : List (Int × Int)), (besideL i l).length ≤ l.length
  | [] => by simp [besideL]
  | x :: l => by
    have := besideL_length i l
    have h1 : (besideS i x).length ≤ 1 := by unfold besideS; split <;> (try split) <;> simp
    unfold besideL at this ⊢
    rw [List.flatMap_cons, List.length_append, List.length_cons]
    omega
def sortI (l : List Int) : List Int := l.mergeSort fun x y => decide (x ≤ y)
/-- dual.Beside -/
def besideP (ps : List (Int × Int)) (ts : List (Int × Int × Int)) (ss : List (Int × Int)) (i : Int) : List Int := sortI (besideL i (pairsP ps ts ss))

theorem own_rd1 {w : World} {base : Nat} {e : TypeId} {A : Option Addr} {c : Nat} {l : List Int} (h : w.ownsRow base e 1 (.slice A l.length c) l.length (l.map (Value.int .i64))) : Rd1 w A l := by
  rcases h.2 with ⟨_, h0⟩ | ⟨g, cap, cur, hv, _⟩
  · exact Or.inl (List.eq_nil_of_length_eq_zero h0)
  · simp only [Value.slice.injEq] at hv
    obtain ⟨rfl, _, rfl⟩ := hv
    refine Or.inr ⟨g, 0, rfl, fun j x hj => ?_⟩
    have hjl : j < l.length := (List.getElem?_eq_some_iff.1 hj).1
    have c0 := h.cellAt j (by omega)
    rw [Nat.zero_add, c0, List.getElem?_map, hj]
    rfl
theorem ext_sorted1 {w0 w : World} (hx : Ext w0 w) {g : Nat} (hg : w0.heap.size ≤ g) (n : Nat) (d : Array Int) (os : Array Obj) : Ext w0 (grow (putRow (Value.int .i64) (Go.Sort.ahead w n) g 0 d) os) := by
  refine ⟨hx.os, hx.tape, hx.output, ?_, ?_⟩
  · have := hx.size
    simp [grow, putRow, mapBlock, ahead]
    omega
  · intro k hk
    have h1 := hx.block k hk
    have h2 := hx.size
    rw [← h1]
    simp only [grow, putRow, mapBlock, ahead]
    rw [Array.getElem?_append, if_pos (by simp; omega), Array.getElem?_modify, if_neg (by omega)]
    rfl
theorem sortInt_any (A : Option Addr) (c : Nat) (e : TypeId) (l : List Int) (w0 w : World) (hx : Ext w0 w) (hown : w.ownsRow w0.heap.size e 1 (.slice A l.length c) l.length (l.map (Value.int .i64))) (hl : l.length ≤ 3000000) :
    Calls Try.prog 58 #[.slice A l.length c] w fun e w' => e = .returned (.tuple #[]) ∧ Ext w0 w' ∧ Rd1 w' A (sortI l) := by
  by_cases h0 : l = []
  · subst h0
    have := Try.slices_Sort_int_none A c w
    exact this.mono fun _ _ ⟨he, hw⟩ => ⟨he, hw ▸ hx, by simp [sortI]; exact own_rd1 (c := c) (hw ▸ hown)⟩
  · obtain ⟨g, rfl, hg⟩ : ∃ g, A = some ⟨g, 0, none⟩ ∧ w0.heap.size ≤ g := by
      rcases hown.2 with ⟨_, hn⟩ | ⟨g, cap, cur, hv, hg, _⟩
      · exact absurd (List.eq_nil_of_length_eq_zero hn) h0
      · simp only [Value.slice.injEq] at hv
        exact ⟨g, hv.1, hg⟩
    have hblk := (hown.lt g rfl).2
    have hH : Holds (Value.int .i64) w g 0 l.toArray := by
      intro j hj
      have hj' : j < l.length := by simpa using hj
      rw [Nat.zero_add]
      refine ⟨?_, hown.frozenAt j⟩
      rw [hown.cellAt j (by simpa using hj'), getElem!_pos l.toArray j hj]
      simp [List.getElem?_eq_getElem hj']
    have hcon := Try.slices_Sort_int g 0 c l w hH hblk (by omega)
    refine hcon.mono ?_
    rintro e w' ⟨he, n, os, rfl⟩
    refine ⟨he, ext_sorted1 hx hg n _ os, ?_⟩
    have hh := holds_grow (Value.int .i64) (putRow (Value.int .i64) (Go.Sort.ahead w n) g 0 (sortI l).toArray) os g 0 (sortI l).toArray (by simp [putRow, mapBlock, ahead]; exact hblk) (holds_putRow (Value.int .i64) (Go.Sort.ahead w n) g 0 l.toArray _ hH (by simp [sortI]))
    refine Or.inr ⟨g, 0, rfl, fun j x hj => ?_⟩
    have hjl : j < (sortI l).length := (List.getElem?_eq_some_iff.1 hj).1
    have h1 := (hh j (by simpa using hjl)).1
    rw [getElem!_pos (sortI l).toArray j (by simpa using hjl)] at h1
    have h2 : (sortI l).toArray[j]'(by simpa using hjl) = x := by simpa [List.getElem?_eq_getElem hjl] using hj
    rw [h2] at h1
    exact h1

set_option maxHeartbeats 4000000 in
set_option maxRecDepth 100000 in
theorem beside_any (AP AT AS : Option Addr) (cp ct cs : Nat) (ps : List (Int × Int)) (ts : List (Int × Int × Int)) (ss : List (Int × Int)) (i : Int) (w : World) (hM : Mesh w AP AT AS ps ts ss) :
    Calls Try.prog 27 #[.agg #[.slice AP ps.length cp, .slice AT ts.length ct, .slice AS ss.length cs], .int .i64 i] w fun e w' => (∃ A c, e = .returned (.slice A (besideP ps ts ss i).length c) ∧ Rd1 w' A (besideP ps ts ss i)) ∧ Ext w w' := by
  have HM := Lib.hid hM
  have hlt := hM.2.2.2.2.1
  clear hM
  have HP := Lib.hid (fun W h => (pairs_any AP AT AS cp ct cs ps ts ss W h).mono (R' := fun e w' => (∃ A c, e = .returned (.tuple #[.slice A (pairsP ps ts ss).length c, .int .i64 (chkI ps ts ss)]) ∧ Rd2 w' A (pairsP ps ts ss)) ∧ Ext W w') fun _ _ h => ⟨h.1.uni, h.2⟩)
  have hpl := pairsP_length ps ts ss
  unfold besideP
  generalize pairsP ps ts ss = pl at *
  generalize chkI ps ts ss = ck at *
  generalize hbl : besideL i pl = bl
  have HBL := Lib.hid hbl
  clear hbl
  go_enter Try.func27, Try.ntmps27
  go_upto_region 1 with fail
  generalize hB0 : w.heap.size = B0
  refine wp_world (fun W1 => Ext w W1 ∧ W1.cell? ⟨B0, 0, none⟩ = some (.slice AP ps.length cp) ∧ W1.cell? ⟨B0, 1, none⟩ = some (.slice AT ts.length ct) ∧ W1.cell? ⟨B0, 2, none⟩ = some (.slice AS ss.length cs))
    ⟨(Ext.refl w).alloc _, by subst hB0; simp [go_sem], by subst hB0; simp [go_sem], by subst hB0; simp [go_sem]⟩ ?_
  clear hB0
  rintro W ⟨hW, m0, m1, m2⟩
  have HM1 := Lib.hid (show Mesh W AP AT AS ps ts ss from ⟨HM.out.1.ext hW, HM.out.2.1.ext hW, HM.out.2.2.1.ext hW, HM.out.2.2.2⟩)
  clear HM
  go_wp2_with fail
  refine (HP.out _ HM1.out).mono ?_
  rintro e WB ⟨⟨A0, c0, rfl, hrd⟩, hWB⟩
  have HRd := Lib.hid hrd
  clear hrd HP HM1 m0 m1 m2
  replace hW := hW.trans hWB
  clear hWB
  go_wp2_with fail
  go_loopw [7, 17] (fun v i' wx => ∃ (k : Nat) (A : Option Addr) (c : Nat), k ≤ pl.length ∧ i' = .int .i64 k ∧ v = .slice A (besideL i (pl.take k)).length c ∧ Hid (wx.ownsRow WB.heap.size 3 1 (.slice A (besideL i (pl.take k)).length c) (besideL i (pl.take k)).length ((besideL i (pl.take k)).map (Value.int .i64))) ∧ Ext WB wx) (fun _ i _ => pl.length - (intOf i).toNat)
  case atStart => exact ⟨0, none, 0, Nat.zero_le _, rfl, rfl, World.ownsRow_nil _ _ _ _, Ext.refl _⟩
  case round =>
    obtain ⟨k, A, c, hk, rfl, rfl, HOw, hx⟩ := hrel
    by_cases hlt' : k < pl.length
    · have hlt1 : (k : Int) < (pl.length : Int) := by omega
      have HT := Lib.hid (besideL_take i pl k hlt')
      obtain ⟨b, o, hA, hc⟩ := (HRd.out.ext hx).open_ (by omega)
      obtain ⟨d0, d1⟩ := hc k hlt'
      clear hc
      have hlen : (besideL i (pl.take k)).length ≤ k := by have := besideL_length i (pl.take k); simp at this; omega
      generalize at2 pl k = s at *
      generalize besideL i (pl.take k) = ol at *
      obtain ⟨x, y⟩ := s
      simp only at d0 d1
      subst hA
      have hx1 := hx.alloc (Obj.cells #[Value.int IntKind.i64 x, Value.int IntKind.i64 y] 39)
      have ho1 := own_ext HOw.out ((Ext.refl wr).alloc (Obj.cells #[Value.int IntKind.i64 x, Value.int IntKind.i64 y] 39))
      have HO1 := Lib.hid ho1
      clear ho1 HOw
      go_upto_region 6 with fail
      refine wp_world (fun W4 => (Ext WB W4 ∧ Hid (W4.ownsRow WB.heap.size 3 1 (.slice A ol.length c) ol.length (ol.map (Value.int .i64)))) ∧ W4.cell? ⟨wr.heap.size, 0, none⟩ = some (.int .i64 x) ∧ W4.cell? ⟨wr.heap.size, 1, none⟩ = some (.int .i64 y))
        ⟨⟨hx1, HO1⟩, by simp [go_sem], by simp [go_sem]⟩ ?_
      clear HO1 hx1 d0 d1
      rintro W4 ⟨⟨hx4, HOw⟩, n0, n1⟩
      by_cases h1 : i = x
      · have HB := Lib.hid (show besideS i (x, y) = [y] by unfold besideS; rw [if_pos h1])
        have f1 : (i == x) = true := by simpa using h1
        clear h1
        have hx5 := hx4.alloc (Obj.cells #[Value.int IntKind.i64 y] 3)
        obtain ⟨A5, c5, w5, hr5, ho5, hg5⟩ := append_run 24 Try.underlying24 infoInt rfl (by omega) (own_ext HOw.out ((Ext.refl W4).alloc (Obj.cells #[Value.int IntKind.i64 y] 3))) hx5.size ⟨W4.heap.size, 0, none⟩ 1 1 [.int .i64 y] rfl (by
          intro j u hu
          match j, hu with
          | 0, hu => simp at hu; subst hu; simp [go_sem]
          | n + 1, hu => simp at hu) (by intro u hu; simp at hu; subst hu; rfl) (by omega) (by omega)
        have hlt5 := (own_ext HOw.out ((Ext.refl W4).alloc (Obj.cells #[Value.int IntKind.i64 y] 3))).lt
        have HO5 := Lib.hid ho5
        have HG5 := Lib.hid (hx5.grown hg5 (fun r hr => (hlt5 r hr).1))
        clear ho5 hg5 hlt5
        go_wp2_with (at_builtin; refine wpList_append_eq rfl _ _ _ _ rfl rfl rfl hr5 ?_)
        go_roundw
        case rel => exact ⟨k + 1, A5, c5, by omega, by go_num, by rw [HT.out, HB.out]; simp, by rw [HT.out, HB.out, List.map_append, List.length_append]; exact HO5, HG5.out⟩
        case measure => simp [intOf]; omega
      · by_cases h2 : i = y
        · have HB := Lib.hid (show besideS i (x, y) = [x] by unfold besideS; rw [if_neg h1, if_pos h2])
          have f1 : (i == x) = false := by simpa using h1
          have f2 : (i == y) = true := by simpa using h2
          clear h1 h2
          have hx5 := hx4.alloc (Obj.cells #[Value.int IntKind.i64 x] 3)
          obtain ⟨A5, c5, w5, hr5, ho5, hg5⟩ := append_run 24 Try.underlying24 infoInt rfl (by omega) (own_ext HOw.out ((Ext.refl W4).alloc (Obj.cells #[Value.int IntKind.i64 x] 3))) hx5.size ⟨W4.heap.size, 0, none⟩ 1 1 [.int .i64 x] rfl (by
            intro j u hu
            match j, hu with
            | 0, hu => simp at hu; subst hu; simp [go_sem]
            | n + 1, hu => simp at hu) (by intro u hu; simp at hu; subst hu; rfl) (by omega) (by omega)
          have hlt5 := (own_ext HOw.out ((Ext.refl W4).alloc (Obj.cells #[Value.int IntKind.i64 x] 3))).lt
          have HO5 := Lib.hid ho5
          have HG5 := Lib.hid (hx5.grown hg5 (fun r hr => (hlt5 r hr).1))
          clear ho5 hg5 hlt5
          go_wp2_with (at_builtin; refine wpList_append_eq rfl _ _ _ _ rfl rfl rfl hr5 ?_)
          go_roundw
          case rel => exact ⟨k + 1, A5, c5, by omega, by go_num, by rw [HT.out, HB.out]; simp, by rw [HT.out, HB.out, List.map_append, List.length_append]; exact HO5, HG5.out⟩
          case measure => simp [intOf]; omega
        · have HB := Lib.hid (show besideS i (x, y) = [] by unfold besideS; rw [if_neg h1, if_neg h2])
          have f1 : (i == x) = false := by simpa using h1
          have f2 : (i == y) = false := by simpa using h2
          clear h1 h2
          go_wp2_with fail
          go_roundw
          case rel => exact ⟨k + 1, A, c, by omega, by go_num, by rw [HT.out, HB.out]; simp, by rw [HT.out, HB.out, List.append_nil]; exact HOw, hx4⟩
          case measure => simp [intOf]; omega
    · have hlt1 : ¬ (k : Int) < (pl.length : Int) := by omega
      have hkl : k = pl.length := by omega
      subst hkl
      rw [List.take_length, HBL.out] at HOw ⊢
      have hlen : bl.length ≤ pl.length := by rw [← HBL.out]; exact besideL_length i pl
      have HSo := Lib.hid (fun w0 w hx h => sortInt_any A c 3 bl w0 w hx h (by omega))
      have hsl : bl.length = (sortI bl).length := by unfold sortI; simp
      have HSL := Lib.hid hsl
      clear hsl HBL
      obtain ⟨sb, hsb⟩ : ∃ sb, sb = sortI bl := ⟨_, rfl⟩
      rw [← hsb] at HSo HSL
      have HSB := Lib.hid hsb
      clear hsb
      go_wp2_with fail
      refine (HSo.out _ _ hx HOw.out).mono ?_
      rintro e W5 ⟨rfl, hx5, hrd⟩
      go_wp2_with fail
      go_ret
      rw [← HSB.out]
      exact ⟨⟨A, c, by rw [HSL.out]; rfl, hrd⟩, hW.trans hx5⟩
end Go.Proofs.Ytagofpmcbbkmgaa
