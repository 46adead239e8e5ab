/- parquetref01: Small, below 0. -/
import Derived.Test.YtagofpmcbbkmgaaR4
namespace Go.Proofs.Ytagofpmcbbkmgaa
open Go.RowKit Go.Sort

set_option maxHeartbeats 1000000 in
set_option maxRecDepth 100000 in
theorem SmallN_any (n : Int) (w : World) (h0 : 1 ≤ n) (h1 : n ≤ 9223372036854775808) :
    Calls Try.prog 25 #[.int .i64 (-n)] w fun e w' => (∃ v', e = .returned v' ∧ NumR w' v' (-n) 4) ∧ Ext w w' := by
  have hneg : decide (0 < n) = true := by simp; omega
  have HT := Lib.hid (fun A c l W (hl : l.length ≤ 4) hc hR hD (hv : val l = n) => (trim_any true A c l 4 W (by decide) hl hc hR hD).mono (R' := fun e w' => (∃ v', e = .returned v' ∧ NumR w' v' (-n) 4) ∧ Ext W w') fun e w' h => by
    simp only [if_true, hv] at h
    exact h)
  go_enter Try.func25, Try.ntmps25
  go_upto_region 3 with fail
  generalize hB0 : w.heap.size = B0
  refine wp_world (fun W1 => (Ext w W1 ∧ w.heap.size ≤ B0 ∧ B0 < W1.heap.size) ∧ (W1.cell? ⟨B0, 0, none⟩ = some (.bool false) ∧ W1.cell? ⟨B0, 1, none⟩ = some (.slice none 0 0)) ∧ W1.frozen? ⟨B0, 0, none⟩ = false ∧ W1.frozen? ⟨B0, 1, none⟩ = false)
    ⟨⟨(Ext.refl w).alloc _, by omega, by subst hB0; simp⟩, ⟨by subst hB0; simp [go_sem], by subst hB0; simp [go_sem]⟩, by subst hB0; simp [go_sem], by subst hB0; simp [go_sem]⟩ ?_
  clear hB0
  rintro WB ⟨⟨hW, hB0, hB1⟩, ⟨r0, r1⟩, g0, g1⟩
  go_loopw [3, 4] (fun v x wx => ∃ (A : Option Addr) (c : Nat) (l : List Int) (y : Int), v = .slice A l.length c ∧ x = .int .i64 (-y) ∧ 0 ≤ y ∧ y ≤ 9223372036854775808 ∧ l.length ≤ 4 ∧ Hid (y < 65536 ^ (4 - l.length)) ∧ Hid (val l + 65536 ^ l.length * y = n) ∧ Hid (Dig l) ∧ Hid (wx.ownsRow WB.heap.size 3 1 (.slice A l.length c) l.length (l.map (Value.int .i64))) ∧ Ext WB wx) (fun _ x _ => (-(intOf x)).toNat)
  case atStart => exact ⟨none, 0, [], n, rfl, rfl, by omega, h1, by decide, (by simp; omega : n < 65536 ^ (4 - ([] : List Int).length)), (by simp [val] : val [] + 65536 ^ ([] : List Int).length * n = n), (fun x h => by cases h), World.ownsRow_nil _ _ _ _, Ext.refl _⟩
  case round =>
    obtain ⟨A, c, l, y, rfl, rfl, hy0, hy1, hl, HPw, HV, HD, HOw, hx⟩ := hrel
    by_cases hy : y = 0
    · subst hy
      have hv : val l = n := by have := HV.out; simpa using this
      have hlc : l.length ≤ c := by
        rcases HOw.out.2 with ⟨h, hl0⟩ | ⟨g, cap, cur, h, _, _, hcap, _⟩
        · omega
        · simp only [Value.slice.injEq] at h; omega
      have HC := Lib.hid (fun W h => HT.out A c l W hl hlc h HD.out hv)
      have HR := Lib.hid (own_rd1 HOw.out)
      clear hv HT
      go_wp2_with fail
      refine (HC.out _ HR.out).mono ?_
      rintro e W5 ⟨⟨v', rfl, hn⟩, hx5⟩
      have HNm := Lib.hid hn
      obtain ⟨m', A', c', l', rfl, hrest⟩ := hn
      clear hrest
      replace hx := hx.trans hx5
      have q0 := hx.cell r0
      have q1 := hx.cell r1
      have q2 := hx.frozen r0 g0
      have q3 := hx.frozen r1 g1
      clear hx5 HC HR HOw r0 r1 g0 g1
      go_wp2_with fail
      have hfin : Ext w ((W5.setCell ⟨B0, 0, none⟩ (.bool m')).setCell ⟨B0, 1, none⟩ (.slice A' l'.length c')) := ((hW.trans hx).setCell hB0 _).setCell hB0 _
      exact bodyPost_ret (v := .agg #[.bool m', .slice A' l'.length c']) (by simp [results, Try.results25, go_sem, *]) rfl ⟨⟨_, rfl, HNm.out.box q0 q1 _ _⟩, hfin⟩
    · have hq : (-y == 0) = false := by simpa using hy
      have et : (-y).tmod 65536 = -(y % 65536) := by rw [Int.neg_tmod, Int.tmod_eq_emod_of_nonneg hy0]
      have eq : (-y).tdiv 65536 = -(y / 65536) := by rw [Int.neg_tdiv, Int.tdiv_eq_ediv_of_nonneg hy0]
      have hps := pow_step l.length y hl (by omega) HPw.out
      have hvs := val_step l y n HV.out
      have hr0 : 0 ≤ y % 65536 := by omega
      have hr1 : y % 65536 < 65536 := by omega
      generalize hr : y % 65536 = r at *
      generalize hd : y / 65536 = d at *
      have hd0 : 0 ≤ d := by omega
      have hd1 : d ≤ 9223372036854775808 := by omega
      have hdm : d.toNat < y.toNat := by omega
      have HPS := Lib.hid hps.2
      have HVS := Lib.hid hvs
      have HDS := Lib.hid (show Dig (l ++ [r]) from fun z hz => by
        rcases List.mem_append.1 hz with h | h
        · exact HD.out z h
        · rw [List.mem_singleton.1 h]; exact ⟨hr0, hr1⟩)
      have hl1 := hps.1
      clear hps hvs hr hd
      have hx5 := hx.alloc (Obj.cells #[Value.int IntKind.i64 r] 3)
      obtain ⟨A5, c5, w5, hr5, ho5, hg5⟩ := append_run 24 Try.underlying24 infoInt rfl (by omega) (own_ext HOw.out ((Ext.refl wr).alloc (Obj.cells #[Value.int IntKind.i64 r] 3))) hx5.size ⟨wr.heap.size, 0, none⟩ 1 1 [.int .i64 r] rfl (by
        intro j u hu
        match j, hu with
        | 0, hu => simp at hu; subst hu; simp [go_sem]
        | n + 1, hu => simp at hu) (by intro u hu; simp at hu; subst hu; rfl) (by omega) (by omega)
      have hlt5 := (own_ext HOw.out ((Ext.refl wr).alloc (Obj.cells #[Value.int IntKind.i64 r] 3))).lt
      have HO5 := Lib.hid ho5
      have HG5 := Lib.hid (hx5.grown hg5 (fun r hr => (hlt5 r hr).1))
      clear ho5 hg5 hlt5
      by_cases hrz : r = 0
      · subst hrz
        go_wp2_with (at_builtin; refine wpList_append_eq rfl _ _ _ _ rfl rfl rfl hr5 ?_)
        go_roundw
        case rel => exact ⟨A5, c5, l ++ [0], d, by simp, rfl, hd0, hd1, by simpa using hl1, by rw [List.length_append]; exact HPS, HVS, HDS, by rw [List.map_append, List.length_append]; exact HO5, HG5.out⟩
        case measure => simpa [intOf] using hdm
      · have hrn : decide (0 < r) = true := by simp; omega
        go_wp2_with (at_builtin; refine wpList_append_eq rfl _ _ _ _ rfl rfl rfl hr5 ?_)
        go_roundw
        case rel => exact ⟨A5, c5, l ++ [r], d, by simp, rfl, hd0, hd1, by simpa using hl1, by rw [List.length_append]; exact HPS, HVS, HDS, by rw [List.map_append, List.length_append]; exact HO5, HG5.out⟩
        case measure => simpa [intOf] using hdm
end Go.Proofs.Ytagofpmcbbkmgaa
