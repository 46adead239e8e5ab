/- parquetref03: Area. -/
import Derived.Test.YtagofpmcbbkmgaaR12
import Derived.Test.YtagofpmcbbkmgaaLF
import Derived.Deep.DeepCutAuto
namespace Go.Proofs.Ytagofpmcbbkmgaa
open Go.RowKit Go.Sort

/-- twice the area, by the shoelaces -/
def areaI (ax ay bx by_ cx cy : Int) : Int := (ax * by_ - ay * bx) + (bx * cy - by_ * cx) + (cx * ay - cy * ax)
/-- A number in a box of the call's own. -/
def NumB (W : World) (Bx : Nat) (z : Int) (K : Nat) : Prop := ∃ (m : Bool) (A : Option Addr) (c : Nat) (l : List Int), (W.cell? ⟨Bx, 0, none⟩ = some (.bool m) ∧ W.cell? ⟨Bx, 1, none⟩ = some (.slice A l.length c)) ∧ (W.frozen? ⟨Bx, 0, none⟩ = false ∧ W.frozen? ⟨Bx, 1, none⟩ = false) ∧ NumR W (.agg #[.bool m, .slice A l.length c]) z K

set_option maxHeartbeats 4000000 in
set_option maxRecDepth 100000 in
theorem Area_any (ax ay bx by_ cx cy : Int) (w : World) (hax : Fit ax) (hay : Fit ay) (hbx : Fit bx) (hby : Fit by_) (hcx : Fit cx) (hcy : Fit cy) :
    Calls Try.prog 21 #[.agg #[.int .i64 ax, .int .i64 ay], .agg #[.int .i64 bx, .int .i64 by_], .agg #[.int .i64 cx, .int .i64 cy]] w (RetN w (areaI ax ay bx by_ cx cy) 12) := by
  unfold RetN areaI
  have Nax := Lib.hid (fun W => num_any ax W hax.1 hax.2)
  have Nay := Lib.hid (fun W => num_any ay W hay.1 hay.2)
  have Nbx := Lib.hid (fun W => num_any bx W hbx.1 hbx.2)
  have Nby_ := Lib.hid (fun W => num_any by_ W hby.1 hby.2)
  have Ncx := Lib.hid (fun W => num_any cx W hcx.1 hcx.2)
  have Ncy := Lib.hid (fun W => num_any cy W hcy.1 hcy.2)
  unfold RetN at Nax Nay Nbx Nby_ Ncx Ncy
  have HDet := Lib.hid (fun a b c d za zb zc zd W h1 h2 h3 h4 => Det_any a b c d za zb zc zd 4 W (by omega) h1 h2 h3 h4)
  have HPl := Lib.hid (fun v u z1 z2 K W (hK : K ≤ 1000) h1 h2 => Plus_any v u z1 z2 K W hK h1 h2)
  unfold RetN at HDet HPl
  clear hax hay hbx hby hcx hcy
  go_enter Try.func21, Try.ntmps21
  go_upto_region 1 with fail
  refine wp_world (fun W1 => (Ext w W1 ∧ w.heap.size + 1 + 1 + 1 < W1.heap.size) ∧ (W1.cell? ⟨w.heap.size, 0, none⟩ = some (.int .i64 ax) ∧ W1.cell? ⟨w.heap.size, 1, none⟩ = some (.int .i64 ay) ∧ W1.cell? ⟨w.heap.size + 1, 0, none⟩ = some (.int .i64 bx) ∧ W1.cell? ⟨w.heap.size + 1, 1, none⟩ = some (.int .i64 by_) ∧ W1.cell? ⟨w.heap.size + 1 + 1, 0, none⟩ = some (.int .i64 cx) ∧ W1.cell? ⟨w.heap.size + 1 + 1, 1, none⟩ = some (.int .i64 cy)) ∧ (W1.cell? ⟨w.heap.size + 1 + 1 + 1, 0, none⟩ = some (.bool false) ∧ W1.cell? ⟨w.heap.size + 1 + 1 + 1, 1, none⟩ = some (.slice none 0 0)) ∧ W1.frozen? ⟨w.heap.size + 1 + 1 + 1, 0, none⟩ = false ∧ W1.frozen? ⟨w.heap.size + 1 + 1 + 1, 1, none⟩ = false)
    ⟨⟨((((Ext.refl w).alloc _).alloc _).alloc _).alloc _, by simp⟩, ⟨by simp [go_sem], by simp [go_sem], by simp [go_sem], by simp [go_sem], by simp [go_sem], by simp [go_sem]⟩, ⟨by simp [go_sem], by simp [go_sem]⟩, by simp [go_sem], by simp [go_sem]⟩ ?_
  generalize hB : w.heap.size = B
  have HBw := Lib.hid hB
  clear hB
  rintro W ⟨⟨hW, hzW⟩, ⟨a0, a1, b0, b1, c0, c1⟩, ⟨r0, r1⟩, g0, g1⟩
  have HK : Hid (∀ W1, Ext W W1 → _) := Lib.hid (show ∀ W1, Ext W W1 → Ext W W1 ∧ W1.cell? ⟨B, 0, none⟩ = some (.int .i64 ax) ∧ W1.cell? ⟨B, 1, none⟩ = some (.int .i64 ay) ∧ W1.cell? ⟨B + 1, 0, none⟩ = some (.int .i64 bx) ∧ W1.cell? ⟨B + 1, 1, none⟩ = some (.int .i64 by_) ∧ W1.cell? ⟨B + 1 + 1, 0, none⟩ = some (.int .i64 cx) ∧ W1.cell? ⟨B + 1 + 1, 1, none⟩ = some (.int .i64 cy) from
    fun W1 h => ⟨h, h.cell a0, h.cell a1, h.cell b0, h.cell b1, h.cell c0, h.cell c1⟩)
  go_cut [7] (fun x7 wx => ∃ B7, x7 = .pointer (some ⟨B7, 0, none⟩) ∧ W.heap.size ≤ B7 ∧ NumB wx B7 (ax * by_ - ay * bx) 10 ∧ Ext W wx)
  case first =>
    go_region_held3 (fun W1 => Ext W W1 ∧ W1.cell? ⟨B, 0, none⟩ = some (.int .i64 ax) ∧ W1.cell? ⟨B, 1, none⟩ = some (.int .i64 ay) ∧ W1.cell? ⟨B + 1, 0, none⟩ = some (.int .i64 bx) ∧ W1.cell? ⟨B + 1, 1, none⟩ = some (.int .i64 by_) ∧ W1.cell? ⟨B + 1 + 1, 0, none⟩ = some (.int .i64 cx) ∧ W1.cell? ⟨B + 1 + 1, 1, none⟩ = some (.int .i64 cy))
      (exact HK.out _ (by repeat (first | exact hk.out | exact (Ext.refl W).drew | exact ((Ext.refl W).alloc _).drew | exact Ext.refl W | refine Ext.alloc ?_ _ | refine Ext.setCell ?_ (by first | exact Nat.le_refl _ | omega | (simp; done) | (simp; omega)) _)))
      (first
          | (go_at_call 45; ((with_reducible refine (HDet.out _ _ _ _ ax ay bx by_ _ (by first | exact hn1.out | exact hn1.out.ext ((Ext.refl _).alloc _)) (by first | exact hn2.out | exact hn2.out.ext ((Ext.refl _).alloc _)) (by first | exact hn3.out | exact hn3.out.ext ((Ext.refl _).alloc _)) (by first | exact hn4.out | exact hn4.out.ext ((Ext.refl _).alloc _))).mono ?_); rintro e w' ⟨⟨v5, rfl, hn⟩, hx⟩; have hn5 := Lib.hid hn; obtain ⟨m5, A5, c5, l5, rfl, -⟩ := hn; have hk := Lib.hid (show Ext W w' from by first | exact hk.out.trans hx | exact (hk.out.alloc _).trans hx); have hsz := hk.out.size; (first | (have y0 := hx.frozen z0 y0; have y1 := hx.frozen z1 y1; have z0 := hx.cell z0; have z1 := hx.cell z1) | (have y0 := hx.frozen (cell_new _ (c := #[.bool false, .slice none 0 0]) (i := 0) rfl) (by simp [go_sem]); have y1 := hx.frozen (cell_new _ (c := #[.bool false, .slice none 0 0]) (i := 1) rfl) (by simp [go_sem]); have z0 := hx.cell (cell_new _ (c := #[.bool false, .slice none 0 0]) (i := 0) rfl); have z1 := hx.cell (cell_new _ (c := #[.bool false, .slice none 0 0]) (i := 1) rfl)) | skip); clear hx))
          | (go_at_call 46; ((with_reducible refine (Nby_.out _).mono ?_); rintro e w' ⟨⟨v4, rfl, hn⟩, hx⟩; have hn1 := Lib.hid (show NumR w' v1 ax 4 from by first | exact hn1.out.ext hx | exact hn1.out.ext (((Ext.refl _).alloc _).trans hx)); have hn2 := Lib.hid (show NumR w' v2 ay 4 from by first | exact hn2.out.ext hx | exact hn2.out.ext (((Ext.refl _).alloc _).trans hx)); have hn3 := Lib.hid (show NumR w' v3 bx 4 from by first | exact hn3.out.ext hx | exact hn3.out.ext (((Ext.refl _).alloc _).trans hx)); have hn4 := Lib.hid hn; have hk := Lib.hid (show Ext W w' from by first | exact hk.out.trans hx | exact (hk.out.alloc _).trans hx); have hsz := hk.out.size; (first | (have y0 := hx.frozen z0 y0; have y1 := hx.frozen z1 y1; have z0 := hx.cell z0; have z1 := hx.cell z1) | (have y0 := hx.frozen (cell_new _ (c := #[.bool false, .slice none 0 0]) (i := 0) rfl) (by simp [go_sem]); have y1 := hx.frozen (cell_new _ (c := #[.bool false, .slice none 0 0]) (i := 1) rfl) (by simp [go_sem]); have z0 := hx.cell (cell_new _ (c := #[.bool false, .slice none 0 0]) (i := 0) rfl); have z1 := hx.cell (cell_new _ (c := #[.bool false, .slice none 0 0]) (i := 1) rfl)) | skip); clear hn hx))
          | (go_at_call 46; ((with_reducible refine (Nbx.out _).mono ?_); rintro e w' ⟨⟨v3, rfl, hn⟩, hx⟩; have hn1 := Lib.hid (show NumR w' v1 ax 4 from by first | exact hn1.out.ext hx | exact hn1.out.ext (((Ext.refl _).alloc _).trans hx)); have hn2 := Lib.hid (show NumR w' v2 ay 4 from by first | exact hn2.out.ext hx | exact hn2.out.ext (((Ext.refl _).alloc _).trans hx)); have hn3 := Lib.hid hn; have hk := Lib.hid (show Ext W w' from by first | exact hk.out.trans hx | exact (hk.out.alloc _).trans hx); have hsz := hk.out.size; (first | (have y0 := hx.frozen z0 y0; have y1 := hx.frozen z1 y1; have z0 := hx.cell z0; have z1 := hx.cell z1) | (have y0 := hx.frozen (cell_new _ (c := #[.bool false, .slice none 0 0]) (i := 0) rfl) (by simp [go_sem]); have y1 := hx.frozen (cell_new _ (c := #[.bool false, .slice none 0 0]) (i := 1) rfl) (by simp [go_sem]); have z0 := hx.cell (cell_new _ (c := #[.bool false, .slice none 0 0]) (i := 0) rfl); have z1 := hx.cell (cell_new _ (c := #[.bool false, .slice none 0 0]) (i := 1) rfl)) | skip); clear hn hx))
          | (go_at_call 46; ((with_reducible refine (Nay.out _).mono ?_); rintro e w' ⟨⟨v2, rfl, hn⟩, hx⟩; have hn1 := Lib.hid (show NumR w' v1 ax 4 from by first | exact hn1.out.ext hx | exact hn1.out.ext (((Ext.refl _).alloc _).trans hx)); have hn2 := Lib.hid hn; have hk := Lib.hid (show Ext W w' from by first | exact hk.out.trans hx | exact (hk.out.alloc _).trans hx); have hsz := hk.out.size; (first | (have y0 := hx.frozen z0 y0; have y1 := hx.frozen z1 y1; have z0 := hx.cell z0; have z1 := hx.cell z1) | (have y0 := hx.frozen (cell_new _ (c := #[.bool false, .slice none 0 0]) (i := 0) rfl) (by simp [go_sem]); have y1 := hx.frozen (cell_new _ (c := #[.bool false, .slice none 0 0]) (i := 1) rfl) (by simp [go_sem]); have z0 := hx.cell (cell_new _ (c := #[.bool false, .slice none 0 0]) (i := 0) rfl); have z1 := hx.cell (cell_new _ (c := #[.bool false, .slice none 0 0]) (i := 1) rfl)) | skip); clear hn hx))
          | (go_at_call 46; ((with_reducible refine (Nax.out _).mono ?_); rintro e w' ⟨⟨v1, rfl, hn⟩, hx⟩; have hn1 := Lib.hid hn; have hk := Lib.hid (show Ext W w' from by first | exact (Ext.refl W).drew.trans hx | exact ((Ext.refl W).drew.alloc _).trans hx); have hsz := hk.out.size; (first | (have y0 := hx.frozen z0 y0; have y1 := hx.frozen z1 y1; have z0 := hx.cell z0; have z1 := hx.cell z1) | (have y0 := hx.frozen (cell_new _ (c := #[.bool false, .slice none 0 0]) (i := 0) rfl) (by simp [go_sem]); have y1 := hx.frozen (cell_new _ (c := #[.bool false, .slice none 0 0]) (i := 1) rfl) (by simp [go_sem]); have z0 := hx.cell (cell_new _ (c := #[.bool false, .slice none 0 0]) (i := 0) rfl); have z1 := hx.cell (cell_new _ (c := #[.bool false, .slice none 0 0]) (i := 1) rfl)) | skip); clear hn hx)))
    all_goals (go_wp2_with fail)
    all_goals go_meet
    all_goals first
      | exact ⟨_, rfl, hsz, ⟨m5, A5, c5, l5, ⟨by simp [go_sem], by simp [go_sem]⟩, ⟨by simp [go_sem], by simp [go_sem]⟩, hn5.out.ext ((Ext.refl _).alloc _)⟩, hk.out.alloc _⟩
      | exact ⟨_, rfl, by first | exact Nat.le_refl _ | omega, ⟨m5, A5, c5, l5, ⟨by simp [go_sem, z0], by simp [go_sem, z1]⟩, ⟨by simpa [go_sem] using y0, by simpa [go_sem] using y1⟩, hn5.out.box z0 z1 _ _⟩, (hk.out.setCell (by first | exact Nat.le_refl _ | omega) _).setCell (by first | exact Nat.le_refl _ | omega) _⟩
  case rest =>
    obtain ⟨B7, rfl, hB7, ⟨ms, As, cs, ls, ⟨s0, s1⟩, ⟨f0, f1⟩, hns⟩, hx⟩ := hcut
    have HNS := Lib.hid hns
    clear HK hns
    replace a0 := hx.cell a0
    replace a1 := hx.cell a1
    replace b0 := hx.cell b0
    replace b1 := hx.cell b1
    replace c0 := hx.cell c0
    replace c1 := hx.cell c1
    replace g0 := hx.frozen r0 g0
    replace g1 := hx.frozen r1 g1
    replace r0 := hx.cell r0
    replace r1 := hx.cell r1
    have hBB : B + 1 + 1 + 1 < B7 := by omega
    replace hW := hW.trans hx
    clear hx hB7
    have hns := HNS
    clear HNS
    go_upto_region 2 with fail
    refine wp_region_looks 15 [isV (.agg #[.bool ms, .slice As ls.length cs]), isV (.pointer (some ⟨B + 1, 0, none⟩)), isV (.int .i64 bx), fun v w => NumR w v bx 4, isV (.pointer (some ⟨B + 1, 1, none⟩)), isV (.int .i64 by_), fun v w => NumR w v by_ 4, isV (.pointer (some ⟨B + 1 + 1, 0, none⟩)), isV (.int .i64 cx), fun v w => NumR w v cx 4, isV (.pointer (some ⟨B + 1 + 1, 1, none⟩)), isV (.int .i64 cy), fun v w => NumR w v cy 4, fun v w => NumR w v (bx * cy - by_ * cx) 10, fun v w => NumR w v ((ax * by_ - ay * bx) + (bx * cy - by_ * cx)) 11] (by kernel_rfl) (by kernel_rfl) ?_ ?_ ?_
    · repeat (first | exact lasts_nil | refine lasts_cons ?_ ?_ | exact lasts_isV _ | exact fun _ _ _ h hx => NumR.ext h hx)
    · simp only [List.take_succ_cons, List.take_zero, Looks]
      refine ⟨?_, ?_, ?_, ?_, ?_, ?_, ?_, ?_, ?_, ?_, ?_, ?_, ?_, ?_, ?_, trivial⟩
      · intro vals w' hx' hd
        clear hd
        have k0 := hx'.cell s0
        have k1 := hx'.cell s1
        simp only [puL, if_true]
        unfold Oper.flow
        go_simp
        exact ⟨Ext.refl _, rfl⟩
      · intro vals w' hx' hd
        clear hd
        simp only [puL, if_true]
        unfold Oper.flow
        go_simp
        exact ⟨Ext.refl _, rfl⟩
      · intro vals w' hx' hd
        have d1 : (vals 1) = .pointer (some ⟨B + 1, 0, none⟩) := hd 1 (by kernel_rfl)
        clear hd
        have k0 := hx'.cell b0
        simp only [puL, if_true]
        unfold Oper.flow
        go_simp
        exact ⟨Ext.refl _, rfl⟩
      · intro vals w' hx' hd
        have d2 : (vals 2) = .int .i64 bx := hd 2 (by kernel_rfl)
        clear hd
        simp only [puL, if_true]
        unfold Oper.flow
        go_simp
        refine (Nbx.out _).mono ?_
        rintro e w'' ⟨⟨v', rfl, hn⟩, hxx⟩
        exact ⟨v', rfl, hxx, hn⟩
      · intro vals w' hx' hd
        clear hd
        simp only [puL, if_true]
        unfold Oper.flow
        go_simp
        exact ⟨Ext.refl _, rfl⟩
      · intro vals w' hx' hd
        have d4 : (vals 4) = .pointer (some ⟨B + 1, 1, none⟩) := hd 4 (by kernel_rfl)
        clear hd
        have k0 := hx'.cell b1
        simp only [puL, if_true]
        unfold Oper.flow
        go_simp
        exact ⟨Ext.refl _, rfl⟩
      · intro vals w' hx' hd
        have d5 : (vals 5) = .int .i64 by_ := hd 5 (by kernel_rfl)
        clear hd
        simp only [puL, if_true]
        unfold Oper.flow
        go_simp
        refine (Nby_.out _).mono ?_
        rintro e w'' ⟨⟨v', rfl, hn⟩, hxx⟩
        exact ⟨v', rfl, hxx, hn⟩
      · intro vals w' hx' hd
        clear hd
        simp only [puL, if_true]
        unfold Oper.flow
        go_simp
        exact ⟨Ext.refl _, rfl⟩
      · intro vals w' hx' hd
        have d7 : (vals 7) = .pointer (some ⟨B + 1 + 1, 0, none⟩) := hd 7 (by kernel_rfl)
        clear hd
        have k0 := hx'.cell c0
        simp only [puL, if_true]
        unfold Oper.flow
        go_simp
        exact ⟨Ext.refl _, rfl⟩
      · intro vals w' hx' hd
        have d8 : (vals 8) = .int .i64 cx := hd 8 (by kernel_rfl)
        clear hd
        simp only [puL, if_true]
        unfold Oper.flow
        go_simp
        refine (Ncx.out _).mono ?_
        rintro e w'' ⟨⟨v', rfl, hn⟩, hxx⟩
        exact ⟨v', rfl, hxx, hn⟩
      · intro vals w' hx' hd
        clear hd
        simp only [puL, if_true]
        unfold Oper.flow
        go_simp
        exact ⟨Ext.refl _, rfl⟩
      · intro vals w' hx' hd
        have d10 : (vals 10) = .pointer (some ⟨B + 1 + 1, 1, none⟩) := hd 10 (by kernel_rfl)
        clear hd
        have k0 := hx'.cell c1
        simp only [puL, if_true]
        unfold Oper.flow
        go_simp
        exact ⟨Ext.refl _, rfl⟩
      · intro vals w' hx' hd
        have d11 : (vals 11) = .int .i64 cy := hd 11 (by kernel_rfl)
        clear hd
        simp only [puL, if_true]
        unfold Oper.flow
        go_simp
        refine (Ncy.out _).mono ?_
        rintro e w'' ⟨⟨v', rfl, hn⟩, hxx⟩
        exact ⟨v', rfl, hxx, hn⟩
      · intro vals w' hx' hd
        have d3 : NumR w' (vals 3) bx 4 := hd 3 (by kernel_rfl)
        have d6 : NumR w' (vals 6) by_ 4 := hd 6 (by kernel_rfl)
        have d9 : NumR w' (vals 9) cx 4 := hd 9 (by kernel_rfl)
        have d12 : NumR w' (vals 12) cy 4 := hd 12 (by kernel_rfl)
        clear hd
        have D3 := Lib.hid d3
        clear d3
        have D6 := Lib.hid d6
        clear d6
        have D9 := Lib.hid d9
        clear d9
        have D12 := Lib.hid d12
        clear d12
        simp only [puL, if_true]
        unfold Oper.flow
        go_simp
        refine (HDet.out _ _ _ _ bx by_ cx cy _ D3.out D6.out D9.out D12.out).mono ?_
        rintro e w'' ⟨⟨v', rfl, hn⟩, hxx⟩
        exact ⟨v', rfl, hxx, hn⟩
      · intro vals w' hx' hd
        have d0 : (vals 0) = .agg #[.bool ms, .slice As ls.length cs] := hd 0 (by kernel_rfl)
        have d13 : NumR w' (vals 13) (bx * cy - by_ * cx) 10 := hd 13 (by kernel_rfl)
        clear hd
        have D13 := Lib.hid d13
        clear d13
        simp only [puL, if_true]
        unfold Oper.flow
        go_simp
        refine (HPl.out _ _ ((ax * by_ - ay * bx)) (bx * cy - by_ * cx) 10 _ (by omega) (hns.out.ext hx') D13.out).mono ?_
        rintro e w'' ⟨⟨v', rfl, hn⟩, hxx⟩
        exact ⟨v', rfl, hxx, hn⟩
    intro vals W5 hx5 hall
    have hz : NumR W5 (vals 14) ((ax * by_ - ay * bx) + (bx * cy - by_ * cx)) 11 := hall 14 (by omega)
    have HZ := Lib.hid hz
    obtain ⟨m5, A5, c5, l5, hv, -⟩ := hz
    clear hall
    rw [hv] at HZ
    simp only [List.take_succ_cons, List.take_zero, List.drop_succ_cons, List.drop_zero, puL, if_true, hv, Act.put, List.setIfInBounds_toArray, List.set_cons_succ, List.set_cons_zero]
    clear hv
    try generalize vals 0 = q0
    try generalize vals 1 = q1
    try generalize vals 2 = q2
    try generalize vals 3 = q3
    try generalize vals 4 = q4
    try generalize vals 5 = q5
    try generalize vals 6 = q6
    try generalize vals 7 = q7
    try generalize vals 8 = q8
    try generalize vals 9 = q9
    try generalize vals 10 = q10
    try generalize vals 11 = q11
    try generalize vals 12 = q12
    try generalize vals 13 = q13
    clear vals
    clear hns
    replace f0 := hx5.frozen s0 f0
    replace f1 := hx5.frozen s1 f1
    replace s0 := hx5.cell s0
    replace s1 := hx5.cell s1
    go_upto_region 3 with fail
    refine wp_world (fun W1 => ∃ (ms : Bool) (As : Option Addr) (cs : Nat) (ls : List Int), (Ext w W1 ∧ (W1.cell? ⟨B7, 0, none⟩ = some (.bool ms) ∧ W1.cell? ⟨B7, 1, none⟩ = some (.slice As ls.length cs)) ∧ Hid (NumR W1 (.agg #[.bool ms, .slice As ls.length cs]) ((ax * by_ - ay * bx) + (bx * cy - by_ * cx)) 11) ∧ (W1.cell? ⟨B, 0, none⟩ = some (.int .i64 ax) ∧ W1.cell? ⟨B, 1, none⟩ = some (.int .i64 ay) ∧ W1.cell? ⟨B + 1, 0, none⟩ = some (.int .i64 bx) ∧ W1.cell? ⟨B + 1, 1, none⟩ = some (.int .i64 by_) ∧ W1.cell? ⟨B + 1 + 1, 0, none⟩ = some (.int .i64 cx) ∧ W1.cell? ⟨B + 1 + 1, 1, none⟩ = some (.int .i64 cy)) ∧ (W1.cell? ⟨B + 1 + 1 + 1, 0, none⟩ = some (.bool false) ∧ W1.cell? ⟨B + 1 + 1 + 1, 1, none⟩ = some (.slice none 0 0)) ∧ W1.frozen? ⟨B + 1 + 1 + 1, 0, none⟩ = false ∧ W1.frozen? ⟨B + 1 + 1 + 1, 1, none⟩ = false))
      ⟨m5, A5, c5, l5, ((hW.trans hx5).setCell (by have := HBw.out; simp; omega) _).setCell (by have := HBw.out; simp; omega) _, ⟨by simp [go_sem, s0], by simp [go_sem, s1]⟩, Lib.hid (HZ.out.box s0 s1 _ _),
        ⟨by simp [go_sem, hx5.cell a0, show ¬ B7 = B by omega], by simp [go_sem, hx5.cell a1, show ¬ B7 = B by omega], by simp [go_sem, hx5.cell b0, show ¬ B7 = B + 1 by omega], by simp [go_sem, hx5.cell b1, show ¬ B7 = B + 1 by omega], by simp [go_sem, hx5.cell c0, show ¬ B7 = B + 1 + 1 by omega], by simp [go_sem, hx5.cell c1, show ¬ B7 = B + 1 + 1 by omega]⟩,
        ⟨by simp [go_sem, hx5.cell r0, show ¬ B7 = B + 1 + 1 + 1 by omega], by simp [go_sem, hx5.cell r1, show ¬ B7 = B + 1 + 1 + 1 by omega]⟩, by simpa [go_sem] using hx5.frozen r0 g0, by simpa [go_sem] using hx5.frozen r1 g1⟩ ?_
    clear HZ hx5 f0 f1 s0 s1 a0 a1 b0 b1 c0 c1 r0 r1 g0 g1 hW
    rintro W6 ⟨ms, As, cs, ls, hW, ⟨s0, s1⟩, hns, ⟨a0, a1, b0, b1, c0, c1⟩, ⟨r0, r1⟩, g0, g1⟩
    refine wp_region_looks 15 [isV (.agg #[.bool ms, .slice As ls.length cs]), isV (.pointer (some ⟨B + 1 + 1, 0, none⟩)), isV (.int .i64 cx), fun v w => NumR w v cx 4, isV (.pointer (some ⟨B + 1 + 1, 1, none⟩)), isV (.int .i64 cy), fun v w => NumR w v cy 4, isV (.pointer (some ⟨B, 0, none⟩)), isV (.int .i64 ax), fun v w => NumR w v ax 4, isV (.pointer (some ⟨B, 1, none⟩)), isV (.int .i64 ay), fun v w => NumR w v ay 4, fun v w => NumR w v (cx * ay - cy * ax) 10, fun v w => NumR w v (((ax * by_ - ay * bx) + (bx * cy - by_ * cx)) + (cx * ay - cy * ax)) 12] (by kernel_rfl) (by kernel_rfl) ?_ ?_ ?_
    · repeat (first | exact lasts_nil | refine lasts_cons ?_ ?_ | exact lasts_isV _ | exact fun _ _ _ h hx => NumR.ext h hx)
    · simp only [List.take_succ_cons, List.take_zero, Looks]
      refine ⟨?_, ?_, ?_, ?_, ?_, ?_, ?_, ?_, ?_, ?_, ?_, ?_, ?_, ?_, ?_, trivial⟩
      · intro vals w' hx' hd
        clear hd
        have k0 := hx'.cell s0
        have k1 := hx'.cell s1
        simp only [puL, if_true]
        unfold Oper.flow
        go_simp
        exact ⟨Ext.refl _, rfl⟩
      · intro vals w' hx' hd
        clear hd
        simp only [puL, if_true]
        unfold Oper.flow
        go_simp
        exact ⟨Ext.refl _, rfl⟩
      · intro vals w' hx' hd
        have d1 : (vals 1) = .pointer (some ⟨B + 1 + 1, 0, none⟩) := hd 1 (by kernel_rfl)
        clear hd
        have k0 := hx'.cell c0
        simp only [puL, if_true]
        unfold Oper.flow
        go_simp
        exact ⟨Ext.refl _, rfl⟩
      · intro vals w' hx' hd
        have d2 : (vals 2) = .int .i64 cx := hd 2 (by kernel_rfl)
        clear hd
        simp only [puL, if_true]
        unfold Oper.flow
        go_simp
        refine (Ncx.out _).mono ?_
        rintro e w'' ⟨⟨v', rfl, hn⟩, hxx⟩
        exact ⟨v', rfl, hxx, hn⟩
      · intro vals w' hx' hd
        clear hd
        simp only [puL, if_true]
        unfold Oper.flow
        go_simp
        exact ⟨Ext.refl _, rfl⟩
      · intro vals w' hx' hd
        have d4 : (vals 4) = .pointer (some ⟨B + 1 + 1, 1, none⟩) := hd 4 (by kernel_rfl)
        clear hd
        have k0 := hx'.cell c1
        simp only [puL, if_true]
        unfold Oper.flow
        go_simp
        exact ⟨Ext.refl _, rfl⟩
      · intro vals w' hx' hd
        have d5 : (vals 5) = .int .i64 cy := hd 5 (by kernel_rfl)
        clear hd
        simp only [puL, if_true]
        unfold Oper.flow
        go_simp
        refine (Ncy.out _).mono ?_
        rintro e w'' ⟨⟨v', rfl, hn⟩, hxx⟩
        exact ⟨v', rfl, hxx, hn⟩
      · intro vals w' hx' hd
        clear hd
        simp only [puL, if_true]
        unfold Oper.flow
        go_simp
        exact ⟨Ext.refl _, rfl⟩
      · intro vals w' hx' hd
        have d7 : (vals 7) = .pointer (some ⟨B, 0, none⟩) := hd 7 (by kernel_rfl)
        clear hd
        have k0 := hx'.cell a0
        simp only [puL, if_true]
        unfold Oper.flow
        go_simp
        exact ⟨Ext.refl _, rfl⟩
      · intro vals w' hx' hd
        have d8 : (vals 8) = .int .i64 ax := hd 8 (by kernel_rfl)
        clear hd
        simp only [puL, if_true]
        unfold Oper.flow
        go_simp
        refine (Nax.out _).mono ?_
        rintro e w'' ⟨⟨v', rfl, hn⟩, hxx⟩
        exact ⟨v', rfl, hxx, hn⟩
      · intro vals w' hx' hd
        clear hd
        simp only [puL, if_true]
        unfold Oper.flow
        go_simp
        exact ⟨Ext.refl _, rfl⟩
      · intro vals w' hx' hd
        have d10 : (vals 10) = .pointer (some ⟨B, 1, none⟩) := hd 10 (by kernel_rfl)
        clear hd
        have k0 := hx'.cell a1
        simp only [puL, if_true]
        unfold Oper.flow
        go_simp
        exact ⟨Ext.refl _, rfl⟩
      · intro vals w' hx' hd
        have d11 : (vals 11) = .int .i64 ay := hd 11 (by kernel_rfl)
        clear hd
        simp only [puL, if_true]
        unfold Oper.flow
        go_simp
        refine (Nay.out _).mono ?_
        rintro e w'' ⟨⟨v', rfl, hn⟩, hxx⟩
        exact ⟨v', rfl, hxx, hn⟩
      · intro vals w' hx' hd
        have d3 : NumR w' (vals 3) cx 4 := hd 3 (by kernel_rfl)
        have d6 : NumR w' (vals 6) cy 4 := hd 6 (by kernel_rfl)
        have d9 : NumR w' (vals 9) ax 4 := hd 9 (by kernel_rfl)
        have d12 : NumR w' (vals 12) ay 4 := hd 12 (by kernel_rfl)
        clear hd
        have D3 := Lib.hid d3
        clear d3
        have D6 := Lib.hid d6
        clear d6
        have D9 := Lib.hid d9
        clear d9
        have D12 := Lib.hid d12
        clear d12
        simp only [puL, if_true]
        unfold Oper.flow
        go_simp
        refine (HDet.out _ _ _ _ cx cy ax ay _ D3.out D6.out D9.out D12.out).mono ?_
        rintro e w'' ⟨⟨v', rfl, hn⟩, hxx⟩
        exact ⟨v', rfl, hxx, hn⟩
      · intro vals w' hx' hd
        have d0 : (vals 0) = .agg #[.bool ms, .slice As ls.length cs] := hd 0 (by kernel_rfl)
        have d13 : NumR w' (vals 13) (cx * ay - cy * ax) 10 := hd 13 (by kernel_rfl)
        clear hd
        have D13 := Lib.hid d13
        clear d13
        simp only [puL, if_true]
        unfold Oper.flow
        go_simp
        refine (HPl.out _ _ (((ax * by_ - ay * bx) + (bx * cy - by_ * cx))) (cx * ay - cy * ax) 11 _ (by omega) (hns.out.ext hx') (D13.out.mono (by omega))).mono ?_
        rintro e w'' ⟨⟨v', rfl, hn⟩, hxx⟩
        exact ⟨v', rfl, hxx, hn⟩
    intro vals W5 hx5 hall
    have hz : NumR W5 (vals 14) ((ax * by_ - ay * bx) + (bx * cy - by_ * cx) + (cx * ay - cy * ax)) 12 := hall 14 (by omega)
    have HZ := Lib.hid hz
    obtain ⟨m5, A5, c5, l5, hv, -⟩ := hz
    clear hall
    rw [hv] at HZ
    simp only [List.take_succ_cons, List.take_zero, List.drop_succ_cons, List.drop_zero, puL, if_true, hv, Act.put, List.setIfInBounds_toArray, List.set_cons_succ, List.set_cons_zero]
    clear hv
    try generalize vals 0 = q0
    try generalize vals 1 = q1
    try generalize vals 2 = q2
    try generalize vals 3 = q3
    try generalize vals 4 = q4
    try generalize vals 5 = q5
    try generalize vals 6 = q6
    try generalize vals 7 = q7
    try generalize vals 8 = q8
    try generalize vals 9 = q9
    try generalize vals 10 = q10
    try generalize vals 11 = q11
    try generalize vals 12 = q12
    try generalize vals 13 = q13
    clear vals
    clear hns
    replace g0 := hx5.frozen r0 g0
    replace g1 := hx5.frozen r1 g1
    replace r0 := hx5.cell r0
    replace r1 := hx5.cell r1
    replace hW := hW.trans hx5
    clear s0 s1 a0 a1 b0 b1 c0 c1 hx5
    go_wp2_with fail
    have hfin : Ext w ((W5.setCell ⟨B + 1 + 1 + 1, 0, none⟩ (.bool m5)).setCell ⟨B + 1 + 1 + 1, 1, none⟩ (.slice A5 l5.length c5)) := (hW.setCell (by have := HBw.out; simp; omega) _).setCell (by have := HBw.out; simp; omega) _
    exact bodyPost_ret (v := .agg #[.bool m5, .slice A5 l5.length c5]) (by simp [results, Try.results21, go_sem, *]) rfl ⟨⟨_, rfl, HZ.out.box r0 r1 _ _⟩, hfin⟩
end Go.Proofs.Ytagofpmcbbkmgaa
