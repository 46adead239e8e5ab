/- parquetref03: num, minus, Det. -/
import Derived.Test.YtagofpmcbbkmgaaR11
import Derived.Deep.RegionHeld3
namespace Go.Proofs.Ytagofpmcbbkmgaa
open Go.RowKit Go.Sort

set_option maxHeartbeats 1000000 in
set_option maxRecDepth 100000 in
theorem num_any (n : Int) (w : World) (h0 : -9223372036854775808 ≤ n) (h1 : n ≤ 9223372036854775807) :
    Calls Try.prog 46 #[.int .i64 n] w (RetN w n 4) := by
  unfold RetN
  have HS := Lib.hid (fun W => Small_any n W h0 h1)
  go_enter Try.func46, Try.ntmps46
  go_wp2_with fail
  refine (HS.out _).mono ?_
  rintro e W5 ⟨⟨v', rfl, hn⟩, hx⟩
  have HNm := Lib.hid hn
  obtain ⟨m5, A5, c5, l5, rfl, -⟩ := hn
  have q0 := hx.cell (p := ⟨w.heap.size, 0, none⟩) (v := .bool false) (by simp [go_sem])
  have q1 := hx.cell (p := ⟨w.heap.size, 1, none⟩) (v := .slice none 0 0) (by simp [go_sem])
  have q2 := hx.frozen (p := ⟨w.heap.size, 0, none⟩) (v := .bool false) (by simp [go_sem]) (by simp [go_sem])
  have q3 := hx.frozen (p := ⟨w.heap.size, 1, none⟩) (v := .slice none 0 0) (by simp [go_sem]) (by simp [go_sem])
  replace hx := ((Ext.refl w).alloc _).trans hx
  go_wp2_with fail
  exact bodyPost_ret (v := .agg #[.bool m5, .slice A5 l5.length c5]) (by simp [results, Try.results46, go_sem, *]) rfl ⟨⟨_, rfl, HNm.out.box q0 q1 _ _⟩, (hx.setCell (Nat.le_refl _) _).setCell (Nat.le_refl _) _⟩

set_option maxHeartbeats 1000000 in
set_option maxRecDepth 100000 in
theorem minus_any (v u : Value) (z1 z2 : Int) (K : Nat) (w : World) (hK : K ≤ 1000) (h1 : NumR w v z1 K) (h2 : NumR w u z2 K) :
    Calls Try.prog 75 #[v, u] w (RetN w (z1 - z2) (K + 1)) := by
  unfold RetN
  have hv := h1
  obtain ⟨m, A, c, l, rfl, -⟩ := hv
  have hu := h2
  obtain ⟨m', A', c', l', rfl, -⟩ := hu
  have HNeg := Lib.hid (fun W => Neg_val m' A' c' l' W)
  have HN2 := Lib.hid (Neg_num h2)
  have HN1 := Lib.hid h1
  generalize (!m' && decide (0 < l'.length)) = nm at *
  clear h1 h2
  rw [Int.sub_eq_add_neg]
  have HPl := Lib.hid (fun W h1 h2 => Plus_any (.agg #[.bool m, .slice A l.length c]) (.agg #[.bool nm, .slice A' l'.length c']) z1 (-z2) K W hK h1 h2)
  unfold RetN at HPl
  generalize z1 + -z2 = s at *
  go_enter Try.func75, Try.ntmps75
  go_wp2_with fail
  refine wp_world (fun W1 => (Ext w W1 ∧ w.heap.size + 1 + 1 < W1.heap.size) ∧ (W1.cell? ⟨w.heap.size, 0, none⟩ = some (.bool m) ∧ W1.cell? ⟨w.heap.size, 1, none⟩ = some (.slice A l.length c)) ∧ (W1.cell? ⟨w.heap.size + 1, 0, none⟩ = some (.bool m') ∧ W1.cell? ⟨w.heap.size + 1, 1, none⟩ = some (.slice A' l'.length c')) ∧
      (W1.cell? ⟨w.heap.size + 1 + 1, 0, none⟩ = some (.bool false) ∧ W1.cell? ⟨w.heap.size + 1 + 1, 1, none⟩ = some (.slice none 0 0)) ∧ W1.frozen? ⟨w.heap.size + 1 + 1, 0, none⟩ = false ∧ W1.frozen? ⟨w.heap.size + 1 + 1, 1, none⟩ = false)
    ⟨⟨(((Ext.refl w).alloc _).alloc _).alloc _, by simp⟩, ⟨by simp [go_sem], by simp [go_sem]⟩, ⟨by simp [go_sem], by simp [go_sem]⟩, ⟨by simp [go_sem], by simp [go_sem]⟩, by simp [go_sem], by simp [go_sem]⟩ ?_
  rintro W ⟨⟨hW, hzW⟩, ⟨p0, p1⟩, ⟨q0, q1⟩, ⟨r0, r1⟩, g0, g1⟩
  have x0 := cell_ext p0
  have x1 := cell_ext p1
  have x2 := cell_ext q0
  have x3 := cell_ext q1
  refine wp_region_ext_tail 3 (by kernel_rfl) (by kernel_rfl) ?_
  simp only [List.take_succ_cons, List.take_zero, List.drop_succ_cons, List.drop_zero]
  repeat (go_big_quiet_step ((go_at_call 50; with_reducible exact ext_call (HNeg.out _))))
  refine wpQuiet_nil ?_
  intro W2 h2
  replace h2 := ext_of h2
  have R0 := Lib.hid (show (W2.cell? ⟨w.heap.size + 1 + 1, 0, none⟩ = some (.bool false) ∧ W2.cell? ⟨w.heap.size + 1 + 1, 1, none⟩ = some (.slice none 0 0)) ∧ W2.frozen? ⟨w.heap.size + 1 + 1, 0, none⟩ = false ∧ W2.frozen? ⟨w.heap.size + 1 + 1, 1, none⟩ = false from ⟨⟨h2.cell r0, h2.cell r1⟩, h2.frozen r0 g0, h2.frozen r1 g1⟩)
  replace hW := hW.trans h2
  clear x0 x1 x2 x3 p0 p1 q0 q1 h2 r0 r1 g0 g1
  go_wp2_with fail
  refine (HPl.out _ (HN1.out.ext hW) (HN2.out.ext hW)).mono ?_
  rintro e W5 ⟨⟨v', rfl, hn⟩, hx⟩
  have HNm := Lib.hid hn
  obtain ⟨m5, A5, c5, l5, rfl, -⟩ := hn
  have q0 := hx.cell R0.out.1.1
  have q1 := hx.cell R0.out.1.2
  have q2 := hx.frozen R0.out.1.1 R0.out.2.1
  have q3 := hx.frozen R0.out.1.2 R0.out.2.2
  replace hx := hW.trans hx
  clear HPl hW
  go_wp2_with fail
  exact bodyPost_ret (v := .agg #[.bool m5, .slice A5 l5.length c5]) (by simp [results, Try.results75, go_sem, *]) rfl ⟨⟨_, rfl, HNm.out.box q0 q1 _ _⟩, (hx.setCell (by simp; omega) _).setCell (by simp; omega) _⟩

set_option maxHeartbeats 1000000 in
set_option maxRecDepth 100000 in
theorem Det_any (a b c d : Value) (za zb zc zd : Int) (K : Nat) (w : World) (hK : K ≤ 200) (ha : NumR w a za K) (hb : NumR w b zb K) (hc : NumR w c zc K) (hd : NumR w d zd K) :
    Calls Try.prog 45 #[a, b, c, d] w (RetN w (za * zd - zb * zc) (2 * K + 2)) := by
  unfold RetN
  have HA := Lib.hid ha
  have HB := Lib.hid hb
  have HC := Lib.hid hc
  have HD := Lib.hid hd
  obtain ⟨ma, Aa, ca, la, rfl, -⟩ := ha
  obtain ⟨mb, Ab, cb, lb, rfl, -⟩ := hb
  obtain ⟨mc, Ac, cc, lc, rfl, -⟩ := hc
  obtain ⟨md, Ad, cd, ld, rfl, -⟩ := hd
  have HT1 := Lib.hid (fun W (h : Ext w W) => Times_any _ _ za zd K W (by omega) (HA.out.ext h) (HD.out.ext h))
  have HT2 := Lib.hid (fun W (h : Ext w W) => Times_any _ _ zb zc K W (by omega) (HB.out.ext h) (HC.out.ext h))
  have HMi := Lib.hid (fun v u W h1 h2 => minus_any v u (za * zd) (zb * zc) (2 * K + 1) W (by omega) h1 h2)
  unfold RetN at HT1 HT2 HMi
  generalize za * zd = z1 at *
  generalize zb * zc = z2 at *
  clear HA HB HC HD
  go_enter Try.func45, Try.ntmps45
  go_wp2_with fail
  refine wp_world (fun W1 => (Ext w W1 ∧ w.heap.size + 1 + 1 + 1 + 1 < W1.heap.size) ∧ (W1.cell? ⟨w.heap.size, 0, none⟩ = some (.bool ma) ∧ W1.cell? ⟨w.heap.size, 1, none⟩ = some (.slice Aa la.length ca)) ∧ (W1.cell? ⟨w.heap.size + 1, 0, none⟩ = some (.bool mb) ∧ W1.cell? ⟨w.heap.size + 1, 1, none⟩ = some (.slice Ab lb.length cb)) ∧
      (W1.cell? ⟨w.heap.size + 1 + 1, 0, none⟩ = some (.bool mc) ∧ W1.cell? ⟨w.heap.size + 1 + 1, 1, none⟩ = some (.slice Ac lc.length cc)) ∧ (W1.cell? ⟨w.heap.size + 1 + 1 + 1, 0, none⟩ = some (.bool md) ∧ W1.cell? ⟨w.heap.size + 1 + 1 + 1, 1, none⟩ = some (.slice Ad ld.length cd)) ∧
      (W1.cell? ⟨w.heap.size + 1 + 1 + 1 + 1, 0, none⟩ = some (.bool false) ∧ W1.cell? ⟨w.heap.size + 1 + 1 + 1 + 1, 1, none⟩ = some (.slice none 0 0)) ∧ W1.frozen? ⟨w.heap.size + 1 + 1 + 1 + 1, 0, none⟩ = false ∧ W1.frozen? ⟨w.heap.size + 1 + 1 + 1 + 1, 1, none⟩ = false)
    ⟨⟨(((((Ext.refl w).alloc _).alloc _).alloc _).alloc _).alloc _, by simp⟩, ⟨by simp [go_sem], by simp [go_sem]⟩, ⟨by simp [go_sem], by simp [go_sem]⟩, ⟨by simp [go_sem], by simp [go_sem]⟩, ⟨by simp [go_sem], by simp [go_sem]⟩, ⟨by simp [go_sem], by simp [go_sem]⟩, by simp [go_sem], by simp [go_sem]⟩ ?_
  generalize hB : w.heap.size = B
  have HBw := Lib.hid hB
  clear hB
  rintro W ⟨⟨hW, hzW⟩, ⟨p0, p1⟩, ⟨q0, q1⟩, ⟨s0, s1⟩, ⟨t0, t1⟩, ⟨r0, r1⟩, g0, g1⟩
  have HK : Hid (∀ W1, Ext W W1 → _) := Lib.hid (show ∀ W1, Ext W W1 → Ext w W1 ∧ W1.cell? ⟨B, 0, none⟩ = some (.bool ma) ∧ W1.cell? ⟨B, 1, none⟩ = some (.slice Aa la.length ca) ∧ W1.cell? ⟨B + 1, 0, none⟩ = some (.bool mb) ∧ W1.cell? ⟨B + 1, 1, none⟩ = some (.slice Ab lb.length cb) ∧ W1.cell? ⟨B + 1 + 1, 0, none⟩ = some (.bool mc) ∧ W1.cell? ⟨B + 1 + 1, 1, none⟩ = some (.slice Ac lc.length cc) ∧ W1.cell? ⟨B + 1 + 1 + 1, 0, none⟩ = some (.bool md) ∧ W1.cell? ⟨B + 1 + 1 + 1, 1, none⟩ = some (.slice Ad ld.length cd) from
    fun W1 h => ⟨hW.trans h, h.cell p0, h.cell p1, h.cell q0, h.cell q1, h.cell s0, h.cell s1, h.cell t0, h.cell t1⟩)
  have HK3 : Hid (∀ W0 u0 u1, Ext W W0 → _) := Lib.hid (show ∀ W0 u0 u1, Ext W W0 → (fun W1 => Ext w W1 ∧ W1.cell? ⟨B, 0, none⟩ = some (.bool ma) ∧ W1.cell? ⟨B, 1, none⟩ = some (.slice Aa la.length ca) ∧ W1.cell? ⟨B + 1, 0, none⟩ = some (.bool mb) ∧ W1.cell? ⟨B + 1, 1, none⟩ = some (.slice Ab lb.length cb) ∧ W1.cell? ⟨B + 1 + 1, 0, none⟩ = some (.bool mc) ∧ W1.cell? ⟨B + 1 + 1, 1, none⟩ = some (.slice Ac lc.length cc) ∧ W1.cell? ⟨B + 1 + 1 + 1, 0, none⟩ = some (.bool md) ∧ W1.cell? ⟨B + 1 + 1 + 1, 1, none⟩ = some (.slice Ad ld.length cd)) ((W0.setCell ⟨B + 1 + 1 + 1 + 1, 0, none⟩ u0).setCell ⟨B + 1 + 1 + 1 + 1, 1, none⟩ u1) from
    fun W0 u0 u1 h => ⟨((hW.trans h).setCell (by have := HBw.out; simp; omega) _).setCell (by have := HBw.out; simp; omega) _, by simp [go_sem, h.cell p0], by simp [go_sem, h.cell p1], by simp [go_sem, h.cell q0], by simp [go_sem, h.cell q1], by simp [go_sem, h.cell s0], by simp [go_sem, h.cell s1], by simp [go_sem, h.cell t0], by simp [go_sem, h.cell t1]⟩)
  go_region_held3 (fun W1 => Ext w W1 ∧ W1.cell? ⟨B, 0, none⟩ = some (.bool ma) ∧ W1.cell? ⟨B, 1, none⟩ = some (.slice Aa la.length ca) ∧ W1.cell? ⟨B + 1, 0, none⟩ = some (.bool mb) ∧ W1.cell? ⟨B + 1, 1, none⟩ = some (.slice Ab lb.length cb) ∧ W1.cell? ⟨B + 1 + 1, 0, none⟩ = some (.bool mc) ∧ W1.cell? ⟨B + 1 + 1, 1, none⟩ = some (.slice Ac lc.length cc) ∧ W1.cell? ⟨B + 1 + 1 + 1, 0, none⟩ = some (.bool md) ∧ W1.cell? ⟨B + 1 + 1 + 1, 1, none⟩ = some (.slice Ad ld.length cd))
    (first | exact HK3.out _ _ _ hk3.out | exact HK.out _ (by first | exact Ext.refl _ | exact (Ext.refl _).drew | exact hk1.out | exact hk2.out | exact hk3.out))
    (first
      | (go_at_call 75; ((with_reducible refine (HMi.out _ _ _ (hn1.out.ext hx2.out) hn2.out).mono ?_); rintro e w' ⟨⟨v3, rfl, hn⟩, hx⟩; have hk3 := Lib.hid (hk2.out.trans hx); have hn3 := Lib.hid hn; obtain ⟨m5, A5, c5, l5, rfl, -⟩ := hn; have q0' := hk3.out.cell r0; have q1' := hk3.out.cell r1; have q2' := hk3.out.frozen r0 g0; have q3' := hk3.out.frozen r1 g1; clear hx))
      | (go_at_call 76; ((with_reducible refine (HT1.out _ (hW.trans (Ext.refl _).drew)).mono ?_); rintro e w' ⟨⟨v1, rfl, hn⟩, hx⟩; have hk1 := Lib.hid (Ext.trans ((Ext.refl W).drew) hx); have hn1 := Lib.hid hn; clear hn hx))
      | (go_at_call 76; ((with_reducible refine (HT2.out _ (hW.trans hk1.out)).mono ?_); rintro e w' ⟨⟨v2, rfl, hn⟩, hx⟩; have hk2 := Lib.hid (hk1.out.trans hx); have hx2 := Lib.hid hx; have hn2 := Lib.hid hn; clear hn hx)))
  have hfin := (HK3.out _ (.bool m5) (.slice A5 l5.length c5) hk3.out).1
  clear HK HK3 hk1 hk2 hn1 hn2 hx2 p0 p1 q0 q1 s0 s1 t0 t1 r0 r1 g0 g1 HT1 HT2 HMi
  go_wp2_with fail
  exact bodyPost_ret (v := .agg #[.bool m5, .slice A5 l5.length c5]) (by simp [results, Try.results45, go_sem, *]) rfl ⟨⟨_, rfl, hn3.out.box q0' q1' _ _⟩, hfin⟩
end Go.Proofs.Ytagofpmcbbkmgaa
