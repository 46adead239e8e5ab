/- parquetref01: Plus, of unlike signs. -/
import Derived.Test.YtagofpmcbbkmgaaR8
namespace Go.Proofs.Ytagofpmcbbkmgaa
open Go.RowKit Go.Sort

/-- one step of a difference -/
theorem sub_step (a b l : List Int) (k : Nat) (c d c' : Int) (hl : l.length = k) (h : val l - 65536 ^ k * c = val (a.take k) - val (b.take k)) (hd : at1 a k - at1 b k - c = d - 65536 * c') :
    val (l ++ [d]) - 65536 ^ (k + 1) * c' = val (a.take (k + 1)) - val (b.take (k + 1)) := by
  rw [val_take_succ, val_take_succ, val_append, hl]
  simp only [val, Int.mul_zero, Int.add_zero, Int.pow_succ]
  have h4 : (65536 : Int) ^ k * (at1 a k - at1 b k - c) = 65536 ^ k * at1 a k - 65536 ^ k * at1 b k - 65536 ^ k * c := by rw [Int.mul_sub, Int.mul_sub]
  have h5 : (65536 : Int) ^ k * (d - 65536 * c') = 65536 ^ k * d - 65536 ^ k * 65536 * c' := by rw [Int.mul_sub, Int.mul_assoc]
  rw [hd, h5] at h4
  omega
theorem sub_end {a b l : List Int} {c : Int} (hd : Dig l) (ha : Dig a) (hb : Dig b) (cb : canon b) (hl : l.length = a.length) (h : val l - 65536 ^ l.length * c = val (a.take l.length) - val (b.take l.length)) (hc0 : 0 ≤ c) (hc1 : c ≤ 1) (hab : val b ≤ val a) : val l = val a - val b := by
  have hlb : b.length ≤ a.length := by
    by_cases hh : b.length ≤ a.length
    · exact hh
    · have := val_shorter ha hb cb (by omega); omega
  rw [hl, List.take_length, List.take_of_length_le hlb] at h
  have h1 := val_lt l hd
  rw [hl] at h1
  have : c = 0 ∨ c = 1 := by omega
  rcases this with rfl | rfl
  · simp at h; exact h
  · rw [Int.mul_one] at h; omega

set_option maxHeartbeats 4000000 in
set_option maxRecDepth 100000 in
theorem PlusD_any (m : Bool) (A B : Option Addr) (ca cb : Nat) (a b : List Int) (K : Nat) (w : World) (hK : K ≤ 1000) (hA : Rd1 w A a) (hB : Rd1 w B b) (da : Dig a) (db : Dig b) (na : canon a) (nb : canon b) (la : a.length ≤ K) (lb : b.length ≤ K) :
    Calls Try.prog 22 #[.agg #[.bool m, .slice A a.length ca], .agg #[.bool (!m), .slice B b.length cb]] w fun e w' => (∃ v', e = .returned v' ∧ NumR w' v' (if m then val b - val a else val a - val b) (K + 1)) ∧ Ext w w' := by
  generalize hz : (if m then val b - val a else val a - val b) = z
  have HZ := Lib.hid hz
  clear hz
  have HT := Lib.hid (fun mx A' c l W (hl : l.length ≤ K) hc hR hD (hv : (if mx then -val l else val l) = z) => (trim_any mx A' c l (K + 1) W (by omega) (Nat.le_succ_of_le hl) hc hR hD).mono (R' := fun e w' => (∃ v', e = .returned v' ∧ NumR w' v' z (K + 1)) ∧ Ext W w') fun e w' h => by
    rw [hv] at h
    exact h)
  have HSz := Lib.hid (fun W h1 h2 => size_any' A B ca cb a b W (by omega) (by omega) h1 h2 da db na nb)
  have HDa := Lib.hid (show Dig a ∧ Dig b ∧ canon a ∧ canon b from ⟨da, db, na, nb⟩)
  clear da db na nb
  have HRA := Lib.hid hA
  have HRB := Lib.hid hB
  clear hA hB
  have hmm : (m == !m) = false := by cases m <;> rfl
  go_enter Try.func22, Try.ntmps22
  go_upto_region 13 with fail
  generalize hB0 : w.heap.size = B0
  refine wp_world (fun W1 => (Ext w W1 ∧ w.heap.size ≤ B0 ∧ B0 + 4 < W1.heap.size) ∧ (W1.cell? ⟨B0, 0, none⟩ = some (.bool m) ∧ W1.cell? ⟨B0, 1, none⟩ = some (.slice A a.length ca)) ∧ (W1.cell? ⟨B0 + 1, 0, none⟩ = some (.bool !m) ∧ W1.cell? ⟨B0 + 1, 1, none⟩ = some (.slice B b.length cb)) ∧ (W1.cell? ⟨B0 + 2, 0, none⟩ = some (.bool false) ∧ W1.cell? ⟨B0 + 2, 1, none⟩ = some (.slice none 0 0)) ∧ (W1.cell? ⟨B0 + 3, 0, none⟩ = some (.bool m) ∧ W1.cell? ⟨B0 + 3, 1, none⟩ = some (.slice A a.length ca)) ∧ (W1.cell? ⟨B0 + 4, 0, none⟩ = some (.bool !m) ∧ W1.cell? ⟨B0 + 4, 1, none⟩ = some (.slice B b.length cb)) ∧ (W1.frozen? ⟨B0 + 2, 0, none⟩ = false ∧ W1.frozen? ⟨B0 + 2, 1, none⟩ = false) ∧ (W1.frozen? ⟨B0 + 3, 0, none⟩ = false ∧ W1.frozen? ⟨B0 + 3, 1, none⟩ = false) ∧ (W1.frozen? ⟨B0 + 4, 0, none⟩ = false ∧ W1.frozen? ⟨B0 + 4, 1, none⟩ = false))
    ⟨⟨(((((Ext.refl w).alloc _).alloc _).alloc _).alloc _).alloc _, by omega, by subst hB0; simp⟩, ⟨by subst hB0; simp [go_sem], by subst hB0; simp [go_sem]⟩, ⟨by subst hB0; simp [go_sem], by subst hB0; simp [go_sem]⟩, ⟨by subst hB0; simp [go_sem], by subst hB0; simp [go_sem]⟩, ⟨by subst hB0; simp [go_sem], by subst hB0; simp [go_sem]⟩, ⟨by subst hB0; simp [go_sem], by subst hB0; simp [go_sem]⟩, ⟨by subst hB0; simp [go_sem], by subst hB0; simp [go_sem]⟩, ⟨by subst hB0; simp [go_sem], by subst hB0; simp [go_sem]⟩, ⟨by subst hB0; simp [go_sem], by subst hB0; simp [go_sem]⟩⟩ ?_
  clear hB0
  rintro WB ⟨⟨hW, hB0, hB1⟩, ⟨p0, p1⟩, ⟨q0, q1⟩, ⟨r0, r1⟩, ⟨s0, s1⟩, ⟨t0, t1⟩, ⟨g0, g1⟩, ⟨i0, i1⟩, j0, j1⟩
  go_wp2_with fail
  refine (HSz.out _ (HRA.out.ext hW) (HRB.out.ext hW)).mono ?_
  rintro e W1 ⟨⟨sz, rfl, hsz⟩, hx⟩
  have HS := Lib.hid hsz
  clear hsz HSz
  replace hB1 := Nat.lt_of_lt_of_le hB1 hx.size
  replace hW := hW.trans hx
  replace p0 := hx.cell p0
  replace p1 := hx.cell p1
  replace q0 := hx.cell q0
  replace q1 := hx.cell q1
  replace g0 := hx.frozen r0 g0
  replace g1 := hx.frozen r1 g1
  replace i0 := hx.frozen s0 i0
  replace i1 := hx.frozen s1 i1
  replace j0 := hx.frozen t0 j0
  replace j1 := hx.frozen t1 j1
  replace r0 := hx.cell r0
  replace r1 := hx.cell r1
  replace s0 := hx.cell s0
  replace s1 := hx.cell s1
  replace t0 := hx.cell t0
  replace t1 := hx.cell t1
  clear hx
  rcases Classical.em (sz < 0) with hs | hs
  all_goals
    have HV := Lib.hid (HS.out)
    have HN := Lib.hid hs
    obtain ⟨D, f1, HD0⟩ : ∃ D, decide (sz < 0) = D ∧ Hid (D = true ↔ sz < 0) := ⟨_, rfl, Lib.hid (by simp)⟩
    first
      | (have hD : D = true := HD0.out.2 hs
         subst hD
         clear HD0
         go_upto_region 16 with fail
         refine wp_world (fun W1 => ∃ (mx my : Bool) (X Y : Option Addr) (cx cy : Nat) (xs ys : List Int), Hid ((if mx then -(val xs - val ys) else val xs - val ys) = z ∧ val ys ≤ val xs ∧ Dig xs ∧ Dig ys ∧ canon ys) ∧ Hid (Rd1 w X xs ∧ Rd1 w Y ys) ∧ (xs.length ≤ K ∧ ys.length ≤ K) ∧ (Ext w W1 ∧ B0 + 4 < W1.heap.size) ∧ (W1.cell? ⟨B0 + 2, 0, none⟩ = some (.bool false) ∧ W1.cell? ⟨B0 + 2, 1, none⟩ = some (.slice none 0 0)) ∧ (W1.cell? ⟨B0 + 3, 0, none⟩ = some (.bool mx) ∧ W1.cell? ⟨B0 + 3, 1, none⟩ = some (.slice X xs.length cx)) ∧ (W1.cell? ⟨B0 + 4, 0, none⟩ = some (.bool my) ∧ W1.cell? ⟨B0 + 4, 1, none⟩ = some (.slice Y ys.length cy)) ∧ (W1.frozen? ⟨B0 + 2, 0, none⟩ = false ∧ W1.frozen? ⟨B0 + 2, 1, none⟩ = false))
           ⟨!m, m, B, A, cb, ca, b, a, Lib.hid ⟨by rw [← HZ.out]; cases m <;> simp <;> omega, by have := HV.out.1 HN.out; omega, HDa.out.2.1, HDa.out.1, HDa.out.2.2.1⟩, Lib.hid ⟨HRB.out, HRA.out⟩, ⟨lb, la⟩, ⟨(((hW.setCell (by simp; omega) _).setCell (by simp; omega) _).setCell (by simp; omega) _).setCell (by simp; omega) _, by simpa using hB1⟩, ⟨by simp [go_sem, r0], by simp [go_sem, r1]⟩, ⟨by simp [go_sem, s0], by simp [go_sem, s1]⟩, ⟨by simp [go_sem, t0], by simp [go_sem, t1]⟩, by simpa [go_sem] using g0, by simpa [go_sem] using g1⟩ ?_)
      | (have hD : D = false := by cases D; rfl; exact absurd (HD0.out.1 rfl) hs
         subst hD
         clear HD0
         go_upto_region 16 with fail
         refine wp_world (fun W1 => ∃ (mx my : Bool) (X Y : Option Addr) (cx cy : Nat) (xs ys : List Int), Hid ((if mx then -(val xs - val ys) else val xs - val ys) = z ∧ val ys ≤ val xs ∧ Dig xs ∧ Dig ys ∧ canon ys) ∧ Hid (Rd1 w X xs ∧ Rd1 w Y ys) ∧ (xs.length ≤ K ∧ ys.length ≤ K) ∧ (Ext w W1 ∧ B0 + 4 < W1.heap.size) ∧ (W1.cell? ⟨B0 + 2, 0, none⟩ = some (.bool false) ∧ W1.cell? ⟨B0 + 2, 1, none⟩ = some (.slice none 0 0)) ∧ (W1.cell? ⟨B0 + 3, 0, none⟩ = some (.bool mx) ∧ W1.cell? ⟨B0 + 3, 1, none⟩ = some (.slice X xs.length cx)) ∧ (W1.cell? ⟨B0 + 4, 0, none⟩ = some (.bool my) ∧ W1.cell? ⟨B0 + 4, 1, none⟩ = some (.slice Y ys.length cy)) ∧ (W1.frozen? ⟨B0 + 2, 0, none⟩ = false ∧ W1.frozen? ⟨B0 + 2, 1, none⟩ = false))
           ⟨m, !m, A, B, ca, cb, a, b, Lib.hid ⟨by rw [← HZ.out]; cases m <;> simp <;> omega, Int.not_lt.1 fun h => by have := HV.out.2 h; have := HN.out; omega, HDa.out.1, HDa.out.2.1, HDa.out.2.2.2⟩, Lib.hid ⟨HRA.out, HRB.out⟩, ⟨la, lb⟩, ⟨hW, hB1⟩, ⟨r0, r1⟩, ⟨s0, s1⟩, ⟨t0, t1⟩, g0, g1⟩ ?_)
    clear p0 p1 q0 q1 g0 g1 i0 i1 j0 j1 r0 r1 s0 s1 t0 t1 HS HV HN f1 hB1 hW HZ HDa HRA HRB la lb
    rintro WB ⟨mx, my, X, Y, cx, cy, xs, ys, HF, HXY, ⟨lx, ly⟩, ⟨hW, hB1⟩, ⟨r0, r1⟩, ⟨s0, s1⟩, ⟨t0, t1⟩, g0, g1⟩
    go_wp2_with fail
    go_loopw [5, 6, 11, 12] (fun v cv iv _ wx => ∃ (A' : Option Addr) (c' : Nat) (l : List Int) (c : Int), v = .slice A' l.length c' ∧ cv = .int .i64 c ∧ iv = .int .i64 l.length ∧ (0 ≤ c ∧ c ≤ 1) ∧ l.length ≤ xs.length ∧ Hid (val l - 65536 ^ l.length * c = val (xs.take l.length) - val (ys.take l.length)) ∧ Hid (Dig l) ∧ Hid (wx.ownsRow WB.heap.size 3 1 (.slice A' l.length c') l.length (l.map (Value.int .i64))) ∧ Ext WB wx) (fun _ _ i _ _ => xs.length - (intOf i).toNat)
    case atStart => exact ⟨none, 0, [], 0, rfl, rfl, rfl, by decide, Nat.zero_le _, (by simp [val] : val [] - 65536 ^ ([] : List Int).length * 0 = val (xs.take 0) - val (ys.take 0)), (fun x h => by cases h), World.ownsRow_nil _ _ _ _, Ext.refl _⟩
    case round =>
      obtain ⟨A', c', l, c, rfl, rfl, rfl, ⟨hc0, hc1⟩, hlm, HV, HD, HOw, hx⟩ := hrel
      replace s0 := hx.cell s0
      replace s1 := hx.cell s1
      replace t0 := hx.cell t0
      replace t1 := hx.cell t1
      by_cases hgo : l.length < xs.length
      · have hlt1 : (l.length : Int) < (xs.length : Int) := by omega
        obtain ⟨b1, o1, rfl, hcs⟩ := (HXY.out.1.ext (hW.trans hx)).open_ (by omega)
        have X4 := Lib.hid (hcs l.length hgo)
        have x4 := cell_ext X4.out
        clear hcs
        have ha1 := dig_at1 HF.out.2.2.1 l.length
        have hb1 := dig_at1 HF.out.2.2.2.1 l.length
        have HS := Lib.hid (fun d c'' h => sub_step xs ys l l.length c d c'' rfl HV.out h)
        have HDg := Lib.hid (fun W h => digit_any Y cy ys l.length W (by omega) h)
        have HRY := Lib.hid (fun W (h : Ext wr W) => HXY.out.2.ext ((hW.trans hx).trans h))
        clear X4
        generalize at1 xs l.length = xa at *
        generalize at1 ys l.length = xb at *
        have e1 : IntKind.i64.wrap (xa - xb) = xa - xb := IntWalk.i64_in _ (by omega)
        have e2 : IntKind.i64.wrap (xa - xb - c) = xa - xb - c := IntWalk.i64_in _ (by omega)
        have x0 := cell_ext s0
        have x1 := cell_ext s1
        have x2 := cell_ext t0
        have x3 := cell_ext t1
        go_wp2_with fail
        refine wp_region_ext (by kernel_rfl) (by kernel_rfl) ?_
        repeat (go_big_quiet_step (((go_at_call 47; with_reducible exact ext_call1 (HDg.out _ (HRY.out _ (ext_extW _ _ _)))))))
        refine wpQuiet_nil ?_
        intro W1 hW1_
        have hW1 := ext_of hW1_
        clear hW1_
        clear x0 x1 x2 x3 x4 HDg HRY s0 s1 t0 t1
        replace hx := hx.trans hW1
        replace HOw := Lib.hid (own_ext HOw.out hW1)
        clear hW1 e1 e2
        obtain ⟨x, hxe⟩ : ∃ x, x = xa - xb - c := ⟨_, rfl⟩
        rw [← hxe]
        have hxl : -65536 ≤ x ∧ x ≤ 65535 := by omega
        obtain ⟨d, c2, hd0, hd1, hc20, hc21, HXD, hneg⟩ : ∃ d c2 : Int, 0 ≤ d ∧ d ≤ 65535 ∧ 0 ≤ c2 ∧ c2 ≤ 1 ∧ Hid (xa - xb - c = d - 65536 * c2) ∧ ((x < 0 ∧ Hid (d = x + 65536 ∧ c2 = 1)) ∨ (¬ x < 0 ∧ Hid (d = x ∧ c2 = 0))) := by
          by_cases h : x < 0
          · exact ⟨x + 65536, 1, by omega, by omega, by omega, by omega, Lib.hid (by omega), Or.inl ⟨h, Lib.hid ⟨rfl, rfl⟩⟩⟩
          · exact ⟨x, 0, by omega, by omega, by omega, by omega, Lib.hid (by omega), Or.inr ⟨h, Lib.hid ⟨rfl, rfl⟩⟩⟩
        have HVS := Lib.hid (HS.out d c2 HXD.out)
        have HDS := Lib.hid (show Dig (l ++ [d]) from fun z hz => by
          rcases List.mem_append.1 hz with h | h
          · exact HD.out z h
          · rw [List.mem_singleton.1 h]; omega)
        clear hxe HS HXD ha1 hb1
        have hx5 := hx.alloc (Obj.cells #[Value.int IntKind.i64 d] 3)
        obtain ⟨A5, c5, w5, hr5, ho5, hg5⟩ := append_run 24 Try.underlying24 infoInt rfl (by omega) (own_ext HOw.out ((Ext.refl W1).alloc (Obj.cells #[Value.int IntKind.i64 d] 3))) hx5.size ⟨W1.heap.size, 0, none⟩ 1 1 [.int .i64 d] rfl (by
          intro j u hu
          match j, hu with
          | 0, hu => simp at hu; subst hu; simp [go_sem]
          | n + 1, hu => simp at hu) (by intro u hu; simp at hu; subst hu; rfl) (by omega) (by omega)
        have hlt5 := (own_ext HOw.out ((Ext.refl W1).alloc (Obj.cells #[Value.int IntKind.i64 d] 3))).lt
        have HO5 := Lib.hid ho5
        have HG5 := Lib.hid (hx5.grown hg5 (fun r hr => (hlt5 r hr).1))
        clear ho5 hg5 hlt5 hx5
        rcases hneg with ⟨hneg, HE⟩ | ⟨hneg, HE⟩
        all_goals
          obtain ⟨rfl, rfl⟩ := HE.out
          clear HE
          go_wp2_with (at_builtin; refine wpList_append_eq rfl _ _ _ _ rfl rfl rfl hr5 ?_)
          go_roundw
          case rel => exact ⟨A5, c5, l ++ [_], _, by simp, rfl, by simp, ⟨hc20, hc21⟩, by simp; omega, by rw [List.length_append]; exact HVS, HDS, by rw [List.map_append, List.length_append]; exact HO5, HG5.out⟩
          case measure => simp [intOf]; omega
      · have hlen : l.length = xs.length := by omega
        have HLen := Lib.hid hlen
        have hge : ¬ (l.length : Int) < (xs.length : Int) := by omega
        have hv : (if mx = true then -val l else val l) = z := by
          rw [sub_end HD.out HF.out.2.2.1 HF.out.2.2.2.1 HF.out.2.2.2.2 hlen HV.out hc0 hc1 HF.out.2.1]
          exact HF.out.1
        have hlc := own_cap1 HOw.out
        have HC := Lib.hid (fun W h => HT.out mx A' c' l W (by omega) hlc h HD.out hv)
        have HR := Lib.hid (own_rd1 HOw.out)
        clear hv HT HV HD HOw HF HXY hlen hgo
        go_wp2_with fail
        refine (HC.out _ HR.out).mono ?_
        rintro e W5 ⟨⟨v', rfl, hn⟩, hx5⟩
        have HNm := Lib.hid hn
        obtain ⟨m', A6, c6, l', rfl, hrest⟩ := hn
        clear hrest
        replace hx := hx.trans hx5
        have q0' := hx.cell r0
        have q1' := hx.cell r1
        have q2 := hx.frozen r0 g0
        have q3 := hx.frozen r1 g1
        clear hx5 HC HR r0 r1 g0 g1 s0 s1 t0 t1 HLen
        go_wp2_with fail
        have hfin : Ext w ((W5.setCell ⟨B0 + 1 + 1, 0, none⟩ (.bool m')).setCell ⟨B0 + 1 + 1, 1, none⟩ (.slice A6 l'.length c6)) := ((hW.trans hx).setCell (by simp; omega) _).setCell (by simp; omega) _
        exact bodyPost_ret (v := .agg #[.bool m', .slice A6 l'.length c6]) (by simp [results, Try.results22, go_sem, *]) rfl ⟨⟨_, rfl, HNm.out.box q0' q1' _ _⟩, hfin⟩
end Go.Proofs.Ytagofpmcbbkmgaa
