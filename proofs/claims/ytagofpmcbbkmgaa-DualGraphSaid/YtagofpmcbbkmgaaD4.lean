/- parquetref12: Check, walked. -/
import Derived.Test.YtagofpmcbbkmgaaD3
namespace Go.Proofs.Ytagofpmcbbkmgaa
open Go.RowKit Go.Sort

theorem triV_eq (R : Option (Int × Int × Int)) : triV R = .tuple #[.agg #[.int .i64 (R.getD (0, 0, 0)).1, .int .i64 (R.getD (0, 0, 0)).2.1, .int .i64 (R.getD (0, 0, 0)).2.2], .bool R.isSome] := by cases R <;> rfl
theorem ext_call_q {P : Program} {f : FuncId} {args : Array Value} {w : World} {n : Nat} {os : Array Obj} {v : Value}
    (h : Calls P f args (extW w n os) fun e w' => e = .returned v ∧ Ext (extW w n os) w') : Calls P f args (extW w n os) fun e w'' => e = .returned v ∧ ∃ p : ExtBy, w'' = extW w p.n p.os := ext_call h

set_option maxHeartbeats 6000000 in
set_option maxRecDepth 100000 in
theorem Check12_any (AP AT AS : Option Addr) (cp ct cs : Nat) (ps : List (Int × Int)) (ts : List (Int × Int × Int)) (ss : List (Int × Int)) (w : World) (hM : Mesh w AP AT AS ps ts ss) :
    Calls Try.prog 17 #[.agg #[.slice AP ps.length cp, .slice AT ts.length ct, .slice AS ss.length cs]] w fun e w' => e = .returned (.int .i64 (chkI ps ts ss)) ∧ Ext w w' := by
  have lp := hM.2.2.2.1
  have lt := hM.2.2.2.2.1
  have ls := hM.2.2.2.2.2
  have HMP := Lib.hid (fun W (h : Ext w W) => (hM.ext h).1)
  have HMT := Lib.hid (fun W (h : Ext w W) => (hM.ext h).2.1)
  have HMS := Lib.hid (fun W (h : Ext w W) => (hM.ext h).2.2.1)
  clear hM
  have HBad := Lib.hid (fun h => chk12_bad (ps := ps) (ts := ts) (ss := ss) h)
  have HGood := Lib.hid (fun h1 h2 h3 => chk12_to (ps := ps) (ts := ts) (ss := ss) h1 h2 h3)
  generalize chkI ps ts ss = R at *
  go_enter Try.func17, Try.ntmps17
  go_upto_region 1 with fail
  obtain ⟨B0, hB0⟩ : ∃ B0, B0 = w.heap.size := ⟨_, rfl⟩
  rw [← hB0]
  refine wp_world (fun wx => Ext w wx ∧ wx.cell? ⟨B0, 0, none⟩ = some (.slice AP ps.length cp) ∧ wx.cell? ⟨B0, 1, none⟩ = some (.slice AT ts.length ct) ∧ wx.cell? ⟨B0, 2, none⟩ = some (.slice AS ss.length cs))
    ⟨(Ext.refl w).alloc _, by subst hB0; simp [go_sem], by subst hB0; simp [go_sem], by subst hB0; simp [go_sem]⟩ ?_
  rintro WB ⟨hW, m0, m1, m2⟩
  have HBw := Lib.hid hB0
  clear hB0
  go_wp2_with fail
  go_loopw [3, 4, 5, 6, 7] (fun iv _ _ _ _ wx => ∃ i : Nat, i ≤ ts.length ∧ iv = .int .i64 i ∧ Hid (∀ j, j < i → okT ps ts j = true ∧ ∀ s ∈ edgesT (at3 ts j), sideOK ts ss j s) ∧ Ext w wx ∧ wx.cell? ⟨B0, 0, none⟩ = some (.slice AP ps.length cp) ∧ wx.cell? ⟨B0, 1, none⟩ = some (.slice AT ts.length ct) ∧ wx.cell? ⟨B0, 2, none⟩ = some (.slice AS ss.length cs)) (fun iv _ _ _ _ _ => ts.length - (intOf iv).toNat)
  case atStart => exact ⟨0, Nat.zero_le _, rfl, Lib.hid (fun j h => absurd h (Nat.not_lt_zero _)), hW, m0, m1, m2⟩
  case round =>
    clear m0 m1 m2 hW
    obtain ⟨i, hi, rfl, HT, hW, m0, m1, m2⟩ := hrel
    by_cases hlt : i < ts.length
    · have hlt1 : (i : Int) < (ts.length : Int) := by omega
      obtain ⟨b, o, rfl, hc⟩ := (HMT.out _ hW).open_ (by omega)
      have HC := Lib.hid hc
      clear hc
      obtain ⟨c0, c1, c2⟩ := HC.out i hlt
      generalize ht : at3 ts i = t at c0 c1 c2
      obtain ⟨ta, tb, tc⟩ := t
      simp only at c0 c1 c2
      have HTt := Lib.hid ht
      clear ht
      have HTri : Hid (∀ W, Rd2 W AP ps → _) := Lib.hid (fun W h => Tri12_any AP cp ps ta tb tc W lp h)
      have hok := okT_cases ps ts i (ta, tb, tc) _ _ HTt.out rfl rfl
      simp only at hok
      generalize triP ps ta tb tc = Rt at *
      rw [triV_eq] at HTri
      generalize Rt.getD (0, 0, 0) = u at *
      generalize Rt.isSome = okv at *
      obtain ⟨ua, ub, uc⟩ := u
      have HOK := Lib.hid hok
      clear hok
      obtain ⟨W, rfl⟩ : ∃ W, W = wr := ⟨_, rfl⟩
      have HK : Hid (∀ wx, Ext W wx → _) := Lib.hid (show ∀ wx, Ext W wx → Ext W wx ∧ wx.cell? ⟨B0, 0, none⟩ = some (.slice AP ps.length cp) ∧ wx.cell? ⟨B0, 1, none⟩ = some (.slice (some ⟨b, o, none⟩) ts.length ct) ∧ wx.cell? ⟨B0, 2, none⟩ = some (.slice AS ss.length cs) ∧ wx.cell? ⟨b, o + i * 3, none⟩ = some (.int .i64 ta) ∧ wx.cell? ⟨b, o + i * 3 + 1, none⟩ = some (.int .i64 tb) ∧ wx.cell? ⟨b, o + i * 3 + 2, none⟩ = some (.int .i64 tc) from
        fun wx h => ⟨h, h.cell m0, h.cell m1, h.cell m2, h.cell c0, h.cell c1, h.cell c2⟩)
      go_wp2_with fail
      go_cut [4, 5] (fun x4 x5 wx => ∃ B4, x4 = .pointer (some ⟨B4, 0, none⟩) ∧ x5 = .bool okv ∧ Ext W wx ∧ wx.cell? ⟨B4, 0, none⟩ = some (.int .i64 ua) ∧ wx.cell? ⟨B4, 1, none⟩ = some (.int .i64 ub) ∧ wx.cell? ⟨B4, 2, none⟩ = some (.int .i64 uc))
      case first =>
        go_region_held3 (fun wx => Ext W wx ∧ wx.cell? ⟨B0, 0, none⟩ = some (.slice AP ps.length cp) ∧ wx.cell? ⟨B0, 1, none⟩ = some (.slice (some ⟨b, o, none⟩) ts.length ct) ∧ wx.cell? ⟨B0, 2, none⟩ = some (.slice AS ss.length cs) ∧ wx.cell? ⟨b, o + i * 3, none⟩ = some (.int .i64 ta) ∧ wx.cell? ⟨b, o + i * 3 + 1, none⟩ = some (.int .i64 tb) ∧ wx.cell? ⟨b, o + i * 3 + 2, none⟩ = some (.int .i64 tc))
          (exact HK.out _ (by repeat (first | exact hk.out | exact (Ext.refl W).drew | exact ((Ext.refl W).alloc _).drew | exact Ext.refl W | refine Ext.alloc ?_ _ | refine Ext.setCell ?_ (by first | exact Nat.le_refl _ | omega | (simp; done) | (simp; omega)) _)))
          (first
            | (go_at_call 39; ((with_reducible refine (HTri.out _ (HMP.out _ (hW.trans (by first | exact (Ext.refl W).drew | exact ((Ext.refl W).drew.alloc _) | exact ((Ext.refl W).alloc _).drew)))).mono ?_); rintro e w' ⟨rfl, hx⟩; have hk := Lib.hid (show Ext W w' from by first | exact (Ext.refl W).drew.trans hx | exact ((Ext.refl W).drew.alloc _).trans hx | exact ((Ext.refl W).alloc _).drew.trans hx); have hsz := hk.out.size; (first | (have y0 := hx.frozen (cell_new _ (c := #[.int .i64 0, .int .i64 0, .int .i64 0]) (i := 0) rfl) (by simp [go_sem]); have y1 := hx.frozen (cell_new _ (c := #[.int .i64 0, .int .i64 0, .int .i64 0]) (i := 1) rfl) (by simp [go_sem]); have y2 := hx.frozen (cell_new _ (c := #[.int .i64 0, .int .i64 0, .int .i64 0]) (i := 2) rfl) (by simp [go_sem]); have z0 := hx.cell (cell_new _ (c := #[.int .i64 0, .int .i64 0, .int .i64 0]) (i := 0) rfl); have z1 := hx.cell (cell_new _ (c := #[.int .i64 0, .int .i64 0, .int .i64 0]) (i := 1) rfl); have z2 := hx.cell (cell_new _ (c := #[.int .i64 0, .int .i64 0, .int .i64 0]) (i := 2) rfl)) | skip); clear hx)))
        all_goals (go_wp2_with fail)
        all_goals go_meet
        · exact ⟨_, rfl, rfl, hk.out.alloc _, by simp [go_sem], by simp [go_sem], by simp [go_sem]⟩
        · exact ⟨_, rfl, rfl, ((hk.out.setCell (Nat.le_refl _) _).setCell (Nat.le_refl _) _).setCell (Nat.le_refl _) _, by simp [go_sem, z0, z1, z2], by simp [go_sem, z0, z1, z2], by simp [go_sem, z0, z1, z2]⟩
      case rest =>
        obtain ⟨B4, rfl, rfl, hx, v0, v1, v2⟩ := hcut
        replace hW := hW.trans hx
        replace m0 := hx.cell m0
        replace m1 := hx.cell m1
        replace m2 := hx.cell m2
        replace c0 := hx.cell c0
        replace c1 := hx.cell c1
        replace c2 := hx.cell c2
        have hWx := hx
        clear HK HTri hx
        have hne := neqTri_op ua ub uc ta tb tc
        obtain ⟨W4, rfl⟩ : ∃ W4, W4 = wc := ⟨_, rfl⟩
        go_upto_region 5 with fail
        go_cut [66] (fun c wx => c = .bool (!okT ps ts i) ∧ Ext W4 wx)
        case first =>
          have x0 := cell_ext c0
          have x1 := cell_ext c1
          have x2 := cell_ext c2
          have y0 := cell_ext v0
          have y1 := cell_ext v1
          have y2 := cell_ext v2
          have n1 := cell_ext m1
          cases okv
          · refine wp_region_ext (by kernel_rfl) (by kernel_rfl) ?_
            repeat (go_big_quiet_step ((fail)))
            refine wpQuiet_nil ?_
            intro W2 hW2_
            have hW2 := ext_of hW2_
            clear hW2_
            go_wp2_with fail
            go_meet
            exact ⟨by rw [HOK.out]; rfl, hW2⟩
          · by_cases hu : (ua, ub, uc) = (ta, tb, tc)
            · simp only [Prod.mk.injEq] at hu
              obtain ⟨rfl, rfl, rfl⟩ := hu
              have hne' : ∀ W, Sem.run Try.prog (binOp .neq 36 (.agg #[.int .i64 ua, .int .i64 ub, .int .i64 uc]) (.agg #[.int .i64 ua, .int .i64 ub, .int .i64 uc])) W = .ok (.bool false) W := fun W => by rw [hne]; simp
              clear hne
              by_cases hk0 : i = 0
              · have hd1 : decide (0 < i) = false := by simp; omega
                have hd2 : decide ((0 : Int) < (i : Int)) = false := by simp; omega
                have HK1 := Lib.hid (show (i == 0) = true by simp [hk0])
                clear hk0
                refine wp_region_ext (by kernel_rfl) (by kernel_rfl) ?_
                repeat (go_big_quiet_step ((fail)))
                refine wpQuiet_nil ?_
                intro W2 hW2_
                have hW2 := ext_of hW2_
                clear hW2_
                go_wp2_with fail
                go_meet
                exact ⟨by rw [HOK.out]; simp [HK1.out], hW2⟩
              · have hd1 : decide (0 < i) = true := by simp; omega
                have hd2 : decide ((0 : Int) < (i : Int)) = true := by simp; omega
                have HK1 := Lib.hid (show (i == 0) = false by simp [hk0])
                obtain ⟨p0, p1, p2⟩ := HC.out (i - 1) (by omega)
                have HBB := Lib.hid (show decide (byTriI (at3 ts (i - 1)) (ua, ub, uc) < 0) = beforeB (at3 ts (i - 1)) (ua, ub, uc) from rfl)
                generalize at3 ts (i - 1) = pt at *
                obtain ⟨pa, pb, pc⟩ := pt
                simp only at p0 p1 p2
                have z0 := cell_ext (hWx.cell p0)
                have z1 := cell_ext (hWx.cell p1)
                have z2 := cell_ext (hWx.cell p2)
                have HBT := Lib.hid (fun W => before12_any pa pb pc ua ub uc W)
                generalize beforeB (pa, pb, pc) (ua, ub, uc) = bb at *
                have e1 : IntKind.i64.wrap ((i : Int) - 1) = (i : Int) - 1 := IntWalk.i64_in _ (by omega)
                have e2 : ((i : Int) - 1).toNat = i - 1 := by omega
                have e3 : 0 ≤ (i : Int) - 1 := by omega
                have e4 : (i : Int) - 1 < (ts.length : Int) := by omega
                refine wp_region_ext (by kernel_rfl) (by kernel_rfl) ?_
                repeat (go_big_quiet_step (((go_at_call 36; exact ext_call (HBT.out _)))))
                refine wpQuiet_nil ?_
                intro W2 hW2_
                have hW2 := ext_of hW2_
                clear hW2_
                go_wp2_with fail
                go_meet
                exact ⟨by rw [HOK.out, HBB.out]; simp [HK1.out], hW2⟩
            · have hu' : decide ((ua, ub, uc) = (ta, tb, tc)) = false := by simpa using hu
              rw [hu'] at hne
              refine wp_region_ext (by kernel_rfl) (by kernel_rfl) ?_
              repeat (go_big_quiet_step ((fail)))
              refine wpQuiet_nil ?_
              intro W2 hW2_
              have hW2 := ext_of hW2_
              clear hW2_
              go_wp2_with fail
              go_meet
              exact ⟨by rw [HOK.out, hu']; rfl, hW2⟩
        case rest =>
          obtain ⟨rfl, hx⟩ := hcut
          replace hW := hW.trans hx
          replace m0 := hx.cell m0
          replace m1 := hx.cell m1
          replace m2 := hx.cell m2
          replace v0 := hx.cell v0
          replace v1 := hx.cell v1
          replace v2 := hx.cell v2
          clear hx hWx hne c0 c1 c2
          have HTt2 := HTt
          cases hgd : okT ps ts i
          · have HB := Lib.hid (HBad.out (fun h => by have := h.1 i hlt; rw [hgd] at this; cases this))
            clear hgd
            go_wp2_with fail
            go_ret
            exact ⟨ret_i64 HB.out.symm, hW⟩
          · have hu : (ua, ub, uc) = (ta, tb, tc) := by
              have h1 := HOK.out
              rw [hgd] at h1
              have h2 := h1.symm
              simp only [Bool.and_eq_true] at h2
              exact of_decide_eq_true h2.1.2
            have HGD := Lib.hid hgd
            simp only [Prod.mk.injEq] at hu
            obtain ⟨rfl, rfl, rfl⟩ := hu
            clear hgd HOK HTt2
            have HSd := Lib.hid (fun W => Sides12_any ua ub uc W)
            go_wp2_with fail
            refine (HSd.out _).mono ?_
            rintro e W6 ⟨⟨B6, rfl, hrd⟩, hx⟩
            have HE := Lib.hid (show Rd2 W6 (some ⟨B6, 0, none⟩) (edgesT (ua, ub, uc)) from hrd)
            replace hW := hW.trans hx
            replace m0 := hx.cell m0
            replace m1 := hx.cell m1
            replace m2 := hx.cell m2
            clear hrd hx HSd v0 v1 v2
            go_wp2_with fail
            go_loopw [7] (fun kv wx => ∃ k : Nat, k ≤ 3 ∧ kv = .int .i64 k ∧ Hid (∀ j, j < k → sideOK ts ss i (at2 (edgesT (ua, ub, uc)) j)) ∧ Ext W6 wx) (fun kv _ => 3 - (intOf kv).toNat)
            case atStart => exact ⟨0, by omega, rfl, Lib.hid (fun j h => absurd h (Nat.not_lt_zero _)), Ext.refl _⟩
            case round =>
              obtain ⟨k, hk, rfl, HKs, hx⟩ := hrel
              replace m0 := hx.cell m0
              replace m1 := hx.cell m1
              replace m2 := hx.cell m2
              by_cases hk3 : k < 3
              · have hk31 : (k : Int) < 3 := by omega
                obtain ⟨b2, o2, he2, hcs⟩ := (HE.out.ext hx).open_ (by simp [edgesT])
                simp only [Option.some.injEq, Addr.mk.injEq, and_true] at he2
                obtain ⟨rfl, rfl⟩ := he2
                obtain ⟨d0, d1⟩ := hcs k (by simp [edgesT]; omega)
                rw [Nat.zero_add] at d0 d1
                clear hcs
                have HEd := Lib.hid (show at2 (edgesT (ua, ub, uc)) k ∈ edgesT (at3 ts i) from by rw [HTt.out]; exact edges_at _ k hk3)
                have HS2 := Lib.hid (show sideOK ts ss i (at2 (edgesT (ua, ub, uc)) k) → ∀ j, j < k + 1 → sideOK ts ss i (at2 (edgesT (ua, ub, uc)) j) from fun h j hj => by
                  by_cases e : j = k
                  · subst e; exact h
                  · exact HKs.out j (by omega))
                have HNo := Lib.hid (fun (h : ¬ sideOK ts ss i (at2 (edgesT (ua, ub, uc)) k)) => HBad.out (fun h2 => h (h2.2.1 i hlt _ HEd.out)))
                generalize at2 (edgesT (ua, ub, uc)) k = s at *
                obtain ⟨x, y⟩ := s
                simp only at d0 d1
                have HSo := Lib.hid (show sideOK ts ss i (x, y) ↔ leftI ts (x, y) = (i : Int) ∧ ¬ (leftI ts (y, x) < 0 ∧ hasB ss x y = false) from Iff.rfl)
                have HL1 := Lib.hid (fun W h => Left12_any (some ⟨b, o, none⟩) ct ts x y W lt h)
                have HL2 := Lib.hid (fun W h => Left12_any (some ⟨b, o, none⟩) ct ts y x W lt h)
                have HHs := Lib.hid (fun W h => Has12_any AS cs ss x y W ls h)
                have hWr := hW.trans hx
                generalize leftI ts (x, y) = l1 at *
                generalize leftI ts (y, x) = l2 at *
                generalize hasB ss x y = hb at *
                have x0 := cell_ext d0
                have x1 := cell_ext d1
                have x2 := cell_ext m1
                go_wp2_with fail
                refine wp_region_ext (by kernel_rfl) (by kernel_rfl) ?_
                repeat (go_big_quiet_step (((go_at_call 40; with_reducible exact ext_call (HL1.out _ (HMT.out _ (hWr.trans (ext_extW _ _ _))))))))
                refine wpQuiet_nil ?_
                intro W7 hW7_
                have hW7 := ext_of hW7_
                clear hW7_
                clear x0 x1 x2
                by_cases hl1 : l1 = (i : Int)
                · have f1 : (l1 != (i : Int)) = false := by simpa using hl1
                  replace d0 := hW7.cell d0
                  replace d1 := hW7.cell d1
                  replace m1 := hW7.cell m1
                  replace m2 := hW7.cell m2
                  replace hWr := hWr.trans hW7
                  have HSo2 := Lib.hid (show ¬ (l2 < 0 ∧ hb = false) → sideOK ts ss i (x, y) from fun h => HSo.out.2 ⟨hl1, h⟩)
                  have HSo3 := Lib.hid (show (l2 < 0 ∧ hb = false) → ¬ sideOK ts ss i (x, y) from fun h h2 => (HSo.out.1 h2).2 h)
                  clear HSo hl1 HL1
                  replace hx := hx.trans hW7
                  clear hW7
                  go_upto_region 13 with fail
                  clear f1
                  have x0 := cell_ext d0
                  have x1 := cell_ext d1
                  have x2 := cell_ext m1
                  have x3 := cell_ext m2
                  by_cases hl2 : l2 < 0
                  · have f2 : decide (l2 < 0) = true := by simpa using hl2
                    have HL2n := Lib.hid hl2
                    clear hl2
                    refine wp_region_ext (by kernel_rfl) (by kernel_rfl) ?_
                    repeat (go_big_quiet_step (((first | (go_at_call 40; with_reducible exact ext_call (HL2.out _ (HMT.out _ (hWr.trans (ext_extW _ _ _))))) | (go_at_call 41; with_reducible exact ext_call (HHs.out _ (HMS.out _ (hWr.trans (ext_extW _ _ _)))))))))
                    refine wpQuiet_nil ?_
                    intro W8 hW8_
                    have hW8 := ext_of hW8_
                    clear hW8_
                    clear x0 x1 x2 x3
                    cases hb with
                    | false =>
                      have HB := Lib.hid (HNo.out (HSo3.out ⟨HL2n.out, rfl⟩))
                      clear HSo2 HSo3 HNo HS2
                      go_wp2_with fail
                      go_ret
                      exact ⟨ret_i64 HB.out.symm, hWr.trans hW8⟩
                    | true =>
                      have HS3 := Lib.hid (HS2.out (HSo2.out (fun h => by cases h.2)))
                      clear HSo2 HSo3 HNo HS2
                      go_wp2_with fail
                      go_roundw
                      case rel => exact ⟨k + 1, by omega, by go_num, HS3, hx.trans hW8⟩
                      case measure => simp [intOf]; omega
                  · have f2 : decide (l2 < 0) = false := by simpa using hl2
                    have HS3 := Lib.hid (HS2.out (HSo2.out (fun h => hl2 h.1)))
                    clear hl2 HSo2 HSo3 HNo HS2
                    refine wp_region_ext (by kernel_rfl) (by kernel_rfl) ?_
                    repeat (go_big_quiet_step (((go_at_call 40; with_reducible exact ext_call (HL2.out _ (HMT.out _ (hWr.trans (ext_extW _ _ _))))))))
                    refine wpQuiet_nil ?_
                    intro W8 hW8_
                    have hW8 := ext_of hW8_
                    clear hW8_
                    clear x0 x1 x2 x3
                    go_wp2_with fail
                    go_roundw
                    case rel => exact ⟨k + 1, by omega, by go_num, HS3, hx.trans hW8⟩
                    case measure => simp [intOf]; omega
                · have f1 : (l1 != (i : Int)) = true := by simpa using hl1
                  have HB := Lib.hid (HNo.out (fun h => hl1 (HSo.out.1 h).1))
                  clear hl1 HSo HNo HS2
                  go_wp2_with fail
                  go_ret
                  exact ⟨ret_i64 HB.out.symm, hWr.trans hW7⟩
              · have hk31 : ¬ (k : Int) < 3 := by omega
                have HT2 := Lib.hid (show ∀ j, j < i + 1 → okT ps ts j = true ∧ ∀ s ∈ edgesT (at3 ts j), sideOK ts ss j s from fun j hj => by
                  by_cases e : j = i
                  · subst e
                    refine ⟨HGD.out, fun s hs => ?_⟩
                    rw [HTt.out] at hs
                    obtain ⟨q, hq, rfl⟩ := mem_edges hs
                    exact HKs.out q (by omega)
                  · exact HT.out j (by omega))
                go_wp2_with fail
                go_roundw
                case rel => exact ⟨i + 1, by omega, by go_num, HT2, hW.trans hx, m0, m1, m2⟩
                case measure => simp [intOf]; omega
    · have hge : ¬ (i : Int) < (ts.length : Int) := by omega
      have HTall := Lib.hid (show ∀ j, j < ts.length → okT ps ts j = true ∧ ∀ s ∈ edgesT (at3 ts j), sideOK ts ss j s from fun j hj => HT.out j (by omega))
      clear HT
      go_wp2_with fail
      go_loopw [8, 9] (fun iv _ wx => ∃ i : Nat, i ≤ ss.length ∧ iv = .int .i64 i ∧ Hid (∀ j, j < i → segOK ts ss j) ∧ Ext w wx ∧ wx.cell? ⟨B0, 0, none⟩ = some (.slice AP ps.length cp) ∧ wx.cell? ⟨B0, 1, none⟩ = some (.slice AT ts.length ct) ∧ wx.cell? ⟨B0, 2, none⟩ = some (.slice AS ss.length cs)) (fun iv _ _ => ss.length - (intOf iv).toNat)
      case atStart => exact ⟨0, Nat.zero_le _, rfl, Lib.hid (fun j h => absurd h (Nat.not_lt_zero _)), hW, m0, m1, m2⟩
      case round =>
        clear m0 m1 m2 hW hge hi hlt
        obtain ⟨i, hi, rfl, HSg, hW, m0, m1, m2⟩ := hrel
        by_cases hlt : i < ss.length
        · have hlt1 : (i : Int) < (ss.length : Int) := by omega
          obtain ⟨b, o, rfl, hc⟩ := (HMS.out _ hW).open_ (by omega)
          have HC := Lib.hid hc
          clear hc
          obtain ⟨c0, c1⟩ := HC.out i hlt
          have HNo := Lib.hid (fun (h : ¬ segOK ts ss i) => HBad.out (fun h2 => h (h2.2.2 i hlt)))
          have HS2 := Lib.hid (show segOK ts ss i → ∀ j, j < i + 1 → segOK ts ss j from fun h j hj => by
            by_cases e : j = i
            · subst e; exact h
            · exact HSg.out j (by omega))
          have HSo := Lib.hid (show segOK ts ss i ↔ ¬ (at2 ss i).2 ≤ (at2 ss i).1 ∧ ¬ (0 < i ∧ ((at2 ss i).1 < (at2 ss (i - 1)).1 ∨ (at2 ss (i - 1)).1 = (at2 ss i).1 ∧ (at2 ss i).2 ≤ (at2 ss (i - 1)).2)) ∧ ¬ (leftI ts (at2 ss i) < 0 ∧ leftI ts (revS (at2 ss i)) < 0) from Iff.rfl)
          generalize segOK ts ss i = SG at *
          have HP := Lib.hid (fun (h : 0 < i) => HC.out (i - 1) (by omega))
          generalize at2 ss i = s at *
          generalize at2 ss (i - 1) = pv at *
          obtain ⟨x, y⟩ := s
          obtain ⟨px, py⟩ := pv
          simp only [revS] at c0 c1 HSo HP
          have HL1 := Lib.hid (fun W h => Left12_any AT ct ts x y W lt h)
          have HL2 := Lib.hid (fun W h => Left12_any AT ct ts y x W lt h)
          generalize leftI ts (x, y) = l1 at *
          generalize leftI ts (y, x) = l2 at *
          go_upto_region 19 with fail
          refine wp_world (fun W3 => Ext wr W3 ∧ W3.cell? ⟨wr.heap.size, 0, none⟩ = some (.int .i64 x) ∧ W3.cell? ⟨wr.heap.size, 1, none⟩ = some (.int .i64 y))
            ⟨(Ext.refl wr).alloc _, by simp [go_sem], by simp [go_sem]⟩ ?_
          generalize wr.heap.size = B9
          rintro W3 ⟨hx3, v0, v1⟩
          replace hW := hW.trans hx3
          replace m0 := hx3.cell m0
          replace m1 := hx3.cell m1
          replace m2 := hx3.cell m2
          have HP3 := Lib.hid (fun (h : 0 < i) => (show _ ∧ _ from ⟨hx3.cell (HP.out h).1, hx3.cell (HP.out h).2⟩))
          clear c0 c1 HC HP hx3
          go_cut [174] (fun g wx => ∃ G : Bool, g = .bool G ∧ Hid (G = true ↔ (y ≤ x ∨ 0 < i ∧ (x < px ∨ px = x ∧ y ≤ py))) ∧ Ext W3 wx)
          case first =>
            have y0 := cell_ext v0
            have y1 := cell_ext v1
            by_cases h1 : y ≤ x
            · have f1 : decide (y ≤ x) = true := by simpa using h1
              have H1 := Lib.hid h1
              clear h1
              refine wp_region_ext (by kernel_rfl) (by kernel_rfl) ?_
              repeat (go_big_quiet_step ((fail)))
              refine wpQuiet_nil ?_
              intro W4 hW4_
              have hW4 := ext_of hW4_
              clear hW4_
              go_wp2_with fail
              go_meet
              exact ⟨true, rfl, Lib.hid ⟨fun _ => Or.inl H1.out, fun _ => rfl⟩, hW4⟩
            · have f1 : decide (y ≤ x) = false := by simpa using h1
              have H1 := Lib.hid h1
              clear h1
              by_cases hi0 : i = 0
              · have hd1 : decide (0 < i) = false := by simp; omega
                have hd2 : decide ((0 : Int) < (i : Int)) = false := by simp; omega
                have H2 := Lib.hid hi0
                clear hi0
                refine wp_region_ext (by kernel_rfl) (by kernel_rfl) ?_
                repeat (go_big_quiet_step ((fail)))
                refine wpQuiet_nil ?_
                intro W4 hW4_
                have hW4 := ext_of hW4_
                clear hW4_
                go_wp2_with fail
                go_meet
                exact ⟨false, rfl, Lib.hid ⟨fun h => (by cases h), fun h => by have := H1.out; have := H2.out; omega⟩, hW4⟩
              · have hd1 : decide (0 < i) = true := by simp; omega
                have hd2 : decide ((0 : Int) < (i : Int)) = true := by simp; omega
                obtain ⟨p0, p1⟩ := HP3.out (by omega)
                have H2 := Lib.hid hi0
                have z0 := cell_ext p0
                have z1 := cell_ext p1
                have n2 := cell_ext m2
                have e1 : IntKind.i64.wrap ((i : Int) - 1) = (i : Int) - 1 := IntWalk.i64_in _ (by omega)
                have e2 : ((i : Int) - 1).toNat = i - 1 := by omega
                have e3 : 0 ≤ (i : Int) - 1 := by omega
                have e4 : (i : Int) - 1 < (ss.length : Int) := by omega
                by_cases h3 : x < px
                · have f3 : decide (x < px) = true := by simpa using h3
                  have H3 := Lib.hid h3
                  clear h3
                  refine wp_region_ext (by kernel_rfl) (by kernel_rfl) ?_
                  repeat (go_big_quiet_step ((fail)))
                  refine wpQuiet_nil ?_
                  intro W4 hW4_
                  have hW4 := ext_of hW4_
                  clear hW4_
                  go_wp2_with fail
                  go_meet
                  exact ⟨true, rfl, Lib.hid ⟨fun _ => Or.inr ⟨by have := H2.out; omega, Or.inl H3.out⟩, fun _ => rfl⟩, hW4⟩
                · have f3 : decide (x < px) = false := by simpa using h3
                  by_cases h4 : px = x
                  · subst h4
                    have f4 : (px == px) = true := by simp
                    by_cases h5 : y ≤ py
                    · have f5 : decide (y ≤ py) = true := by simpa using h5
                      have H5 := Lib.hid h5
                      clear h5 h3
                      refine wp_region_ext (by kernel_rfl) (by kernel_rfl) ?_
                      repeat (go_big_quiet_step ((fail)))
                      refine wpQuiet_nil ?_
                      intro W4 hW4_
                      have hW4 := ext_of hW4_
                      clear hW4_
                      go_wp2_with fail
                      go_meet
                      exact ⟨true, rfl, Lib.hid ⟨fun _ => Or.inr ⟨by have := H2.out; omega, by have := H5.out; first | exact Or.inr ⟨rfl, this⟩ | exact Or.inr ⟨trivial, this⟩ | omega⟩, fun _ => rfl⟩, hW4⟩
                    · have f5 : decide (y ≤ py) = false := by simpa using h5
                      have H5 := Lib.hid h5
                      clear h5 h3
                      refine wp_region_ext (by kernel_rfl) (by kernel_rfl) ?_
                      repeat (go_big_quiet_step ((fail)))
                      refine wpQuiet_nil ?_
                      intro W4 hW4_
                      have hW4 := ext_of hW4_
                      clear hW4_
                      go_wp2_with fail
                      go_meet
                      exact ⟨false, rfl, Lib.hid ⟨fun h => (by cases h), fun h => by have := H1.out; have := H5.out; omega⟩, hW4⟩
                  · have f4 : (px == x) = false := by simpa using h4
                    have H4 := Lib.hid h4
                    have H3 := Lib.hid h3
                    clear h3 h4
                    refine wp_region_ext (by kernel_rfl) (by kernel_rfl) ?_
                    repeat (go_big_quiet_step ((fail)))
                    refine wpQuiet_nil ?_
                    intro W4 hW4_
                    have hW4 := ext_of hW4_
                    clear hW4_
                    go_wp2_with fail
                    go_meet
                    exact ⟨false, rfl, Lib.hid ⟨fun h => (by cases h), fun h => by have := H1.out; have := H4.out; have := H3.out; omega⟩, hW4⟩
          case rest =>
            obtain ⟨G, rfl, HG, hx⟩ := hcut
            replace hW := hW.trans hx
            replace m0 := hx.cell m0
            replace m1 := hx.cell m1
            replace m2 := hx.cell m2
            replace v0 := hx.cell v0
            replace v1 := hx.cell v1
            clear hx HP3
            cases G with
            | true =>
              have HB := Lib.hid (HNo.out (fun h => by have h1 := HG.out.1 rfl; have h2 := HSo.out.1 h; omega))
              clear HNo HS2 HSo HG
              go_wp2_with fail
              go_ret
              exact ⟨ret_i64 HB.out.symm, hW⟩
            | false =>
              have HG2 := Lib.hid (show ¬ (y ≤ x ∨ 0 < i ∧ (x < px ∨ px = x ∧ y ≤ py)) from fun h => by have := HG.out.2 h; cases this)
              clear HG
              go_wp2_with fail
              refine (HL1.out _ (HMT.out _ hW)).mono ?_
              rintro e W5 ⟨rfl, hx⟩
              replace hW := hW.trans hx
              replace m0 := hx.cell m0
              replace m1 := hx.cell m1
              replace m2 := hx.cell m2
              replace v0 := hx.cell v0
              replace v1 := hx.cell v1
              clear hx HL1
              by_cases hl1 : l1 < 0
              · have f1 : decide (l1 < 0) = true := by simpa using hl1
                have H1 := Lib.hid hl1
                clear hl1
                go_wp2_with fail
                refine (HL2.out _ (HMT.out _ hW)).mono ?_
                rintro e W6 ⟨rfl, hx⟩
                replace hW := hW.trans hx
                replace m0 := hx.cell m0
                replace m1 := hx.cell m1
                replace m2 := hx.cell m2
                clear hx HL2 v0 v1
                by_cases hl2 : l2 < 0
                · have f2 : decide (l2 < 0) = true := by simpa using hl2
                  have HB := Lib.hid (HNo.out (fun h => (HSo.out.1 h).2.2 ⟨H1.out, hl2⟩))
                  clear HNo HS2 HSo HG2 hl2
                  go_wp2_with fail
                  go_ret
                  exact ⟨ret_i64 HB.out.symm, hW⟩
                · have f2 : decide (l2 < 0) = false := by simpa using hl2
                  have HS3 := Lib.hid (HS2.out (HSo.out.2 (by have h9 := HG2.out; have h10 := H1.out; refine ⟨?_, ?_, ?_⟩ <;> omega)))
                  clear HNo HS2 HSo HG2 hl2
                  go_wp2_with fail
                  go_roundw
                  case rel => exact ⟨i + 1, by omega, by go_num, HS3, hW, m0, m1, m2⟩
                  case measure => simp [intOf]; omega
              · have f1 : decide (l1 < 0) = false := by simpa using hl1
                have HS3 := Lib.hid (HS2.out (HSo.out.2 (by have h9 := HG2.out; refine ⟨?_, ?_, ?_⟩ <;> omega)))
                clear HNo HS2 HSo HG2 hl1
                go_wp2_with fail
                go_roundw
                case rel => exact ⟨i + 1, by omega, by go_num, HS3, hW, m0, m1, m2⟩
                case measure => simp [intOf]; omega
        · have hge : ¬ (i : Int) < (ss.length : Int) := by omega
          have HB := Lib.hid (HGood.out (fun j hj => (HTall.out j hj).1) (fun j hj => (HTall.out j hj).2) (fun j hj => HSg.out j (by omega)))
          clear HTall HSg
          go_wp2_with fail
          go_ret
          exact ⟨ret_i64 HB.out.symm, hW⟩
end Go.Proofs.Ytagofpmcbbkmgaa
