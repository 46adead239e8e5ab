/- The law DualGraph, walked. -/
import Derived.Test.YtagofpmcbbkmgaaE1
import Derived.Test.YtagofpmcbbkmgaaW1
import Derived.Test.YtagofpmcbbkmgaaD4
import Derived.Test.YtagofpmcbbkmgaaR2
namespace Go.Proofs.Ytagofpmcbbkmgaa
open Go.RowKit Go.Sort

set_option maxHeartbeats 6000000 in
set_option maxRecDepth 100000 in
theorem dualGraph_any (AP AT AS : Option Addr) (cp ct cs : Nat) (ps : List (Int × Int)) (ts : List (Int × Int × Int)) (ss : List (Int × Int)) (w : World) (hP : Rd2 w AP ps) (hT : Rd3 w AT ts) (hS : Rd2 w AS ss) :
    Calls Try.prog 6 #[.agg #[.slice AP ps.length cp, .slice AT ts.length ct, .slice AS ss.length cs]] w fun e w' => e = .returned (.bool true) ∧ Ext w w' := by
  have HR := Lib.hid (show Rd2 w AP ps ∧ Rd3 w AT ts ∧ Rd2 w AS ss from ⟨hP, hT, hS⟩)
  clear hP hT hS
  have HKn := Lib.hid (fun W => known17_any W)
  have HMy := Lib.hid (fun W => many_any AP AT AS cp ct cs ps.length ts.length ss.length W)
  have HCk := Lib.hid (fun W h => Check12_any AP AT AS cp ct cs ps ts ss W h)
  have HPr := Lib.hid (fun W h => (pairs_any AP AT AS cp ct cs ps ts ss W h).mono (R' := fun e w' => (∃ A c, e = .returned (.tuple #[.slice A (pairsP ps ts ss).length c, .int .i64 (chkI ps ts ss)]) ∧ Rd2 w' A (pairsP ps ts ss)) ∧ Ext W w') fun e w' h => ⟨h.1.uni, h.2⟩)
  have HB := Lib.hid (fun i W h => (beside_any AP AT AS cp ct cs ps ts ss i W h))
  have HQ := Lib.hid (fun i k W h => (Quad_any AP AT AS cp ct cs ps ts ss i k W h).mono (R' := fun e w' => (∃ A n c, e = .returned (.tuple #[.slice A n c, .bool (QuadP ps ts ss i k).isSome])) ∧ Ext W w') fun e w' h => ⟨by obtain ⟨A, n, c, he, _⟩ := h.1.tuple; exact ⟨A, n, c, he⟩, h.2⟩)
  have H3 := Lib.hid (fun i hi => beside_three ps ts ss i hi)
  have HMem := Lib.hid (fun h0 i k h1 h2 => pairsP_mem (ps := ps) (ts := ts) (ss := ss) h0 (i := i) (k := k) h1 h2)
  have HLt := Lib.hid (fun x h => pairsP_lt (ps := ps) (ts := ts) (ss := ss) (x := x) h)
  have HUp := Lib.hid (pairs_up ps ts ss)
  have hpl := pairsP_length ps ts ss
  generalize pairsP ps ts ss = pl at *
  generalize chkI ps ts ss = ck at *
  go_enter Try.func6, Try.ntmps6
  go_upto_region 1 with fail
  refine wp_world (fun W1 => Ext w W1 ∧ W1.cell? ⟨w.heap.size, 0, none⟩ = some (.slice AP ps.length cp) ∧ W1.cell? ⟨w.heap.size, 1, none⟩ = some (.slice AT ts.length ct) ∧ W1.cell? ⟨w.heap.size, 2, none⟩ = some (.slice AS ss.length cs))
    ⟨(Ext.refl w).alloc _, by simp [go_sem], by simp [go_sem], by simp [go_sem]⟩ ?_
  generalize w.heap.size = B0
  rintro W ⟨hW, m0, m1, m2⟩
  go_wp2_with fail
  refine (HMy.out _).mono ?_
  rintro e W1 ⟨⟨b, rfl, hb⟩, hx⟩
  replace m0 := hx.cell m0
  replace m1 := hx.cell m1
  replace m2 := hx.cell m2
  replace hW := hW.trans hx
  clear hx HMy
  cases b with
  | true =>
    go_wp2_with fail
    refine (HKn.out _).mono ?_
    rintro e W3 ⟨rfl, hx⟩
    go_wp2_with fail
    go_ret
    exact ⟨rfl, hW.trans hx⟩
  | false =>
    obtain ⟨hp40, ht60, hs80⟩ := hb.out rfl
    clear hb
    have HM := Lib.hid (fun W' (h : Ext w W') => (show Mesh W' AP AT AS ps ts ss from ⟨HR.out.1.ext h, HR.out.2.1.ext h, HR.out.2.2.ext h, by omega, by omega, by omega⟩))
    clear HR
    go_wp2_with fail
    refine (HCk.out _ (HM.out _ hW)).mono ?_
    rintro e W2 ⟨rfl, hx⟩
    replace m0 := hx.cell m0
    replace m1 := hx.cell m1
    replace m2 := hx.cell m2
    replace hW := hW.trans hx
    clear hx HCk
    by_cases hck : ck = 0
    · subst hck
      go_wp2_with fail
      refine (HPr.out _ (HM.out _ hW)).mono ?_
      rintro e W3 ⟨⟨A, c, rfl, hrd⟩, hx⟩
      replace m0 := hx.cell m0
      replace m1 := hx.cell m1
      replace m2 := hx.cell m2
      replace hW := hW.trans hx
      have HRd := Lib.hid hrd
      clear hx HPr hrd
      go_wp2_with fail
      go_loopw [5, 6] (fun nv iv wx => ∃ (n i : Nat), n ≤ pl.length ∧ i ≤ ts.length ∧ nv = .int .i64 n ∧ iv = .int .i64 i ∧ Hid (CutAt pl ((i : Int), ((i + 1 : Nat) : Int)) n) ∧ Ext W3 wx) (fun _ iv _ => ts.length - (intOf iv).toNat)
      case atStart => exact ⟨0, 0, Nat.zero_le _, Nat.zero_le _, rfl, rfl, Lib.hid (cut_first HLt.out), Ext.refl _⟩
      case round =>
        obtain ⟨n, i, hn, hi, rfl, rfl, HC, hx⟩ := hrel
        replace m0 := hx.cell m0
        replace m1 := hx.cell m1
        replace m2 := hx.cell m2
        by_cases hlt : i < ts.length
        · have hlt1 : (i : Int) < (ts.length : Int) := by omega
          go_wp2_with fail
          refine (HB.out _ _ (HM.out _ (hW.trans hx))).mono ?_
          rintro e W5 ⟨⟨A5, c5, rfl, _⟩, hx5⟩
          have h3 := H3.out i hlt
          generalize (besideP ps ts ss (i : Int)).length = bl at *
          have h31 : ¬ (3 : Int) < (bl : Int) := by omega
          replace m0 := hx5.cell m0
          replace m1 := hx5.cell m1
          replace m2 := hx5.cell m2
          replace hx := hx.trans hx5
          clear hx5
          go_wp2_with fail
          go_loopw [5, 8] (fun nv kv wx => ∃ (n k : Nat), n ≤ pl.length ∧ i < k ∧ k ≤ ts.length ∧ nv = .int .i64 n ∧ kv = .int .i64 k ∧ Hid (CutAt pl ((i : Int), (k : Int)) n) ∧ Ext W5 wx) (fun _ kv _ => ts.length - (intOf kv).toNat)
          case atStart => exact ⟨n, i + 1, hn, by omega, by omega, rfl, by go_num, HC, Ext.refl _⟩
          case round =>
            obtain ⟨n', k, hn', hik, hk, rfl, rfl, HC', hx'⟩ := hrel
            replace m0 := hx'.cell m0
            replace m1 := hx'.cell m1
            replace m2 := hx'.cell m2
            by_cases hkt : k < ts.length
            · have hkt1 : (k : Int) < (ts.length : Int) := by omega
              have HTold := Lib.hid (cut_told HUp.out HC'.out)
              have HMm := Lib.hid (HMem.out (by first | trivial | rfl) i k hik hkt)
              go_wp2_with fail
              refine (HQ.out _ _ _ (HM.out _ ((hW.trans hx).trans hx'))).mono ?_
              rintro e W6 ⟨⟨A6, n6, c6, rfl⟩, hx6⟩
              generalize (QuadP ps ts ss (i : Int) (k : Int)).isSome = q at *
              replace m0 := hx6.cell m0
              replace m1 := hx6.cell m1
              replace m2 := hx6.cell m2
              replace hx' := hx'.trans hx6
              clear hx6
              by_cases hnl : n' < pl.length
              · have hnl1 : (n' : Int) < (pl.length : Int) := by omega
                obtain ⟨b, o, hA, hcs⟩ := (HRd.out.ext (hx.trans hx')).open_ (by omega)
                obtain ⟨d0, d1⟩ := hcs n' hnl
                clear hcs
                subst hA
                have he := fun W => eqSeg_op (at2 pl n') ((i : Int), (k : Int)) W
                by_cases htold : at2 pl n' = ((i : Int), (k : Int))
                · have hq := HMm.out.1 (HTold.out.1 ⟨hnl, htold⟩)
                  have HC2 := Lib.hid (cut_yes HUp.out HC'.out hnl htold)
                  rw [htold] at d0 d1 he
                  simp only [segV, decide_true] at he d0 d1
                  subst hq
                  clear HTold HMm HC' htold
                  go_wp2_with fail
                  go_roundw
                  case rel => exact ⟨n' + 1, k + 1, by omega, by omega, by omega, by go_num, by go_num, HC2, hx'⟩
                  case measure => simp [intOf]; omega
                · have hq : q = false := by
                    cases q with
                    | false => rfl
                    | true => exact absurd (HTold.out.2 (HMm.out.2 rfl)).2 htold
                  have HC2 := Lib.hid (cut_no HC'.out (fun h => htold (HTold.out.2 h).2))
                  rw [decide_eq_false htold] at he
                  generalize at2 pl n' = s at *
                  obtain ⟨s0, s1⟩ := s
                  simp only [segV] at he d0 d1
                  subst hq
                  clear HTold HMm HC' htold
                  go_wp2_with fail
                  go_roundw
                  case rel => exact ⟨n', k + 1, by omega, by omega, by omega, rfl, by go_num, HC2, hx'⟩
                  case measure => simp [intOf]; omega
              · have hnl1 : ¬ (n' : Int) < (pl.length : Int) := by omega
                have hq : q = false := by
                  cases q with
                  | false => rfl
                  | true => exact absurd (HTold.out.2 (HMm.out.2 rfl)).1 hnl
                have HC2 := Lib.hid (cut_no HC'.out (fun h => hnl (HTold.out.2 h).1))
                subst hq
                clear HTold HMm HC'
                go_wp2_with fail
                go_roundw
                case rel => exact ⟨n', k + 1, by omega, by omega, by omega, rfl, by go_num, HC2, hx'⟩
                case measure => simp [intOf]; omega
            · have hkt1 : ¬ (k : Int) < (ts.length : Int) := by omega
              have hkl : k = ts.length := by omega
              have HC2 := Lib.hid (cut_row (T := ts.length) HLt.out (hkl ▸ HC'.out))
              clear HC'
              go_wp2_with fail
              go_roundw
              case rel => exact ⟨n', i + 1, by omega, by omega, rfl, by go_num, HC2, hx.trans hx'⟩
              case measure => simp [intOf]; omega
        · have hlt1 : ¬ (i : Int) < (ts.length : Int) := by omega
          have hil : i = ts.length := by omega
          subst hil
          have hnl := cut_last HLt.out HC.out
          subst hnl
          go_wp2_with fail
          refine (HKn.out _).mono ?_
          rintro e W5 ⟨rfl, hx5⟩
          go_wp2_with fail
          go_ret
          exact ⟨rfl, (hW.trans hx).trans hx5⟩
    · have f1 : (ck != 0) = true := by simpa using hck
      go_wp2_with fail
      refine (HKn.out _).mono ?_
      rintro e W3 ⟨rfl, hx⟩
      go_wp2_with fail
      go_ret
      exact ⟨rfl, hW.trans hx⟩
end Go.Proofs.Ytagofpmcbbkmgaa
