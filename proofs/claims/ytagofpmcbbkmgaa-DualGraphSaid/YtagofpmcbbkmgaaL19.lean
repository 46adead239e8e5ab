/- Package dual: Pairs, walked. -/
import Derived.Test.YtagofpmcbbkmgaaL18
namespace Go.Proofs.Ytagofpmcbbkmgaa
open Go.RowKit Go.Sort

/-- What a call of Pairs has answered. -/
def PairsRes (ps : List (Int × Int)) (ts : List (Int × Int × Int)) (ss : List (Int × Int)) (w' : World) (e : Ending) : Prop :=
  (chkI ps ts ss ≠ 0 ∧ e = .returned (.tuple #[.slice none 0 0, .int .i64 (chkI ps ts ss)])) ∨
  (chkI ps ts ss = 0 ∧ ∃ A c, e = .returned (.tuple #[.slice A (outN ps ts ss (3 * ts.length)).length c, .int .i64 0]) ∧ Rd2 w' A (sortS (outN ps ts ss (3 * ts.length))))

theorem own_ext {w w' : World} {base n size : Nat} {e : TypeId} {v : Value} {xs : List Value} (h : w.ownsRow base e size v n xs) (hx : Ext w w') : w'.ownsRow base e size v n xs :=
  h.kept (hx.toGrown none) (by cases v.ownBlock <;> simp)
theorem infoSeg : (Try.prog.info? 39).map (fun i => (i.zero, i.size, i.bytes)) = some (some (.agg #[.int .i64 0, .int .i64 0]), 2, 16) := by kernel_rfl

set_option maxHeartbeats 8000000 in
set_option maxRecDepth 100000 in
theorem pairs_any (AP AT AS : Option Addr) (cp ct cs : Nat) (ps : List (Int × Int)) (ts : List (Int × Int × Int)) (ss : List (Int × Int)) (w : World) (hM : Mesh w AP AT AS ps ts ss) :
    Calls Try.prog 26 #[.agg #[.slice AP ps.length cp, .slice AT ts.length ct, .slice AS ss.length cs]] w fun e w' => PairsRes ps ts ss w' e ∧ Ext w w' := by
  have HM := Lib.hid hM
  have HCk := Lib.hid (fun W h => check_any AP AT AS cp ct cs ps ts ss W h)
  have hlt := hM.2.2.2.2.1
  clear hM
  by_cases hck : chkI ps ts ss = 0
  · have HIn := Lib.hid (chk_inT hck)
    have HD := Lib.hid (chk_nodup hck)
    have HR : Hid (∀ w' e, PairsRes ps ts ss w' e = _) := Lib.hid (fun w' e => show PairsRes ps ts ss w' e = (∃ A c, e = .returned (.tuple #[.slice A (outN ps ts ss (3 * ts.length)).length c, .int .i64 0]) ∧ Rd2 w' A (sortS (outN ps ts ss (3 * ts.length)))) by
      unfold PairsRes; simp [hck])
    rw [hck] at HCk
    clear hck
    go_enter Try.func26, Try.ntmps26
    go_upto_region 1 with fail
    generalize hB0 : w.heap.size = B0
    refine wp_world (fun W1 => (Ext w W1 ∧ w.heap.size ≤ B0 ∧ B0 < W1.heap.size) ∧ W1.cell? ⟨B0, 0, none⟩ = some (.slice AP ps.length cp) ∧ W1.cell? ⟨B0, 1, none⟩ = some (.slice AT ts.length ct) ∧ W1.cell? ⟨B0, 2, none⟩ = some (.slice AS ss.length cs))
      ⟨⟨(Ext.refl w).alloc _, by omega, by subst hB0; simp⟩, by subst hB0; simp [go_sem], by subst hB0; simp [go_sem], by subst hB0; simp [go_sem]⟩ ?_
    clear hB0
    rintro W ⟨⟨hW, hB0, hB1⟩, m0, m1, m2⟩
    have HM1 := Lib.hid (fun W1 (h : Ext W W1) => (show Mesh W1 AP AT AS ps ts ss from ⟨HM.out.1.ext (hW.trans h), HM.out.2.1.ext (hW.trans h), HM.out.2.2.1.ext (hW.trans h), HM.out.2.2.2⟩))
    clear HM
    have hmm := @run_makeMap Try.prog
    go_upto_region 4 with (go_at_call 43; refine (HCk.out _ (HM1.out _ (Ext.refl _))).mono ?_; rintro e W1 ⟨rfl, hW1⟩)
    replace m0 := hW1.cell m0
    replace m1 := hW1.cell m1
    replace m2 := hW1.cell m2
    replace hB1 := Nat.lt_of_lt_of_le hB1 hW1.size
    go_wp2_with fail
    have hMB : W1.heap.size < (W1.alloc (.map #[] 0)).heap.size := by simp
    go_loopw [28] (fun i wr => ∃ k : Nat, k ≤ ts.length ∧ i = .int .i64 k ∧ Ext W1 wr ∧ MapS wr W1.heap.size (ofN ts (3 * k))) (fun i _ => ts.length - (intOf i).toNat)
    case atStart => exact ⟨0, Nat.zero_le _, rfl, (Ext.refl _).alloc _, mapS_new _⟩
    case round =>
      obtain ⟨k, hk, rfl, hx, hmap⟩ := hrel
      by_cases hlt' : k < ts.length
      · have hlt1 : (k : Int) < (ts.length : Int) := by omega
        obtain ⟨b, o, hAT, hc⟩ := (HM1.out _ (hW1.trans hx)).2.1.open_ (by omega)
        obtain ⟨c0, c1, c2⟩ := hc k hlt'
        clear hc
        have HE := Lib.hid (fun (j : Nat) (h : j < 3) => show edgeN ts (3 * k + j) = ((sideT (at3 ts k) j).1, (sideT (at3 ts k) j).2.1) by
          unfold edgeN; rw [show (3 * k + j) / 3 = k by omega, show (3 * k + j) % 3 = j by omega])
        generalize at3 ts k = t at *
        obtain ⟨a0, a1, a2⟩ := t
        simp only at c0 c1 c2
        have HSd := Lib.hid (fun W => sides_any a0 a1 a2 W)
        subst hAT
        have hz := hmap.lt
        go_wp2_with fail
        refine (HSd.out _).mono ?_
        rintro e W2 ⟨rfl, hW2⟩
        replace hW2 := ((Ext.refl wr).alloc _).trans hW2
        replace hmap := hmap.ext hW2
        replace hx := hx.trans hW2
        clear c0 c1 c2 hW2 HSd hz
        go_wp2_with fail
        go_loopw [35] (fun j wx => ∃ q : Nat, q ≤ 3 ∧ j = .int .i64 q ∧ Ext W1 wx ∧ MapS wx W1.heap.size (ofN ts (3 * k + q))) (fun j _ => 3 - (intOf j).toNat)
        case atStart => exact ⟨0, by omega, rfl, hx, hmap⟩
        case round =>
          obtain ⟨q, hq, rfl, hxx, hmm1⟩ := hrel
          by_cases hq3 : q < 3
          · have hq3' : (q : Int) < 3 := by omega
            have he := HE.out q hq3
            have hidx := fun W => idx33 a0 a1 a2 q hq3 W
            generalize sideT (a0, a1, a2) q = x at *
            obtain ⟨x0, x1, x2⟩ := x
            simp only at hidx he
            have hz := hmm1.lt
            obtain ⟨w3, hrun, hm3, hg3, hs3⟩ := of_run HD.out (n := 3 * k + q) (by omega) (hmm1.ext ((Ext.refl wr).alloc (Obj.cells #[Value.int IntKind.i64 x0, Value.int IntKind.i64 x1, Value.int IntKind.i64 x2] 87))) x0 x1 k (by omega) he
            go_wp2_with fail
            go_roundw
            case rel => exact ⟨q + 1, by omega, by go_num, (hxx.alloc _).grown hg3 (by intro r hr; simp at hr; omega), hm3⟩
            case measure => simp [intOf]; omega
          · have hq3' : ¬ (q : Int) < 3 := by omega
            have hq4 : q = 3 := by omega
            subst hq4
            go_wp2_with fail
            go_roundw
            case rel => exact ⟨k + 1, by omega, by go_num, hxx, by rw [show 3 * (k + 1) = 3 * k + 3 by omega]; exact hmm1⟩
            case measure => simp [intOf]; omega
      · have hlt1 : ¬ (k : Int) < (ts.length : Int) := by omega
        have hkl : k = ts.length := by omega
        subst hkl
        have HW := Lib.hid (fun (W : World) (h : MapS W W1.heap.size (ofN ts (3 * ts.length))) x y => who_run h x y)
        clear hk hlt1
        go_upto_region 15 with fail
        replace m0 := hx.cell m0
        replace m1 := hx.cell m1
        replace m2 := hx.cell m2
        have HM2 := Lib.hid (fun W2 (h : Ext wr W2) => HM1.out W2 ((hW1.trans hx).trans h))
        replace hW := (hW.trans hW1).trans hx
        have hmz := hmap.lt
        have HMap := Lib.hid (fun W2 (h : Ext wr W2) => hmap.ext h)
        generalize W1.heap.size = MB at *
        clear hx hMB HM1 hB0 hW1 hmap HD hlt'
        obtain ⟨WB, rfl⟩ : ∃ WB : World, WB = wr := ⟨_, rfl⟩
        go_wp2_with fail
        go_loopw [10, 50] (fun v i wx => ∃ (k : Nat) (A : Option Addr) (c : Nat), k ≤ ts.length ∧ i = .int .i64 k ∧ v = .slice A (outN ps ts ss (3 * k)).length c ∧ Hid (wx.ownsRow WB.heap.size 39 2 (.slice A (outN ps ts ss (3 * k)).length c) (outN ps ts ss (3 * k)).length (cellsS (outN ps ts ss (3 * k)))) ∧ Ext WB wx) (fun _ i _ => ts.length - (intOf i).toNat)
        case atStart => exact ⟨0, none, 0, Nat.zero_le _, rfl, rfl, World.ownsRow_nil _ _ _ _, Ext.refl _⟩
        case round =>
          obtain ⟨k, A, c, hk, rfl, rfl, HOw, hx⟩ := hrel
          by_cases hlt' : k < ts.length
          · have hlt1 : (k : Int) < (ts.length : Int) := by omega
            obtain ⟨b, o, hAT, hc⟩ := (HM2.out _ hx).2.1.open_ (by omega)
            obtain ⟨c0, c1, c2⟩ := hc k hlt'
            clear hc
            have HE := Lib.hid (fun (j : Nat) (h : j < 3) => show edgeN ts (3 * k + j) = ((sideT (at3 ts k) j).1, (sideT (at3 ts k) j).2.1) by
              unfold edgeN; rw [show (3 * k + j) / 3 = k by omega, show (3 * k + j) % 3 = j by omega])
            have HCa := Lib.hid (fun (j : Nat) (h : j < 3) => show (whoE ts (revS (edgeN ts (3 * k + j))) = none → candN ps ts ss (3 * k + j) = []) ∧
                (∀ k', whoE ts (revS (edgeN ts (3 * k + j))) = some k' → candN ps ts ss (3 * k + j) = if k < k' ∧ (quadP ps ss (at3 ts k) (at3 ts k')).isSome then [((k : Int), (k' : Int))] else []) by
              unfold candN; rw [show (3 * k + j) / 3 = k by omega]; exact ⟨fun h => by rw [h], fun k' h => by rw [h]⟩)
            have HQ := Lib.hid (fun (k' : Nat) (h' : k' < ts.length) W2 (h : Ext WB W2) => quad_any AP AT AS cp ct cs ps ts ss k k' W2 (HM2.out _ h) hlt' h' HIn.out)
            generalize at3 ts k = t at *
            obtain ⟨a0, a1, a2⟩ := t
            simp only at c0 c1 c2
            have HSd := Lib.hid (fun W => sides_any a0 a1 a2 W)
            subst hAT
            go_wp2_with fail
            refine (HSd.out _).mono ?_
            rintro e W2 ⟨rfl, hW2⟩
            replace hW2 := ((Ext.refl wr).alloc _).trans hW2
            replace HOw := Lib.hid (own_ext HOw.out hW2)
            replace hx := hx.trans hW2
            clear c0 c1 c2 hW2 HSd
            go_wp2_with fail
            go_loopw [10, 57] (fun v j wy => ∃ (q : Nat) (A : Option Addr) (c : Nat), q ≤ 3 ∧ j = .int .i64 q ∧ v = .slice A (outN ps ts ss (3 * k + q)).length c ∧ Hid (wy.ownsRow WB.heap.size 39 2 (.slice A (outN ps ts ss (3 * k + q)).length c) (outN ps ts ss (3 * k + q)).length (cellsS (outN ps ts ss (3 * k + q)))) ∧ Ext WB wy) (fun _ j _ => 3 - (intOf j).toNat)
            case atStart => exact ⟨0, A, c, by omega, rfl, rfl, HOw, hx⟩
            case round =>
              clear HOw hx
              obtain ⟨q, A, c, hq, rfl, rfl, HOw, hx⟩ := hrel
              by_cases hq3 : q < 3
              · have hq3' : (q : Int) < 3 := by omega
                have he := HE.out q hq3
                have hca := HCa.out q hq3
                have hidx := fun W => idx33 a0 a1 a2 q hq3 W
                generalize sideT (a0, a1, a2) q = x at *
                obtain ⟨x0, x1, x2⟩ := x
                simp only at hidx he
                rw [he] at hca
                have HO := Lib.hid (show outN ps ts ss (3 * k + (q + 1)) = outN ps ts ss (3 * k + q) ++ candN ps ts ss (3 * k + q) from rfl)
                generalize candN ps ts ss (3 * k + q) = cl at *
                have hlen := outN_length ps ts ss (3 * k + q)
                generalize outN ps ts ss (3 * k + q) = ol at *
                have hk0 := hx.alloc (Obj.cells #[Value.int IntKind.i64 x0, Value.int IntKind.i64 x1, Value.int IntKind.i64 x2] 87)
                have hlk := HW.out _ (HMap.out _ hk0) x1 x0
                have hkx : Hid (_ → ∀ k', _) := Lib.hid (show True → ∀ k', whoE ts (x1, x0) = some k' → k' < ts.length from fun _ k' h => whoE_lt h)
                have hca1 : Hid (whoE ts (x1, x0) = none → cl = []) := Lib.hid hca.1
                have hca2 : Hid (∀ k', whoE ts (x1, x0) = some k' → cl = if k < k' ∧ (quadP ps ss (a0, a1, a2) (at3 ts k')).isSome then [((k : Int), (k' : Int))] else []) := Lib.hid hca.2
                clear hca he
                generalize whoE ts (x1, x0) = who at *
                cases who with
                | none =>
                  have hcl := hca1.out rfl
                  clear hca1 hca2 hkx
                  subst hcl
                  simp only [Option.getD_none, Option.isSome_none] at hlk
                  have ho2 := own_ext HOw.out ((Ext.refl wr).alloc (Obj.cells #[Value.int IntKind.i64 x0, Value.int IntKind.i64 x1, Value.int IntKind.i64 x2] 87))
                  replace HOw := Lib.hid ho2
                  clear ho2
                  go_wp2_with fail
                  go_roundw
                  case rel => exact ⟨q + 1, A, c, by omega, by go_num, by rw [HO.out, List.append_nil], by rw [HO.out, List.append_nil]; exact HOw, hk0⟩
                  case measure => simp [intOf]; omega
                | some k' =>
                  have hk'l := hkx.out trivial k' rfl
                  have hcl := hca2.out k' rfl
                  clear hca1 hca2 hkx
                  simp only [Option.getD_some, Option.isSome_some] at hlk
                  have ho2 := own_ext HOw.out ((Ext.refl wr).alloc (Obj.cells #[Value.int IntKind.i64 x0, Value.int IntKind.i64 x1, Value.int IntKind.i64 x2] 87))
                  replace HOw := Lib.hid ho2
                  clear ho2
                  by_cases hkk : k < k'
                  · have hd1 : ¬ (k' : Int) ≤ (k : Int) := by omega
                    have hd2 : decide ((k' : Int) ≤ (k : Int)) = false := by simpa using hkk
                    simp only [hkk, true_and] at hcl
                    have HQ1 := Lib.hid (fun W2 h => HQ.out k' hk'l W2 h)
                    clear HQ
                    generalize quadP ps ss (a0, a1, a2) (at3 ts k') = qr at *
                    go_upto_region 23 with fail
                    refine wp_world (fun W4 => (Ext WB W4 ∧ Hid (W4.ownsRow WB.heap.size 39 2 (.slice A ol.length c) ol.length (cellsS ol))) ∧ W4.cell? ⟨B0, 0, none⟩ = some (.slice AP ps.length cp) ∧ W4.cell? ⟨B0, 1, none⟩ = some (.slice (some ⟨b, o, none⟩) ts.length ct) ∧ W4.cell? ⟨B0, 2, none⟩ = some (.slice AS ss.length cs))
                      ⟨⟨hk0, HOw⟩, hk0.cell m0, hk0.cell m1, hk0.cell m2⟩ ?_
                    clear HOw hk0 hlk
                    rintro W4 ⟨⟨hx4, HOw⟩, n0, n1, n2⟩
                    go_wp2_with fail
                    refine (HQ1.out _ hx4).mono ?_
                    rintro e W5 ⟨hres, hW5⟩
                    obtain ⟨Aq, nq, cq, rfl, -⟩ := hres.tuple
                    clear hres n0 n1 n2
                    replace HOw := Lib.hid (own_ext HOw.out hW5)
                    replace hx4 := hx4.trans hW5
                    clear hW5 HQ1
                    cases hqs : qr.isSome with
                    | false =>
                      rw [hqs] at hcl
                      have hcl' : cl = [] := by simpa using hcl
                      subst hcl'
                      clear hqs hcl
                      go_wp2_with fail
                      go_roundw
                      case rel => exact ⟨q + 1, A, c, by omega, by go_num, by rw [HO.out, List.append_nil], by rw [HO.out, List.append_nil]; exact HOw, hx4⟩
                      case measure => simp [intOf]; omega
                    | true =>
                      rw [hqs] at hcl
                      have hcl' : cl = [((k : Int), (k' : Int))] := by simpa using hcl
                      subst hcl'
                      clear hqs hcl
                      have hx5 := hx4.alloc (Obj.cells #[Value.int IntKind.i64 k, Value.int IntKind.i64 k'] 39)
                      obtain ⟨A5, c5, w5, hr5, ho5, hg5⟩ := append_run 29 Try.underlying29 infoSeg rfl (by omega) (own_ext HOw.out ((Ext.refl W5).alloc (Obj.cells #[Value.int IntKind.i64 k, Value.int IntKind.i64 k'] 39))) hx5.size ⟨W5.heap.size, 0, none⟩ 1 1 [.int .i64 k, .int .i64 k'] rfl (by
                        intro j u hu
                        match j, hu with
                        | 0, hu => simp at hu; subst hu; simp [go_sem]
                        | 1, hu => simp at hu; subst hu; simp [go_sem]
                        | n + 2, hu => simp at hu) (by intro u hu; simp at hu; rcases hu with rfl | rfl <;> rfl) (by omega) (by omega)
                      have hlt5 := (own_ext HOw.out ((Ext.refl W5).alloc (Obj.cells #[Value.int IntKind.i64 k, Value.int IntKind.i64 k'] 39))).lt
                      have HO5 := Lib.hid ho5
                      have HG5 := Lib.hid (hx5.grown hg5 (fun r hr => (hlt5 r hr).1))
                      clear ho5 hg5 hlt5
                      go_wp2_with (at_builtin; refine wpList_append_eq rfl _ _ _ _ rfl rfl rfl hr5 ?_)
                      go_roundw
                      case rel => exact ⟨q + 1, A5, c5, by omega, by go_num, by rw [HO.out]; simp, by rw [HO.out, cellsS_append, List.length_append]; exact HO5, HG5.out⟩
                      case measure => simp [intOf]; omega
                  · have hd1 : (k' : Int) ≤ (k : Int) := by omega
                    rw [if_neg (fun h => hkk h.1)] at hcl
                    subst hcl
                    go_wp2_with fail
                    go_roundw
                    case rel => exact ⟨q + 1, A, c, by omega, by go_num, by rw [HO.out, List.append_nil], by rw [HO.out, List.append_nil]; exact HOw, hk0⟩
                    case measure => simp [intOf]; omega
              · have hq3' : ¬ (q : Int) < 3 := by omega
                have hq4 : q = 3 := by omega
                subst hq4
                go_wp2_with fail
                go_roundw
                case rel => exact ⟨k + 1, A, c, by omega, by go_num, by rw [show 3 * (k + 1) = 3 * k + 3 by omega], by rw [show 3 * (k + 1) = 3 * k + 3 by omega]; exact HOw, hx⟩
                case measure => simp [intOf]; omega
          · have hlt1 : ¬ (k : Int) < (ts.length : Int) := by omega
            have hkl : k = ts.length := by omega
            subst hkl
            go_wp2_with fail
            have hlen := outN_length ps ts ss (3 * ts.length)
            have hds : Hid (∀ j, j + 1 < (sortS (outN ps ts ss (3 * ts.length))).length → at2 (sortS (outN ps ts ss (3 * ts.length))) (j + 1) ≠ at2 (sortS (outN ps ts ss (3 * ts.length))) j) := Lib.hid (sortS_ne (outN_nodup ps ts ss _))
            have hsl : (sortS (outN ps ts ss (3 * ts.length))).length = (outN ps ts ss (3 * ts.length)).length := by unfold sortS; simp
            have HSF := Lib.hid (fun A c w0 w hx hown => sortSeg_any A c 39 (outN ps ts ss (3 * ts.length)) w0 w hx hown (by omega))
            have HCo := Lib.hid (fun A c W h => compact_any A c (sortS (outN ps ts ss (3 * ts.length))) W (by omega) h hds.out)
            rw [hsl] at HCo
            generalize sortS (outN ps ts ss (3 * ts.length)) = sl at *
            generalize outN ps ts ss (3 * ts.length) = ol at *
            refine (HSF.out A c WB wr hx HOw.out).mono ?_
            rintro e W5 ⟨rfl, hx5, hrd⟩
            have HRd := Lib.hid hrd
            clear hrd
            go_wp2_with fail
            refine (HCo.out _ _ _ HRd.out).mono ?_
            rintro e W6 ⟨rfl, hx6⟩
            go_wp2_with fail
            refine bodyPost_ret (v := .tuple #[.slice A ol.length c, .int .i64 0]) (by simp [results, Try.results26, go_sem, *]) rfl ⟨?_, hW.trans (hx5.trans hx6)⟩
            rw [HR.out]
            exact ⟨A, c, rfl, HRd.out.ext hx6⟩
  · have HR : Hid (∀ w' e, PairsRes ps ts ss w' e = (e = .returned (.tuple #[.slice none 0 0, .int .i64 (chkI ps ts ss)]))) := Lib.hid (fun w' e => by unfold PairsRes; simp [hck])
    have hne : (chkI ps ts ss != 0) = true := by simpa using hck
    clear hck
    generalize chkI ps ts ss = ck at *
    go_enter Try.func26, Try.ntmps26
    go_upto_region 1 with fail
    generalize hB0 : w.heap.size = B0
    refine wp_world (fun W1 => Ext w W1 ∧ W1.cell? ⟨B0, 0, none⟩ = some (.slice AP ps.length cp) ∧ W1.cell? ⟨B0, 1, none⟩ = some (.slice AT ts.length ct) ∧ W1.cell? ⟨B0, 2, none⟩ = some (.slice AS ss.length cs))
      ⟨(Ext.refl w).alloc _, by subst hB0; simp [go_sem], by subst hB0; simp [go_sem], by subst hB0; simp [go_sem]⟩ ?_
    clear hB0
    rintro W ⟨hW, m0, m1, m2⟩
    have HM1 := Lib.hid (show Mesh W AP AT AS ps ts ss from ⟨HM.out.1.ext hW, HM.out.2.1.ext hW, HM.out.2.2.1.ext hW, HM.out.2.2.2⟩)
    go_wp2_with (go_at_call 43; refine (HCk.out _ HM1.out).mono ?_; rintro e W1 ⟨rfl, hW1⟩)
    refine bodyPost_ret (v := .tuple #[.slice none 0 0, .int .i64 ck]) (by simp [results, Try.results26, go_sem, *]) rfl ⟨?_, hW.trans hW1⟩
    rw [HR.out]
end Go.Proofs.Ytagofpmcbbkmgaa
