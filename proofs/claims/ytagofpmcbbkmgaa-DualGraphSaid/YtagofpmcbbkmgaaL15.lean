/- Package dual: Quad. -/
import Derived.Test.YtagofpmcbbkmgaaL14
namespace Go.Proofs.Ytagofpmcbbkmgaa
open Go.RowKit

theorem chk_check {ps : List (Int × Int)} {ts : List (Int × Int × Int)} {ss : List (Int × Int)} (h : chkI ps ts ss = 0) : checkB ps ts ss = true := by
  unfold chkI at h
  cases hc : checkB ps ts ss with
  | true => rfl
  | false => rw [hc] at h; simp at h
theorem triP_in {ps : List (Int × Int)} {a b c : Int} {t : Int × Int × Int} (h : triP ps a b c = some t) : inT ps.length (a, b, c) := by
  unfold triP at h
  split at h
  · rename_i hr
    simp only [inR, Bool.and_eq_true, decide_eq_true_eq] at hr
    exact ⟨hr.1.1, hr.1.2, hr.2⟩
  · cases h
theorem chk_inT {ps : List (Int × Int)} {ts : List (Int × Int × Int)} {ss : List (Int × Int)} (h : chkI ps ts ss = 0) : ∀ j, j < ts.length → inT ps.length (at3 ts j) := by
  intro j hj
  have hc := chk_check h
  unfold checkB at hc
  simp only [Bool.and_eq_true] at hc
  have h1 := List.all_eq_true.1 hc.1.1.1 j (List.mem_range.2 hj)
  unfold okT at h1
  simp only [Bool.and_eq_true] at h1
  exact triP_in (eq_of_beq h1.1)

/-- dual.Quad -/
def QuadP (ps : List (Int × Int)) (ts : List (Int × Int × Int)) (ss : List (Int × Int)) (i k : Int) : Option (List Int) :=
  if chkI ps ts ss = 0 ∧ (0 ≤ i ∧ i < ts.length) ∧ (0 ≤ k ∧ k < ts.length) then quadP ps ss (at3 ts i.toNat) (at3 ts k.toNat) else none

theorem QuadRes.base {w0 w1 w' : World} {e : Ending} {r : Option (List Int)} (h : QuadRes w1 w' e r) (hx : w0.heap.size ≤ w1.heap.size) : QuadRes w0 w' e r := by
  cases r with
  | none => exact h
  | some l => obtain ⟨A, c, he, ho⟩ := h; exact ⟨A, c, he, own_base_le ho hx⟩
/-- Both forms in one. -/
theorem QuadRes.tuple {w0 w' : World} {e : Ending} {r : Option (List Int)} (h : QuadRes w0 w' e r) : ∃ A n c, e = .returned (.tuple #[.slice A n c, .bool r.isSome]) ∧ QuadRes w0 w' (.returned (.tuple #[.slice A n c, .bool r.isSome])) r := by
  cases r with
  | none => exact ⟨none, 0, 0, h, rfl⟩
  | some l => obtain ⟨A, c, he, ho⟩ := h; exact ⟨A, 4, c, he, A, c, rfl, ho⟩

set_option maxHeartbeats 4000000 in
set_option maxRecDepth 100000 in
theorem Quad_any (AP AT AS : Option Addr) (cp ct cs : Nat) (ps : List (Int × Int)) (ts : List (Int × Int × Int)) (ss : List (Int × Int)) (i k : Int) (w : World) (hM : Mesh w AP AT AS ps ts ss) :
    Calls Try.prog 19 #[.agg #[.slice AP ps.length cp, .slice AT ts.length ct, .slice AS ss.length cs], .int .i64 i, .int .i64 k] w fun e w' => QuadRes w w' e (QuadP ps ts ss i k) ∧ Ext w w' := by
  have HM := Lib.hid hM
  have HCk := Lib.hid (fun W h => check_any AP AT AS cp ct cs ps ts ss W h)
  have HIn := Lib.hid (chk_inT (ps := ps) (ts := ts) (ss := ss))
  have hlt := hM.2.2.2.2.1
  clear hM
  unfold QuadP
  generalize chkI ps ts ss = chk at *
  have HB := Lib.hid (show (chk = 0 ∧ (0 ≤ i ∧ i < (ts.length : Int)) ∧ (0 ≤ k ∧ k < (ts.length : Int))) ↔ (!(chk != 0) && !decide (i < 0) && !decide ((ts.length : Int) ≤ i) && !decide (k < 0) && !decide ((ts.length : Int) ≤ k)) = true by simp; omega)
  generalize hb0 : (chk != 0) = c0 at *
  generalize hb1 : decide (i < 0) = c1 at *
  generalize hb2 : decide ((ts.length : Int) ≤ i) = c2 at *
  generalize hb3 : decide (k < 0) = c3 at *
  generalize hb4 : decide ((ts.length : Int) ≤ k) = c4 at *
  generalize hres : (if chk = 0 ∧ (0 ≤ i ∧ i < (ts.length : Int)) ∧ (0 ≤ k ∧ k < (ts.length : Int)) then quadP ps ss (at3 ts i.toNat) (at3 ts k.toNat) else none) = res
  have HQ := Lib.hid (show (!c0 && !c1 && !c2 && !c3 && !c4) = true → ∀ W, Mesh W AP AT AS ps ts ss → Calls Try.prog 44 #[.agg #[.slice AP ps.length cp, .slice AT ts.length ct, .slice AS ss.length cs], .int .i64 i, .int .i64 k] W fun e w' => QuadRes W w' e res ∧ Ext W w' by
    intro h W hW
    have h1 := HB.out.2 h
    rw [if_pos h1] at hres
    have := quad_any AP AT AS cp ct cs ps ts ss i.toNat k.toNat W hW (by omega) (by omega) (HIn.out h1.1)
    rw [show ((i.toNat : Nat) : Int) = i by omega, show ((k.toNat : Nat) : Int) = k by omega, hres] at this
    exact this)
  have HN := Lib.hid (show (!c0 && !c1 && !c2 && !c3 && !c4) = false → res = none by
    intro h
    rw [if_neg (fun h1 => by rw [HB.out.1 h1] at h; cases h)] at hres
    exact hres.symm)
  clear hres HB HIn
  go_enter Try.func19, Try.ntmps19
  go_upto_region 1 with fail
  generalize hB0 : w.heap.size = B0
  refine wp_world (fun W1 => Ext w W1 ∧ W1.cell? ⟨B0, 0, none⟩ = some (.slice AP ps.length cp) ∧ W1.cell? ⟨B0, 1, none⟩ = some (.slice AT ts.length ct) ∧ W1.cell? ⟨B0, 2, none⟩ = some (.slice AS ss.length cs))
    ⟨(Ext.refl w).alloc _, by subst hB0; simp [go_sem], by subst hB0; simp [go_sem], by subst hB0; simp [go_sem]⟩ ?_
  clear hB0
  rintro W ⟨hW, e0, e1, e2⟩
  have HM1 := Lib.hid (fun W1 (h : Ext W W1) => (show Mesh W1 AP AT AS ps ts ss from ⟨HM.out.1.ext (hW.trans h), HM.out.2.1.ext (hW.trans h), HM.out.2.2.1.ext (hW.trans h), HM.out.2.2.2⟩))
  clear HM
  go_cut [32] (fun c wx => c = .bool (!(!c0 && !c1 && !c2 && !c3 && !c4)) ∧ Ext W wx)
  case first =>
    have HX := Lib.hid (fun W1 => HCk.out W1)
    clear HQ HN HCk
    cases c0
    · cases c1
      · cases c2
        · cases c3
          · cases c4
            · go_wp2_with (go_at_call 43; refine (HX.out _ (HM1.out _ (Ext.refl _))).mono ?_; rintro e W1 ⟨rfl, hW1⟩; have g1 := hW1.cell e1)
              go_meet
              exact ⟨rfl, hW1⟩
            · go_wp2_with (go_at_call 43; refine (HX.out _ (HM1.out _ (Ext.refl _))).mono ?_; rintro e W1 ⟨rfl, hW1⟩; have g1 := hW1.cell e1)
              go_meet
              exact ⟨rfl, hW1⟩
          · go_wp2_with (go_at_call 43; refine (HX.out _ (HM1.out _ (Ext.refl _))).mono ?_; rintro e W1 ⟨rfl, hW1⟩; have g1 := hW1.cell e1)
            go_meet
            exact ⟨rfl, hW1⟩
        · go_wp2_with (go_at_call 43; refine (HX.out _ (HM1.out _ (Ext.refl _))).mono ?_; rintro e W1 ⟨rfl, hW1⟩; have g1 := hW1.cell e1)
          go_meet
          exact ⟨rfl, hW1⟩
      · go_wp2_with (go_at_call 43; refine (HX.out _ (HM1.out _ (Ext.refl _))).mono ?_; rintro e W1 ⟨rfl, hW1⟩; have g1 := hW1.cell e1)
        go_meet
        exact ⟨rfl, hW1⟩
    · go_wp2_with (go_at_call 43; refine (HX.out _ (HM1.out _ (Ext.refl _))).mono ?_; rintro e W1 ⟨rfl, hW1⟩; have g1 := hW1.cell e1)
      go_meet
      exact ⟨rfl, hW1⟩
  case rest =>
    obtain ⟨rfl, hWc⟩ := hcut
    replace e0 := hWc.cell e0
    replace e1 := hWc.cell e1
    replace e2 := hWc.cell e2
    have HM2 := Lib.hid (HM1.out _ hWc)
    replace hW := hW.trans hWc
    clear hWc HM1 HCk hb0 hb1 hb2 hb3 hb4
    generalize (!c0 && !c1 && !c2 && !c3 && !c4) = cc at *
    cases cc with
    | false =>
      have hn := HN.out rfl
      clear HN HQ
      subst hn
      go_wp2_with fail
      exact bodyPost_ret (v := .tuple #[.slice none 0 0, .bool false]) (by simp [results, Try.results19, go_sem, *]) rfl ⟨rfl, hW⟩
    | true =>
      have HQ1 := Lib.hid (HQ.out rfl wc HM2.out)
      clear HN HQ HM2
      go_wp2_with fail
      refine HQ1.out.mono ?_
      rintro e W1 ⟨hres, hW1⟩
      obtain ⟨A, n, c, rfl, hr⟩ := hres.tuple
      clear hres
      go_wp2_with fail
      exact bodyPost_ret (v := .tuple #[.slice A n c, .bool res.isSome]) (by simp [results, Try.results19, go_sem, *]) rfl ⟨hr.base hW.size, hW.trans hW1⟩
end Go.Proofs.Ytagofpmcbbkmgaa
