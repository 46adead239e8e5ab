/- Package pred: Convex. -/
import Derived.Test.YtagofpmcbbkmgaaL6
namespace Go.Proofs.Ytagofpmcbbkmgaa
open Go.RowKit

def at2 (l : List (Int × Int)) (i : Nat) : Int × Int := l.getD i (0, 0)
/-- do three turn left? -/
def leftB (l : List (Int × Int)) (j k i : Nat) : Bool := orientP (at2 l j) (at2 l k) (at2 l i) == 1
def cvxK (l : List (Int × Int)) (i k : Nat) : Bool := (List.range k).all fun j => leftB l j k i
def cvxI (l : List (Int × Int)) (i : Nat) : Bool := (List.range i).all fun k => cvxK l i k
def convexB (l : List (Int × Int)) : Bool := (List.range l.length).all (fun i => cvxI l i) && decide (2 < l.length)

theorem Rd2.open_ {w : World} {A : Option Addr} {xs : List (Int × Int)} (h : Rd2 w A xs) (h0 : 0 < xs.length) : ∃ b o, A = some ⟨b, o, none⟩ ∧ ∀ j, j < xs.length → w.cell? ⟨b, o + j * 2, none⟩ = some (.int .i64 (at2 xs j).1) ∧ w.cell? ⟨b, o + j * 2 + 1, none⟩ = some (.int .i64 (at2 xs j).2) := by
  rcases h with rfl | ⟨b, o, e, hc⟩
  · simp at h0
  · refine ⟨b, o, e, fun j hj => ?_⟩
    have := hc j _ (List.getElem?_eq_getElem hj)
    simpa [at2, List.getD, List.getElem?_eq_getElem hj] using this

theorem range_all_succ (f : Nat → Bool) (n : Nat) : (List.range (n + 1)).all f = ((List.range n).all f && f n) := by
  rw [List.range_succ, List.all_append]; simp
theorem range_all_false (f : Nat → Bool) (n k : Nat) (hk : k < n) (h : f k = false) : (List.range n).all f = false := by
  rw [List.all_eq_false]; exact ⟨k, List.mem_range.2 hk, by simp [h]⟩

theorem convex_false (l : List (Int × Int)) (j k i : Nat) (hj : j < k) (hk : k < i) (hi : i < l.length) (h : leftB l j k i = false) : convexB l = false := by
  have h1 : cvxK l i k = false := range_all_false _ _ j hj h
  have h2 : cvxI l i = false := range_all_false _ _ k hk h1
  have h3 := range_all_false (fun i => cvxI l i) l.length i hi h2
  unfold convexB
  rw [h3]; rfl

set_option maxHeartbeats 2000000 in
set_option maxRecDepth 100000 in
theorem convex_any (A : Option Addr) (c : Nat) (l : List (Int × Int)) (w : World) (hl : l.length ≤ 1000000) (hR : Rd2 w A l) :
    Calls Try.prog 35 #[.slice A l.length c] w fun e w' => e = .returned (.bool (convexB l)) ∧ Ext w w' := by
  go_enter Try.func35, Try.ntmps35
  go_wp2_with fail
  go_loopw [8] (fun i wr => ∃ ni : Nat, ni ≤ l.length ∧ i = .int .i64 ni ∧ Hid ((List.range ni).all (fun i => cvxI l i) = true) ∧ Ext w wr) (fun i _ => l.length - (intOf i).toNat)
  case atStart => exact ⟨0, Nat.zero_le _, rfl, rfl, Ext.refl _⟩
  case round =>
    obtain ⟨ni, hi, rfl, HI, hx⟩ := hrel
    by_cases hlti : ni < l.length
    · go_wp2_with fail
      obtain ⟨wo, rfl⟩ : ∃ wo : World, wo = wr := ⟨_, rfl⟩
      go_loopw [12] (fun k wr => ∃ nk : Nat, nk ≤ ni ∧ k = .int .i64 nk ∧ Hid ((List.range nk).all (fun k => cvxK l ni k) = true) ∧ Ext w wr) (fun k _ => ni - (intOf k).toNat)
      case atStart => exact ⟨0, Nat.zero_le _, rfl, rfl, hx⟩
      case round =>
        obtain ⟨nk, hk, rfl, HK, hx2⟩ := hrel
        by_cases hltk : nk < ni
        · go_wp2_with fail
          obtain ⟨wo2, rfl⟩ : ∃ wo : World, wo = wr := ⟨_, rfl⟩
          go_loopw [16] (fun j wr => ∃ nj : Nat, nj ≤ nk ∧ j = .int .i64 nj ∧ Hid ((List.range nj).all (fun j => leftB l j nk ni) = true) ∧ Ext w wr) (fun j _ => nk - (intOf j).toNat)
          case atStart => exact ⟨0, Nat.zero_le _, rfl, rfl, hx2⟩
          case round =>
            obtain ⟨nj, hj, rfl, HJ, hx3⟩ := hrel
            by_cases hltj : nj < nk
            · go_wp2_with fail
              obtain ⟨b, o, rfl, hc⟩ := (hR.ext hx3).open_ (by omega)
              have hcf := convex_false l nj nk ni hltj hltk hlti
              unfold leftB at hcf
              have hjt : (orientP (at2 l nj) (at2 l nk) (at2 l ni) == 1) = true → (List.range (nj + 1)).all (fun j => leftB l j nk ni) = true := fun h => by
                rw [range_all_succ, HJ.out]; exact h
              obtain ⟨c0, c1⟩ := hc nj (by omega)
              obtain ⟨c2, c3⟩ := hc nk (by omega)
              obtain ⟨c4, c5⟩ := hc ni (by omega)
              clear hc
              generalize at2 l nj = pj at *
              generalize at2 l nk = pk at *
              generalize at2 l ni = pi_ at *
              obtain ⟨jx, jy⟩ := pj
              obtain ⟨kx, ky⟩ := pk
              obtain ⟨ix, iy⟩ := pi_
              have HO := Lib.hid (fun W => orient_any jx jy kx ky ix iy W)
              have x0 := cell_ext c0
              have x1 := cell_ext c1
              have x2 := cell_ext c2
              have x3 := cell_ext c3
              have x4 := cell_ext c4
              have x5 := cell_ext c5
              generalize orientP (jx, jy) (kx, ky) (ix, iy) = r at *
              have HCF := Lib.hid hcf
              have HJT := Lib.hid hjt
              clear hcf hjt c0 c1 c2 c3 c4 c5
              have b0 : (nj : Int) < (l.length : Int) := by omega
              have b1 : (nk : Int) < (l.length : Int) := by omega
              have b2 : (ni : Int) < (l.length : Int) := by omega
              simp only at x0 x1 x2 x3 x4 x5
              refine wp_region_ext (by kernel_rfl) (by kernel_rfl) ?_
              repeat (go_big_quiet_step ((go_at_call 61; exact ext_call (HO.out _))))
              refine wpQuiet_nil ?_
              intro W1 hW1_
              have hW1 := ext_of hW1_
              clear hW1_
              clear x0 x1 x2 x3 x4 x5
              cases hr : r == 1
              · have hr' := HCF.out hr
                have HR := Lib.hid hr'
                clear hr'
                go_wp2
                go_ret
                exact ⟨ret_bool HR.out.symm, hx3.trans hW1⟩
              · have HR := Lib.hid (HJT.out hr)
                go_wp2
                go_roundw
                case rel => exact ⟨nj + 1, by omega, by go_num, HR, hx3.trans hW1⟩
                case measure => simp [intOf]; omega
            · go_wp2_with fail
              go_roundw
              case rel => exact ⟨nk + 1, by omega, by go_num, by
                have e : nj = nk := by omega
                subst e
                show (List.range (nj + 1)).all (fun k => cvxK l ni k) = true
                rw [range_all_succ, HK.out]
                exact HJ.out, hx3⟩
              case measure => simp [intOf]; omega
        · go_wp2_with fail
          go_roundw
          case rel => exact ⟨ni + 1, by omega, by go_num, by
            have e : nk = ni := by omega
            subst e
            show (List.range (nk + 1)).all (fun i => cvxI l i) = true
            rw [range_all_succ, HI.out]
            exact HK.out, hx2⟩
          case measure => simp [intOf]; omega
    · go_wp2_with fail
      go_ret
      have e : ni = l.length := by omega
      subst e
      exact ⟨ret_bool (by unfold convexB; rw [HI.out]; simp; omega), hx⟩
end Go.Proofs.Ytagofpmcbbkmgaa
