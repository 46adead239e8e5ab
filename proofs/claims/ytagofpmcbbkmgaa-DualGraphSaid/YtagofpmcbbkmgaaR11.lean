/- parquetref01: Times. -/
import Derived.Test.YtagofpmcbbkmgaaR10
namespace Go.Proofs.Ytagofpmcbbkmgaa
open Go.RowKit Go.Sort

/-- A row of numbers of the call's own, at the head of a block. -/
def Row1 (w : World) (g : Nat) (d : List Int) : Prop := ∀ j, j < d.length → w.cell? ⟨g, j, none⟩ = some (.int .i64 (at1 d j)) ∧ w.frozen? ⟨g, j, none⟩ = false
theorem Row1.ext {w w' : World} {g : Nat} {d : List Int} (h : Row1 w g d) (hx : Ext w w') : Row1 w' g d := fun j hj => ⟨hx.cell (h j hj).1, hx.frozen (h j hj).1 (h j hj).2⟩
theorem at1_set (d : List Int) (t j : Nat) (y : Int) : at1 (d.set t y) j = if j = t ∧ t < d.length then y else at1 d j := by
  unfold at1
  rw [List.getD_eq_getElem?_getD, List.getD_eq_getElem?_getD, List.getElem?_set]
  by_cases h : t = j
  · subst h
    by_cases hl : t < d.length
    · simp [hl]
    · simp [hl, List.getElem?_eq_none (Nat.le_of_not_lt hl)]
  · rw [if_neg h, if_neg (fun hh => h hh.1.symm)]
theorem Row1.set_ {w : World} {g : Nat} {d : List Int} (h : Row1 w g d) (t : Nat) (y : Int) (ht : t < d.length) : Row1 (w.setCell ⟨g, t, none⟩ (.int .i64 y)) g (d.set t y) := by
  intro j hj
  rw [List.length_set] at hj
  rw [at1_set]
  by_cases e : j = t
  · subst e
    simp only [true_and, ht, if_true]
    have := h j hj
    constructor
    · simp [go_sem, this.1]
    · simpa [go_sem] using this.2
  · rw [if_neg (fun hh => e hh.1)]
    have := h j hj
    constructor
    · rw [World.cell?_setCell_other _ _ _ _ (by simp; first | done | exact fun h => e h.symm)]; exact this.1
    · simpa [go_sem] using this.2
theorem Row1.rd1 {w : World} {g : Nat} {d : List Int} (h : Row1 w g d) : Rd1 w (some ⟨g, 0, none⟩) d := by
  refine Or.inr ⟨g, 0, rfl, fun j x hj => ?_⟩
  have hjl : j < d.length := (List.getElem?_eq_some_iff.1 hj).1
  have := (h j hjl).1
  rw [Nat.zero_add, this]
  simp [at1, List.getD, hj]
theorem val_set (d : List Int) (t : Nat) (y : Int) (h : t < d.length) : val (d.set t y) = val d + 65536 ^ t * (y - at1 d t) := by
  induction d generalizing t with
  | nil => simp at h
  | cons x d ih =>
    cases t with
    | zero => simp [val, at1]; omega
    | succ t =>
      have := ih t (by simpa using h)
      simp only [List.set_cons_succ, val, this]
      have e : at1 (x :: d) (t + 1) = at1 d t := by simp [at1]
      rw [e, Int.pow_succ, Int.mul_add, ← Int.mul_assoc, Int.mul_comm 65536 (65536 ^ t)]
      omega
theorem Dig.set_ {d : List Int} (h : Dig d) (t : Nat) (y : Int) (hy : 0 ≤ y ∧ y < 65536) : Dig (d.set t y) := fun x hx => by
  rcases List.mem_or_eq_of_mem_set hx with h1 | h1
  · exact h x h1
  · rw [h1]; exact hy
theorem make_row (n : Nat) (w : World) (hn : n ≤ 100000) :
    ∃ w', (Instr.makeSlice 24 (.int .i64 (n : Int)) (.int .i64 (n : Int))).run Try.prog w = .ok (.slice (some ⟨w.heap.size, 0, none⟩) n n) w' ∧ Row1 w' w.heap.size (List.replicate n 0) ∧ Ext w w' ∧ w'.heap.size = w.heap.size + 1 := by
  cases hi : Try.prog.info? 3 with
  | none => have := infoInt; rw [hi] at this; cases this
  | some i =>
    have hinfo := infoInt
    rw [hi] at hinfo
    simp only [Option.map_some, Option.some.injEq, Prod.mk.injEq] at hinfo
    obtain ⟨hz, hs, hy⟩ := hinfo
    refine ⟨_, run_makeSlice w 24 3 i _ Try.underlying24 hi hz .i64 .i64 n n (by omega) (Int.le_refl _) (by rw [hs]; omega) (by rw [hy]; omega) (by omega), ?_, (Ext.refl w).alloc _, by simp⟩
    intro j hj
    rw [List.length_replicate] at hj
    have h1 : at1 (List.replicate n (0 : Int)) j = 0 := by simp [at1, List.getD, List.getElem?_replicate, hj]
    have h2 : (madeCells (Value.int .i64 0).cells ((n : Int).toNat * i.size))[j]? = some (.int .i64 0) := by
      rw [hs, Nat.mul_one, Int.toNat_natCast, ← Array.getElem?_toList, show (Value.int IntKind.i64 0).cells = #[.int .i64 0] from rfl, toList_madeCells_one, List.getElem?_replicate, if_pos hj]
    rw [h1]
    refine ⟨cell_new w h2, ?_⟩
    simp [go_sem]
/-- one row of a product, as far as k -/
def rowT (a b : List Int) (i k : Nat) : Int := val (a.take i) * val b + 65536 ^ i * (at1 a i * val (b.take k))
theorem mul_step {a b d : List Int} {i k : Nat} {c : Int} (hik : i + k < d.length) (h : val d + 65536 ^ (i + k) * c = rowT a b i k) :
    val (d.set (i + k) ((at1 d (i + k) + at1 a i * at1 b k + c) % 65536)) + 65536 ^ (i + (k + 1)) * ((at1 d (i + k) + at1 a i * at1 b k + c) / 65536) = rowT a b i (k + 1) := by
  rw [val_set _ _ _ hik, show i + (k + 1) = (i + k) + 1 by omega, Int.pow_succ]
  generalize hx : at1 d (i + k) + at1 a i * at1 b k + c = x
  have h3 : x = x % 65536 + 65536 * (x / 65536) := (Int.emod_add_mul_ediv x 65536).symm
  have hT : rowT a b i (k + 1) = rowT a b i k + 65536 ^ (i + k) * (at1 a i * at1 b k) := by
    unfold rowT
    rw [val_take_succ, Int.pow_add, Int.mul_add (at1 a i), Int.mul_add, Int.add_assoc]
    congr 1
    congr 1
    rw [Int.mul_assoc, Int.mul_left_comm (at1 a i)]
  rw [hT, ← h]
  generalize (65536 : Int) ^ (i + k) = p
  have h4 : p * x = p * at1 d (i + k) + p * (at1 a i * at1 b k) + p * c := by rw [← hx, Int.mul_add, Int.mul_add]
  have h5 : p * x = p * (x % 65536) + p * 65536 * (x / 65536) := by
    conv => lhs; rw [h3]
    rw [Int.mul_add, Int.mul_assoc]
  rw [Int.mul_sub]
  omega
theorem row_end {a b : List Int} {i k : Nat} (hk : b.length ≤ k) : rowT a b i k = val (a.take (i + 1)) * val b := by
  unfold rowT
  rw [List.take_of_length_le hk, val_take_succ, Int.add_mul, Int.mul_assoc]
theorem row_carry {a b d : List Int} {i k : Nat} {c : Int} (hd : Dig d) (ha : Dig a) (hb : Dig b) (hk : k = b.length + 1) (h : val d + 65536 ^ (i + k) * c = rowT a b i k) : c ≤ 0 := by
  subst hk
  rw [row_end (by omega)] at h
  have h1 := val_nonneg d hd
  have h2 := val_lt (a.take (i + 1)) (ha.take _)
  have h2' := pow_mono (show (a.take (i + 1)).length ≤ i + 1 by simp; omega)
  have h3 := val_lt b hb
  have h4 := val_nonneg b hb
  have h5 := val_nonneg (a.take (i + 1)) (ha.take _)
  have h6 : val (a.take (i + 1)) * val b ≤ 65536 ^ (i + 1) * val b := Int.mul_le_mul_of_nonneg_right (by omega) h4
  have h7 : (65536 : Int) ^ (i + 1) * val b < 65536 ^ (i + 1) * 65536 ^ b.length := Int.mul_lt_mul_of_pos_left h3 (pow_pos _)
  rw [← Int.pow_add, show i + 1 + b.length = i + (b.length + 1) by omega] at h7
  have hp := pow_pos (i + (b.length + 1))
  generalize (65536 : Int) ^ (i + (b.length + 1)) = p at *
  rcases Int.lt_or_le 0 c with hc | hc
  · have : p * 1 ≤ p * c := Int.mul_le_mul_of_nonneg_left (by omega) (by omega)
    omega
  · exact hc
theorem prod_bd {x y : Int} (hx : 0 ≤ x ∧ x < 65536) (hy : 0 ≤ y ∧ y < 65536) : 0 ≤ x * y ∧ x * y ≤ 4294836225 := by
  constructor
  · exact Int.mul_nonneg hx.1 hy.1
  · have h1 : x * y ≤ 65535 * y := Int.mul_le_mul_of_nonneg_right (by omega) hy.1
    omega

set_option maxHeartbeats 4000000 in
set_option maxRecDepth 100000 in
theorem TimesA_any (m m' : Bool) (A B : Option Addr) (ca cb : Nat) (a b : List Int) (K : Nat) (w : World) (hK : K ≤ 1000) (hA : Rd1 w A a) (hB : Rd1 w B b) (da : Dig a) (db : Dig b) (la : a.length ≤ K) (lb : b.length ≤ K) :
    Calls Try.prog 76 #[.agg #[.bool m, .slice A a.length ca], .agg #[.bool m', .slice B b.length cb]] w (RetN w (if (m != m') then -(val a * val b) else val a * val b) (2 * K + 1)) := by
  unfold RetN
  generalize hz : (if (m != m') = true then -(val a * val b) else val a * val b) = z
  have HZ := Lib.hid hz
  clear hz
  have HDa := Lib.hid (show Dig a ∧ Dig b from ⟨da, db⟩)
  have HXY := Lib.hid (show Rd1 w A a ∧ Rd1 w B b from ⟨hA, hB⟩)
  clear da db hA hB
  go_enter Try.func76, Try.ntmps76
  go_upto_region 1 with fail
  generalize hB0 : w.heap.size = B0
  refine wp_world (fun W1 => (Ext w W1 ∧ w.heap.size ≤ B0 ∧ B0 + 2 < W1.heap.size) ∧ (W1.cell? ⟨B0, 0, none⟩ = some (.bool m) ∧ W1.cell? ⟨B0, 1, none⟩ = some (.slice A a.length ca)) ∧ (W1.cell? ⟨B0 + 1, 0, none⟩ = some (.bool m') ∧ W1.cell? ⟨B0 + 1, 1, none⟩ = some (.slice B b.length cb)) ∧
      (W1.cell? ⟨B0 + 1 + 1, 0, none⟩ = some (.bool false) ∧ W1.cell? ⟨B0 + 1 + 1, 1, none⟩ = some (.slice none 0 0)) ∧ W1.frozen? ⟨B0 + 1 + 1, 0, none⟩ = false ∧ W1.frozen? ⟨B0 + 1 + 1, 1, none⟩ = false)
    ⟨⟨(((Ext.refl w).alloc _).alloc _).alloc _, by omega, by subst hB0; simp⟩, ⟨by subst hB0; simp [go_sem], by subst hB0; simp [go_sem]⟩, ⟨by subst hB0; simp [go_sem], by subst hB0; simp [go_sem]⟩, ⟨by subst hB0; simp [go_sem], by subst hB0; simp [go_sem]⟩, by subst hB0; simp [go_sem], by subst hB0; simp [go_sem]⟩ ?_
  clear hB0
  rintro WB ⟨⟨hW, hB0, hB1⟩, ⟨p0, p1⟩, ⟨q0, q1⟩, ⟨r0, r1⟩, g0, g1⟩
  obtain ⟨W1, hmk, hrow, hx1, hz1⟩ := make_row (a.length + b.length + 1) WB (by omega)
  rw [show ((a.length + b.length + 1 : Nat) : Int) = (a.length : Int) + (b.length : Int) + 1 by omega] at hmk
  have HRow := Lib.hid hrow
  have HX1 := Lib.hid hx1
  clear hrow hx1 hz1
  go_upto_region 2 with fail
  clear hmk
  have HN := Lib.hid (show a.length + b.length + 1 = (List.replicate (a.length + b.length + 1) (0 : Int)).length by simp)
  have HD0 := Lib.hid (show Dig (List.replicate (a.length + b.length + 1) 0) ∧ val (List.replicate (a.length + b.length + 1) 0) = val (a.take 0) * val b from by
    generalize a.length + b.length + 1 = n
    refine ⟨fun x hx => by rw [List.eq_of_mem_replicate hx]; omega, ?_⟩
    simp only [List.take_zero, val, Int.zero_mul]
    induction n with
    | zero => rfl
    | succ n ih => rw [List.replicate_succ]; simp only [val, ih]; rfl)
  have hN1 : a.length + b.length < a.length + b.length + 1 := Nat.lt_succ_self _
  have hN2 : a.length + b.length + 1 ≤ 2 * K + 1 := by omega
  generalize List.replicate (a.length + b.length + 1) (0 : Int) = d0 at *
  generalize hg : WB.heap.size = g at *
  have HG := Lib.hid hg
  clear hg
  generalize a.length + b.length + 1 = N at *
  go_wp2_with fail
  go_loopw [6, 7, 8, 9] (fun iv _ _ _ wx => ∃ (i : Nat) (d : List Int), iv = .int .i64 i ∧ i ≤ a.length ∧ Hid (N = d.length ∧ Dig d ∧ val d = val (a.take i) * val b) ∧ Hid (Row1 wx g d) ∧ Ext WB wx) (fun iv _ _ _ _ => a.length - (intOf iv).toNat)
  case atStart => exact ⟨0, d0, rfl, Nat.zero_le _, Lib.hid ⟨HN.out, HD0.out⟩, HRow, HX1.out⟩
  case round =>
    clear HRow HX1 HN HD0
    obtain ⟨i, d, rfl, hi, HD, HRow, hx⟩ := hrel
    have P1 := hx.cell p1
    by_cases hlt : i < a.length
    · have hlt1 : (i : Int) < (a.length : Int) := by omega
      have HI0 := Lib.hid (show val d + 65536 ^ (i + 0) * 0 = rowT a b i 0 by rw [HD.out.2.2]; simp [rowT, val])
      go_wp2_with fail
      clear P1
      go_loopw [7, 8, 9] (fun cv kv _ wx => ∃ (k : Nat) (c : Int) (d : List Int), cv = .int .i64 c ∧ kv = .int .i64 k ∧ (0 ≤ c ∧ c ≤ 65535) ∧ (k ≤ b.length ∨ k = b.length + 1 ∧ c ≤ 0) ∧ Hid (N = d.length ∧ Dig d) ∧ Hid (val d + 65536 ^ (i + k) * c = rowT a b i k) ∧ Hid (Row1 wx g d) ∧ Ext WB wx) (fun _ kv _ _ => b.length + 1 - (intOf kv).toNat)
      case atStart => exact ⟨0, 0, d, rfl, rfl, by decide, Or.inl (Nat.zero_le _), Lib.hid ⟨HD.out.1, HD.out.2.1⟩, HI0, HRow, hx⟩
      case round =>
        clear HD HRow hx HI0
        obtain ⟨k, c, d, rfl, rfl, ⟨hc0, hc1⟩, hk, HD, HV, HRow, hx⟩ := hrel
        have P1 := hx.cell p1
        have Q1 := hx.cell q1
        go_upto_region 7 with fail
        go_cut [34] (fun gg wx => ∃ G : Bool, gg = .bool G ∧ Hid (G = true ↔ k < b.length ∨ 0 < c) ∧ wx = wr)
        case first =>
          by_cases h1 : k < b.length
          · have f1 : decide (k < b.length) = true := by simpa using h1
            have H1 := Lib.hid h1
            clear h1
            go_wp2_with fail
            go_meet
            exact ⟨true, rfl, Lib.hid ⟨fun _ => Or.inl H1.out, fun _ => rfl⟩, rfl⟩
          · have f1 : decide (k < b.length) = false := by simpa using h1
            have H1 := Lib.hid h1
            clear h1
            by_cases h3 : 0 < c
            · have f3 : decide (0 < c) = true := by simpa using h3
              have H3 := Lib.hid h3
              clear h3
              go_wp2_with fail
              go_meet
              exact ⟨true, rfl, Lib.hid ⟨fun _ => Or.inr H3.out, fun _ => rfl⟩, rfl⟩
            · have f3 : decide (0 < c) = false := by simpa using h3
              have H3 := Lib.hid h3
              clear h3
              go_wp2_with fail
              go_meet
              exact ⟨false, rfl, Lib.hid ⟨fun h => (by cases h), fun h => by have := H1.out; have := H3.out; omega⟩, rfl⟩
        case rest =>
          obtain ⟨G, rfl, HGo, rfl⟩ := hcut
          cases G
          case true =>
            have hk2 : k ≤ b.length := by have := HGo.out.1 rfl; omega
            clear HGo
            obtain ⟨b1, o1, rfl, hcs⟩ := (HXY.out.1.ext (hW.trans hx)).open_ (by omega)
            have x4 := cell_ext (hcs i hlt)
            clear hcs
            have hrw := HRow.out (i + k) (by have := HD.out.1; omega)
            have x5 := cell_ext hrw.1
            have HFz := Lib.hid hrw
            clear hrw
            have ha1 := dig_at1 HDa.out.1 i
            have hb1 := dig_at1 HDa.out.2 k
            have hd1 := dig_at1 HD.out.2 (i + k)
            have hpr := prod_bd ha1 hb1
            have HS := Lib.hid (mul_step (by have := HD.out.1; omega) HV.out)
            have HDg := Lib.hid (fun W h => digit_any B cb b k W (by omega) h)
            have HRY := Lib.hid (fun W (h : Ext wc W) => HXY.out.2.ext ((hW.trans hx).trans h))
            generalize at1 a i = xa at *
            generalize at1 b k = xb at *
            generalize at1 d (i + k) = xd at *
            have e1 : IntKind.i64.wrap (xa * xb) = xa * xb := IntWalk.i64_in _ (by omega)
            have e2 : IntKind.i64.wrap (xd + xa * xb) = xd + xa * xb := IntWalk.i64_in _ (by omega)
            have e3 : IntKind.i64.wrap (xd + xa * xb + c) = xd + xa * xb + c := IntWalk.i64_in _ (by omega)
            have e4 : IntKind.i64.wrap ((i : Int) + (k : Int)) = (i : Int) + (k : Int) := IntWalk.i64_in _ (by omega)
            have e5 : ((i : Int) + (k : Int)).toNat = i + k := by omega
            have e6 : 0 ≤ (i : Int) + (k : Int) := by omega
            have e7 : (i : Int) + (k : Int) < (N : Int) := by omega
            have x0 := cell_ext P1
            have x1 := cell_ext Q1
            go_wp2_with fail
            refine wp_region_ext (by kernel_rfl) (by kernel_rfl) ?_
            repeat (go_big_quiet_step (((go_at_call 47; with_reducible exact ext_call1 (HDg.out _ (HRY.out _ (ext_extW _ _ _)))))))
            refine wpQuiet_nil ?_
            intro W2 hW2_
            have hW2 := ext_of hW2_
            clear hW2_
            clear x0 x1 x4 x5 e1 e2 e3 HDg HRY P1 Q1
            have HRow2 := Lib.hid (HRow.out.ext hW2)
            replace hx := hx.trans hW2
            have n0 := hW2.cell HFz.out.1
            have n1 := hW2.frozen HFz.out.1 HFz.out.2
            clear hW2 HFz HRow
            have et : (xd + xa * xb + c).tmod 65536 = (xd + xa * xb + c) % 65536 := Int.tmod_eq_emod_of_nonneg (by omega)
            have eq : (xd + xa * xb + c).tdiv 65536 = (xd + xa * xb + c) / 65536 := Int.tdiv_eq_ediv_of_nonneg (by omega)
            have hr0 : 0 ≤ (xd + xa * xb + c) % 65536 := by omega
            have hr1 : (xd + xa * xb + c) % 65536 < 65536 := by omega
            have hd0 : 0 ≤ (xd + xa * xb + c) / 65536 ∧ (xd + xa * xb + c) / 65536 ≤ 65535 := by omega
            generalize xd + xa * xb + c = x at *
            generalize hr : x % 65536 = r at *
            generalize hd : x / 65536 = dd at *
            have HRow3 := Lib.hid (HRow2.out.set_ (i + k) r (by have := HD.out.1; omega))
            have HD3 := Lib.hid (show N = (d.set (i + k) r).length ∧ Dig (d.set (i + k) r) from ⟨by rw [List.length_set]; exact HD.out.1, HD.out.2.set_ _ _ ⟨hr0, hr1⟩⟩)
            have hlast : k + 1 ≤ b.length ∨ k + 1 = b.length + 1 ∧ dd ≤ 0 := by
              by_cases h : k = b.length
              · exact Or.inr ⟨by omega, row_carry HD3.out.2 HDa.out.1 HDa.out.2 (by omega : k + 1 = b.length + 1) HS.out⟩
              · exact Or.inl (by omega)
            have HX3 := Lib.hid (hx.setCell (p := ⟨g, i + k, none⟩) (Nat.le_of_eq HG.out) (.int .i64 r))
            clear hr hd hx HRow2 HD hpr ha1 hb1 hd1
            go_wp2_with fail
            go_roundw
            case rel => exact ⟨k + 1, dd, d.set (i + k) r, rfl, by go_num, hd0, hlast, HD3, HS, HRow3, HX3.out⟩
            case measure => simp [intOf]; omega
          case false =>
            have hkb : b.length ≤ k ∧ ¬ 0 < c := by
              refine ⟨?_, fun h => ?_⟩
              · by_cases h : k < b.length
                · have := HGo.out.2 (Or.inl h); cases this
                · omega
              · have := HGo.out.2 (Or.inr h); cases this
            have hc : c = 0 := by omega
            subst hc
            have HV2 := Lib.hid (show N = d.length ∧ Dig d ∧ val d = val (a.take (i + 1)) * val b from ⟨HD.out.1, HD.out.2, by have := HV.out; rw [row_end hkb.1, Int.mul_zero, Int.add_zero] at this; exact this⟩)
            clear HGo HV HD P1 Q1
            go_wp2_with fail
            go_roundw
            case rel => exact ⟨i + 1, d, by go_num, by omega, HV2, HRow, hx⟩
            case measure => simp [intOf]; omega
    · have hla2 : i = a.length := by omega
      subst hla2
      have hlt1 : ¬ (a.length : Int) < (a.length : Int) := by omega
      have hv : val d = val a * val b := by have := HD.out.2.2; rwa [List.take_length] at this
      have HC := Lib.hid (fun W h => (trim_any (m != m') (some ⟨g, 0, none⟩) N d (2 * K + 1) W (by omega) (by have := HD.out.1; omega) (by have := HD.out.1; omega) h HD.out.2.1).mono (R' := fun e w' => (∃ v', e = .returned v' ∧ NumR w' v' z (2 * K + 1)) ∧ Ext W w') fun e w' h' => by
        rw [hv, HZ.out] at h'
        exact h')
      have HNd := Lib.hid HD.out.1
      rw [← HNd.out] at HC
      have HR := Lib.hid HRow.out.rd1
      have P0 := hx.cell p0
      have Q0 := hx.cell q0
      rw [show (m != m') = !(m == m') from rfl] at HC
      clear hv HD HRow hlt hi
      go_wp2_with fail
      refine (HC.out _ HR.out).mono ?_
      rintro e W5 ⟨⟨v', rfl, hn⟩, hx5⟩
      have HNm := Lib.hid hn
      obtain ⟨m5, A6, c6, l', rfl, hrest⟩ := hn
      clear hrest
      replace hx := hx.trans hx5
      have q0' := hx.cell r0
      have q1' := hx.cell r1
      have q2 := hx.frozen r0 g0
      have q3 := hx.frozen r1 g1
      clear hx5 HC HR r0 r1 g0 g1 p0 p1 q0 q1 P0 P1 Q0
      go_wp2_with fail
      have hfin : Ext w ((W5.setCell ⟨B0 + 1 + 1, 0, none⟩ (.bool m5)).setCell ⟨B0 + 1 + 1, 1, none⟩ (.slice A6 l'.length c6)) := ((hW.trans hx).setCell (by simp; omega) _).setCell (by simp; omega) _
      exact bodyPost_ret (v := .agg #[.bool m5, .slice A6 l'.length c6]) (by simp [results, Try.results76, go_sem, *]) rfl ⟨⟨_, rfl, HNm.out.box q0' q1' _ _⟩, hfin⟩

theorem Times_any (v u : Value) (z1 z2 : Int) (K : Nat) (w : World) (hK : K ≤ 1000) (h1 : NumR w v z1 K) (h2 : NumR w u z2 K) :
    Calls Try.prog 76 #[v, u] w (RetN w (z1 * z2) (2 * K + 1)) := by
  obtain ⟨m, A, c, l, rfl, hr, hd, hc, hm, hz, hl⟩ := h1
  obtain ⟨m', A', c', l', rfl, hr', hd', hc', hm', hz', hl'⟩ := h2
  have := TimesA_any m m' A A' c c' l l' K w hK hr hr' hd hd' hl hl'
  have e : z1 * z2 = (if (m != m') then -(val l * val l') else val l * val l') := by
    rw [hz, hz']
    cases m <;> cases m' <;> simp [Int.neg_mul, Int.mul_neg]
  rw [e]
  exact this
end Go.Proofs.Ytagofpmcbbkmgaa
