/- parquetref01: Plus, of like signs. -/
import Derived.Test.YtagofpmcbbkmgaaR7
namespace Go.Proofs.Ytagofpmcbbkmgaa
open Go.RowKit Go.Sort

theorem at1_beyond (l : List Int) (i : Nat) (h : l.length ≤ i) : at1 l i = 0 := by
  unfold at1; rw [List.getD_eq_getElem?_getD, List.getElem?_eq_none h]; rfl
theorem val_take_succ (l : List Int) (k : Nat) : val (l.take (k + 1)) = val (l.take k) + 65536 ^ k * at1 l k := by
  by_cases h : k < l.length
  · rw [take_at1 l k h, val_append, show (l.take k).length = k by simp; omega]
    simp [val]
  · rw [at1_beyond l k (by omega), List.take_of_length_le (by omega), List.take_of_length_le (by omega)]
    simp
theorem dig_at1 {l : List Int} (h : Dig l) (i : Nat) : 0 ≤ at1 l i ∧ at1 l i < 65536 := by
  by_cases hi : i < l.length
  · exact h _ (by
      have e1 : at1 l i = l[i] := by simp [at1, List.getD, List.getElem?_eq_getElem hi]
      rw [e1]; exact List.getElem_mem hi)
  · rw [at1_beyond l i (by omega)]; omega
/-- one step of a sum -/
theorem plus_step (a b l : List Int) (k : Nat) (c : Int) (hl : l.length = k) (h : val l + 65536 ^ k * c = val (a.take k) + val (b.take k)) :
    val (l ++ [(at1 a k + at1 b k + c) % 65536]) + 65536 ^ (k + 1) * ((at1 a k + at1 b k + c) / 65536) = val (a.take (k + 1)) + val (b.take (k + 1)) := by
  rw [val_take_succ, val_take_succ, val_append, hl]
  simp only [val, Int.mul_zero, Int.add_zero, Int.pow_succ]
  generalize hx : at1 a k + at1 b k + c = x
  have h3 : x = x % 65536 + 65536 * (x / 65536) := (Int.emod_add_mul_ediv x 65536).symm
  have h4 : (65536 : Int) ^ k * x = 65536 ^ k * at1 a k + 65536 ^ k * at1 b k + 65536 ^ k * c := by rw [← hx, Int.mul_add, Int.mul_add]
  have h5 : (65536 : Int) ^ k * x = 65536 ^ k * (x % 65536) + 65536 ^ k * 65536 * (x / 65536) := by
    conv => lhs; rw [h3]
    rw [Int.mul_add, Int.mul_assoc]
  omega

theorem own_cap1 {w : World} {base e size n c : Nat} {A : Option Addr} {xs : List Value} (h : w.ownsRow base e size (.slice A n c) n xs) : n ≤ c := by
  rcases h.2 with ⟨hv, h0⟩ | ⟨g, cap, cur, hv, _, _, hc, _⟩
  · omega
  · simp only [Value.slice.injEq] at hv; omega

set_option maxHeartbeats 4000000 in
set_option maxRecDepth 100000 in
theorem PlusS_any (m : Bool) (A B : Option Addr) (ca cb : Nat) (a b : List Int) (K : Nat) (w : World) (hK : K ≤ 1000) (hA : Rd1 w A a) (hB : Rd1 w B b) (da : Dig a) (db : Dig b) (la : a.length ≤ K) (lb : b.length ≤ K) :
    Calls Try.prog 22 #[.agg #[.bool m, .slice A a.length ca], .agg #[.bool m, .slice B b.length cb]] w fun e w' => (∃ v', e = .returned v' ∧ NumR w' v' (if m then -(val a + val b) else val a + val b) (K + 1)) ∧ Ext w w' := by
  generalize hz : (if m then -(val a + val b) else val a + val b) = z
  have HT := Lib.hid (fun A' c l W (hl : l.length ≤ K + 1) hc hR hD (hv : val l = val a + val b) => (trim_any m A' c l (K + 1) W (by omega) hl hc hR hD).mono (R' := fun e w' => (∃ v', e = .returned v' ∧ NumR w' v' z (K + 1)) ∧ Ext W w') fun e w' h => by
    rw [hv, hz] at h
    exact h)
  clear hz
  have HDa := Lib.hid da
  have HDb := Lib.hid db
  clear da db
  have hmm : (m == m) = true := by simp
  go_enter Try.func22, Try.ntmps22
  go_upto_region 1 with fail
  generalize hB0 : w.heap.size = B0
  refine wp_world (fun W1 => (Ext w W1 ∧ w.heap.size ≤ B0 ∧ B0 + 2 < W1.heap.size) ∧ (W1.cell? ⟨B0, 0, none⟩ = some (.bool m) ∧ W1.cell? ⟨B0, 1, none⟩ = some (.slice A a.length ca)) ∧ (W1.cell? ⟨B0 + 1, 0, none⟩ = some (.bool m) ∧ W1.cell? ⟨B0 + 1, 1, none⟩ = some (.slice B b.length cb)) ∧
      (W1.cell? ⟨B0 + 1 + 1, 0, none⟩ = some (.bool false) ∧ W1.cell? ⟨B0 + 1 + 1, 1, none⟩ = some (.slice none 0 0)) ∧ W1.frozen? ⟨B0 + 1 + 1, 0, none⟩ = false ∧ W1.frozen? ⟨B0 + 1 + 1, 1, none⟩ = false)
    ⟨⟨(((Ext.refl w).alloc _).alloc _).alloc _, by omega, by subst hB0; simp⟩, ⟨by subst hB0; simp [go_sem], by subst hB0; simp [go_sem]⟩, ⟨by subst hB0; simp [go_sem], by subst hB0; simp [go_sem]⟩, ⟨by subst hB0; simp [go_sem], by subst hB0; simp [go_sem]⟩, by subst hB0; simp [go_sem], by subst hB0; simp [go_sem]⟩ ?_
  clear hB0
  rintro WB ⟨⟨hW, hB0, hB1⟩, ⟨p0, p1⟩, ⟨q0, q1⟩, ⟨r0, r1⟩, g0, g1⟩
  go_wp2_with fail
  obtain ⟨M, hM⟩ : ∃ M, M = max a.length b.length := ⟨_, rfl⟩
  go_loopw [5, 6, 7] (fun v cv iv wx => ∃ (A' : Option Addr) (c' : Nat) (l : List Int) (c : Int), v = .slice A' l.length c' ∧ cv = .int .i64 c ∧ iv = .int .i64 l.length ∧ (0 ≤ c ∧ c ≤ 1) ∧ (l.length ≤ M ∨ l.length = M + 1 ∧ c = 0) ∧ Hid (val l + 65536 ^ l.length * c = val (a.take l.length) + val (b.take l.length)) ∧ Hid (Dig l) ∧ Hid (wx.ownsRow WB.heap.size 3 1 (.slice A' l.length c') l.length (l.map (Value.int .i64))) ∧ Ext WB wx) (fun _ _ i _ => M + 2 - (intOf i).toNat)
  case atStart => exact ⟨none, 0, [], 0, rfl, rfl, rfl, by decide, Or.inl (Nat.zero_le _), (by simp [val] : val [] + 65536 ^ ([] : List Int).length * 0 = val (a.take 0) + val (b.take 0)), (fun x h => by cases h), World.ownsRow_nil _ _ _ _, Ext.refl _⟩
  case round =>
    obtain ⟨A', c', l, c, rfl, rfl, rfl, ⟨hc0, hc1⟩, hlm, HV, HD, HOw, hx⟩ := hrel
    have y0 := hx.cell p0
    have y1 := hx.cell p1
    have z0 := hx.cell q0
    have z1 := hx.cell q1
    have hla : M ≤ K := by omega
    go_upto_region 5 with fail
    go_cut [33] (fun g wx => g = .bool (decide (l.length < a.length ∨ l.length < b.length ∨ 0 < c)) ∧ wx = wr)
    case first =>
      by_cases h1 : l.length < a.length
      · have f1 : decide ((l.length : Int) < (a.length : Int)) = true := by simp; omega
        go_wp2_with fail
        go_meet
        exact ⟨by simp [h1], rfl⟩
      · have f1 : decide ((l.length : Int) < (a.length : Int)) = false := by simp; omega
        by_cases h2 : l.length < b.length
        · have f2 : decide ((l.length : Int) < (b.length : Int)) = true := by simp; omega
          go_wp2_with fail
          go_meet
          exact ⟨by simp [h2], rfl⟩
        · have f2 : decide ((l.length : Int) < (b.length : Int)) = false := by simp; omega
          by_cases h3 : 0 < c
          · have f3 : decide (0 < c) = true := by simpa using h3
            go_wp2_with fail
            go_meet
            exact ⟨by simp [h3], rfl⟩
          · have f3 : decide (0 < c) = false := by simpa using h3
            go_wp2_with fail
            go_meet
            exact ⟨by simp [h1, h2, h3], rfl⟩
    case rest =>
      obtain ⟨rfl, rfl⟩ := hcut
      by_cases hgo : l.length < a.length ∨ l.length < b.length ∨ 0 < c
      · have f1 : decide (l.length < a.length ∨ l.length < b.length ∨ 0 < c) = true := by simpa using hgo
        have HS := Lib.hid (plus_step a b l l.length c rfl HV.out)
        have ha1 := dig_at1 HDa.out l.length
        have hb1 := dig_at1 HDb.out l.length
        have hk1 : l.length ≤ M := by omega
        have hcs : l.length = M → at1 a l.length = 0 ∧ at1 b l.length = 0 := fun h => ⟨at1_beyond _ _ (by omega), at1_beyond _ _ (by omega)⟩
        have HDg1 := Lib.hid (fun W h => digit_any A ca a l.length W (by omega) h)
        have HDg2 := Lib.hid (fun W h => digit_any B cb b l.length W (by omega) h)
        have HRA := Lib.hid (fun W (h : Ext wc W) => hA.ext ((hW.trans hx).trans h))
        have HRB := Lib.hid (fun W (h : Ext wc W) => hB.ext ((hW.trans hx).trans h))
        generalize at1 a l.length = xa at *
        generalize at1 b l.length = xb at *
        have e1 : IntKind.i64.wrap (xa + xb) = xa + xb := IntWalk.i64_in _ (by omega)
        have e2 : IntKind.i64.wrap (xa + xb + c) = xa + xb + c := IntWalk.i64_in _ (by omega)
        have Y0 := Lib.hid y0
        have x0 := cell_ext y0
        have x1 := cell_ext y1
        have x2 := cell_ext z0
        have x3 := cell_ext z1
        go_wp2_with fail
        refine wp_region_ext (by kernel_rfl) (by kernel_rfl) ?_
        repeat (go_big_quiet_step ((first | (go_at_call 47; with_reducible exact ext_call1 (HDg1.out _ (HRA.out _ (ext_extW _ _ _)))) | (go_at_call 47; with_reducible exact ext_call1 (HDg2.out _ (HRB.out _ (ext_extW _ _ _)))))))
        refine wpQuiet_nil ?_
        intro W1 hW1_
        have hW1 := ext_of hW1_
        clear hW1_
        clear x0 x1 x2 x3 HDg1 HDg2 HRA HRB y0 y1 z0 z1 Y0
        replace hx := hx.trans hW1
        replace HOw := Lib.hid (own_ext HOw.out hW1)
        clear hW1 hA hB e1 e2
        have et : (xa + xb + c).tmod 65536 = (xa + xb + c) % 65536 := Int.tmod_eq_emod_of_nonneg (by omega)
        have eq : (xa + xb + c).tdiv 65536 = (xa + xb + c) / 65536 := Int.tdiv_eq_ediv_of_nonneg (by omega)
        have hr0 : 0 ≤ (xa + xb + c) % 65536 := by omega
        have hr1 : (xa + xb + c) % 65536 < 65536 := by omega
        have hd0 : 0 ≤ (xa + xb + c) / 65536 ∧ (xa + xb + c) / 65536 ≤ 1 := by omega
        have hdl : l.length + 1 ≤ M ∨ l.length + 1 = M + 1 ∧ (xa + xb + c) / 65536 = 0 := by
          by_cases h : l.length = M
          · have := hcs h; omega
          · omega
        generalize xa + xb + c = x at *
        generalize hr : x % 65536 = r at *
        generalize hd : x / 65536 = d at *
        have HDS := Lib.hid (show Dig (l ++ [r]) from fun z hz => by
          rcases List.mem_append.1 hz with h | h
          · exact HD.out z h
          · rw [List.mem_singleton.1 h]; exact ⟨hr0, hr1⟩)
        clear hr hd
        have hx5 := hx.alloc (Obj.cells #[Value.int IntKind.i64 r] 3)
        obtain ⟨A5, c5, w5, hr5, ho5, hg5⟩ := append_run 24 Try.underlying24 infoInt rfl (by omega) (own_ext HOw.out ((Ext.refl W1).alloc (Obj.cells #[Value.int IntKind.i64 r] 3))) hx5.size ⟨W1.heap.size, 0, none⟩ 1 1 [.int .i64 r] rfl (by
          intro j u hu
          match j, hu with
          | 0, hu => simp at hu; subst hu; simp [go_sem]
          | n + 1, hu => simp at hu) (by intro u hu; simp at hu; subst hu; rfl) (by omega) (by omega)
        have hlt5 := (own_ext HOw.out ((Ext.refl W1).alloc (Obj.cells #[Value.int IntKind.i64 r] 3))).lt
        have HO5 := Lib.hid ho5
        have HG5 := Lib.hid (hx5.grown hg5 (fun r hr => (hlt5 r hr).1))
        clear ho5 hg5 hlt5
        go_wp2_with (at_builtin; refine wpList_append_eq rfl _ _ _ _ rfl rfl rfl hr5 ?_)
        go_roundw
        case rel => exact ⟨A5, c5, l ++ [r], d, by simp, rfl, by simp, hd0, by simpa using hdl, by rw [List.length_append]; exact HS, HDS, by rw [List.map_append, List.length_append]; exact HO5, HG5.out⟩
        case measure => simp [intOf]; omega
      · have f1 : decide (l.length < a.length ∨ l.length < b.length ∨ 0 < c) = false := by simpa using hgo
        have hc : c = 0 := by omega
        subst hc
        have hla1 : a.length ≤ l.length := by omega
        have hlb1 : b.length ≤ l.length := by omega
        have hv : val l = val a + val b := by
          have := HV.out
          rw [List.take_of_length_le hla1, List.take_of_length_le hlb1, Int.mul_zero, Int.add_zero] at this
          exact this
        have hlc := own_cap1 HOw.out
        have HC := Lib.hid (fun W h => HT.out A' c' l W (by omega) hlc h HD.out hv)
        have HR := Lib.hid (own_rd1 HOw.out)
        clear hv HT HV HD HOw hgo hlm hA hB HDa HDb
        go_wp2_with fail
        refine (HC.out _ HR.out).mono ?_
        rintro e W5 ⟨⟨v', rfl, hn⟩, hx5⟩
        have HNm := Lib.hid hn
        obtain ⟨m', A6, c6, l', rfl, hrest⟩ := hn
        clear hrest
        replace hx := hx.trans hx5
        have q0' := hx.cell r0
        have q1' := hx.cell r1
        have q2 := hx.frozen r0 g0
        have q3 := hx.frozen r1 g1
        clear hx5 HC HR r0 r1 g0 g1 y0 y1 z0 z1 p0 p1 q0 q1
        go_wp2_with fail
        have hfin : Ext w ((W5.setCell ⟨B0 + 1 + 1, 0, none⟩ (.bool m')).setCell ⟨B0 + 1 + 1, 1, none⟩ (.slice A6 l'.length c6)) := ((hW.trans hx).setCell (by simp; omega) _).setCell (by simp; omega) _
        exact bodyPost_ret (v := .agg #[.bool m', .slice A6 l'.length c6]) (by simp [results, Try.results22, go_sem, *]) rfl ⟨⟨_, rfl, HNm.out.box q0' q1' _ _⟩, hfin⟩
end Go.Proofs.Ytagofpmcbbkmgaa
