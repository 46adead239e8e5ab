/- Package fill: Check. -/
import Derived.Test.YtagofpmcbbkmgaaL10
import Derived.Deep.DeepCutAuto
import Derived.Deep.LoopGhost
namespace Go.Proofs.Ytagofpmcbbkmgaa
open Go.RowKit

def edgesT (t : Int × Int × Int) : List (Int × Int) := [(t.1, t.2.1), (t.2.1, t.2.2), (t.2.2, t.1)]
def allE (ts : List (Int × Int × Int)) : List (Int × Int) := ts.flatMap edgesT
def at3 (l : List (Int × Int × Int)) (i : Nat) : Int × Int × Int := l.getD i (0, 0, 0)
/-- triangle i may be, and stands behind the one ahead -/
def okT (ps : List (Int × Int)) (ts : List (Int × Int × Int)) (i : Nat) : Bool :=
  (triP ps (at3 ts i).1 (at3 ts i).2.1 (at3 ts i).2.2 == some (at3 ts i)) && (i == 0 || decide (byTriI (at3 ts (i - 1)) (at3 ts i) < 0))
def revS (s : Int × Int) : Int × Int := (s.2, s.1)
def upS (s : Int × Int) : Int × Int := (min s.1 s.2, max s.1 s.2)
def okS (ts : List (Int × Int × Int)) (ss : List (Int × Int)) (i : Nat) : Bool :=
  decide ((at2 ss i).1 < (at2 ss i).2) && (i == 0 || decide (bySegI (at2 ss (i - 1)) (at2 ss i) < 0)) && (decide (at2 ss i ∈ allE ts) || decide (revS (at2 ss i) ∈ allE ts))
/-- may a mesh be? -/
def checkB (ps : List (Int × Int)) (ts : List (Int × Int × Int)) (ss : List (Int × Int)) : Bool :=
  (List.range ts.length).all (okT ps ts) && decide (allE ts).Nodup && (List.range ss.length).all (okS ts ss) && (allE ts).all fun s => decide (revS s ∈ allE ts) || decide (upS s ∈ ss)

/-- fill.Check's number -/
def chkI (ps : List (Int × Int)) (ts : List (Int × Int × Int)) (ss : List (Int × Int)) : Int := if checkB ps ts ss then 0 else 2
theorem chk_bad {ps : List (Int × Int)} {ts : List (Int × Int × Int)} {ss : List (Int × Int)} (h : checkB ps ts ss = false) : 2 = chkI ps ts ss := by unfold chkI; rw [h]; rfl
theorem chk_good {ps : List (Int × Int)} {ts : List (Int × Int × Int)} {ss : List (Int × Int)} (h : checkB ps ts ss = true) : 0 = chkI ps ts ss := by unfold chkI; rw [h]; rfl
/-- A mesh as a value, and in memory. -/
def meshV (AP AT AS : Option Addr) (np nt ns cp ct cs : Nat) : Value := .agg #[.slice AP np cp, .slice AT nt ct, .slice AS ns cs]
def Mesh (w : World) (AP AT AS : Option Addr) (ps : List (Int × Int)) (ts : List (Int × Int × Int)) (ss : List (Int × Int)) : Prop :=
  Rd2 w AP ps ∧ Rd3 w AT ts ∧ Rd2 w AS ss ∧ ps.length ≤ 1000000 ∧ ts.length ≤ 1000000 ∧ ss.length ≤ 1000000

theorem Rd3.open_ {w : World} {A : Option Addr} {xs : List (Int × Int × Int)} (h : Rd3 w A xs) (h0 : 0 < xs.length) : ∃ b o, A = some ⟨b, o, none⟩ ∧ ∀ j, j < xs.length → w.cell? ⟨b, o + j * 3, none⟩ = some (.int .i64 (at3 xs j).1) ∧ w.cell? ⟨b, o + j * 3 + 1, none⟩ = some (.int .i64 (at3 xs j).2.1) ∧ w.cell? ⟨b, o + j * 3 + 2, none⟩ = some (.int .i64 (at3 xs j).2.2) := by
  rcases h with rfl | ⟨b, o, e, hc⟩
  · simp at h0
  · refine ⟨b, o, e, fun j hj => ?_⟩
    have := hc j _ (List.getElem?_eq_getElem hj)
    simpa [at3, List.getD, List.getElem?_eq_getElem hj] using this

theorem check_no_tri (ps : List (Int × Int)) (ts : List (Int × Int × Int)) (ss : List (Int × Int)) (k : Nat) (hk : k < ts.length) (h : okT ps ts k = false) : checkB ps ts ss = false := by
  unfold checkB
  rw [range_all_false _ _ k hk h]
  rfl
theorem at3_get {ts : List (Int × Int × Int)} {k : Nat} (hk : k < ts.length) : ts[k]? = some (at3 ts k) := by
  simp [at3, List.getD, List.getElem?_eq_getElem hk]
theorem allE_take_succ (ts : List (Int × Int × Int)) (k : Nat) (hk : k < ts.length) (a b c : Int) (ht : at3 ts k = (a, b, c)) : allE (ts.take (k + 1)) = allE (ts.take k) ++ [(a, b)] ++ [(b, c)] ++ [(c, a)] := by
  rw [List.take_add_one, at3_get hk, ht]
  simp [allE, edgesT]
theorem allE_split (ts : List (Int × Int × Int)) (k : Nat) (hk : k < ts.length) (a b c : Int) (ht : at3 ts k = (a, b, c)) : allE ts = allE (ts.take k) ++ [(a, b)] ++ [(b, c)] ++ [(c, a)] ++ allE (ts.drop (k + 1)) := by
  rw [← allE_take_succ ts k hk a b c ht]
  unfold allE
  rw [← List.flatMap_append, List.take_append_drop]
theorem nodup_snoc {α : Type} {l : List α} {a : α} (h : l.Nodup) (ha : a ∉ l) : (l ++ [a]).Nodup := by
  rw [List.nodup_append]
  exact ⟨h, by simp, by intro x hx y hy e; simp at hy; subst hy; subst e; exact ha hx⟩
theorem nodup_mid {α : Type} {l r : List α} {a : α} (h : (l ++ [a] ++ r).Nodup) : a ∉ l := by
  rw [List.nodup_append] at h
  have h1 := h.1
  rw [List.nodup_append] at h1
  exact fun ha => h1.2.2 a ha a (by simp) rfl
theorem check_no_nodup {ps : List (Int × Int)} {ts : List (Int × Int × Int)} {ss : List (Int × Int)} (h : ¬ (allE ts).Nodup) : checkB ps ts ss = false := by
  unfold checkB
  rw [decide_eq_false h]
  simp
theorem dup0 {ps : List (Int × Int)} {ts : List (Int × Int × Int)} {ss : List (Int × Int)} {k : Nat} (hk : k < ts.length) {a b c : Int} (ht : at3 ts k = (a, b, c)) (h : (a, b) ∈ allE (ts.take k)) : checkB ps ts ss = false :=
  check_no_nodup fun hn => by
    rw [allE_split ts k hk a b c ht, List.append_assoc, List.append_assoc] at hn
    exact nodup_mid hn h
theorem dup1 {ps : List (Int × Int)} {ts : List (Int × Int × Int)} {ss : List (Int × Int)} {k : Nat} (hk : k < ts.length) {a b c : Int} (ht : at3 ts k = (a, b, c)) (h : (b, c) ∈ allE (ts.take k) ++ [(a, b)]) : checkB ps ts ss = false :=
  check_no_nodup fun hn => by
    rw [allE_split ts k hk a b c ht, List.append_assoc] at hn
    exact nodup_mid hn h
theorem dup2 {ps : List (Int × Int)} {ts : List (Int × Int × Int)} {ss : List (Int × Int)} {k : Nat} (hk : k < ts.length) {a b c : Int} (ht : at3 ts k = (a, b, c)) (h : (c, a) ∈ allE (ts.take k) ++ [(a, b)] ++ [(b, c)]) : checkB ps ts ss = false :=
  check_no_nodup fun hn => by
    rw [allE_split ts k hk a b c ht] at hn
    exact nodup_mid hn h
theorem compareInt_neg (x y : Int) : Lib.compareInt x y < 0 ↔ x < y := by unfold Lib.compareInt; (repeat' split) <;> omega
theorem compareInt_zero (x y : Int) : Lib.compareInt x y = 0 ↔ x = y := by unfold Lib.compareInt; (repeat' split) <;> omega
theorem bySegI_neg (a b : Int × Int) : bySegI a b < 0 ↔ a.1 < b.1 ∨ a.1 = b.1 ∧ a.2 < b.2 := by
  unfold bySegI
  simp only [orL]
  have h1 := compareInt_neg a.1 b.1
  have h2 := compareInt_zero a.1 b.1
  have h3 := compareInt_neg a.2 b.2
  have h4 := compareInt_zero a.2 b.2
  (repeat' split) <;> omega
theorem check_no_seg {ps : List (Int × Int)} {ts : List (Int × Int × Int)} {ss : List (Int × Int)} {k : Nat} (hk : k < ss.length) (h : okS ts ss k = false) : checkB ps ts ss = false := by
  unfold checkB
  rw [range_all_false _ _ k hk h]
  simp
theorem at2_get {ss : List (Int × Int)} {k : Nat} (hk : k < ss.length) : ss[k]? = some (at2 ss k) := by
  simp [at2, List.getD, List.getElem?_eq_getElem hk]
theorem segs_rise {ts : List (Int × Int × Int)} {ss : List (Int × Int)} : ∀ (j : Nat), (List.range (j + 1)).all (okS ts ss) = true → ∀ i, i < j → (at2 ss i).1 < (at2 ss j).1 ∨ (at2 ss i).1 = (at2 ss j).1 ∧ (at2 ss i).2 < (at2 ss j).2
  | 0, _, i, hi => by omega
  | j + 1, h, i, hi => by
    rw [range_all_succ] at h
    simp only [Bool.and_eq_true] at h
    have ih := segs_rise j h.1
    have h2 := h.2
    unfold okS at h2
    simp at h2
    have h3 := (bySegI_neg _ _).1 h2.1.2
    by_cases e : i = j
    · subst e; exact h3
    · have := ih i (by omega); omega
theorem seg_fresh {ts : List (Int × Int × Int)} {ss : List (Int × Int)} {j : Nat} (hj : j < ss.length) (h : (List.range j).all (okS ts ss) = true) (hg : okS ts ss j = true) : at2 ss j ∉ ss.take j := by
  intro hm
  obtain ⟨i, hi⟩ := List.getElem?_of_mem hm
  rw [List.getElem?_take] at hi
  split at hi
  · rename_i hij
    rw [at2_get (by omega)] at hi
    have := segs_rise j (by rw [range_all_succ, h, hg]; rfl) i hij
    have e : at2 ss i = at2 ss j := by simpa using hi
    rw [e] at this
    omega
  · cases hi
theorem take_snoc2 (ss : List (Int × Int)) (j : Nat) (hj : j < ss.length) (s : Int × Int) (h : at2 ss j = s) : ss.take (j + 1) = ss.take j ++ [s] := by
  rw [List.take_add_one, at2_get hj, h]; rfl
theorem check_no_rim {ps : List (Int × Int)} {ts : List (Int × Int × Int)} {ss : List (Int × Int)} {s : Int × Int} (hs : s ∈ allE ts) (h1 : revS s ∉ allE ts) (h2 : upS s ∉ ss) : checkB ps ts ss = false := by
  have : ((allE ts).all fun s => decide (revS s ∈ allE ts) || decide (upS s ∈ ss)) = false := by
    rw [List.all_eq_false]
    exact ⟨s, hs, by simp [h1, h2]⟩
  unfold checkB
  rw [this]
  simp
theorem check_yes {ps : List (Int × Int)} {ts : List (Int × Int × Int)} {ss : List (Int × Int)} (h1 : (List.range ts.length).all (okT ps ts) = true) (h2 : (allE ts).Nodup) (h3 : (List.range ss.length).all (okS ts ss) = true) (h4 : ∀ s ∈ allE ts, revS s ∈ allE ts ∨ upS s ∈ ss) : checkB ps ts ss = true := by
  unfold checkB
  rw [h1, h3, decide_eq_true h2]
  simp only [Bool.true_and, List.all_eq_true, Bool.or_eq_true, decide_eq_true_eq]
  exact h4
def onL (l : List (Int × Int)) : List ((Int × Int) × Value) := l.map fun s => (s, .bool true)
theorem nodup_lt_length : ∀ (n : Nat) (l : List Nat), l.Nodup → (∀ x ∈ l, x < n) → l.length ≤ n
  | 0, [], _, _ => Nat.le_refl _
  | 0, x :: l, _, h => by have := h x (by simp); omega
  | n + 1, l, hn, h => by
    have ih := nodup_lt_length n (l.erase n) (hn.erase n) (fun x hx => by
      have h1 := (List.Nodup.mem_erase_iff hn).1 hx
      have h2 := h x h1.2
      have h3 := h1.1
      omega)
    rw [List.length_erase] at ih
    split at ih <;> omega
theorem onL_get {l : List (Int × Int)} {j : Nat} {kv : (Int × Int) × Value} (h : (onL l)[j]? = some kv) : ∃ s, l[j]? = some s ∧ kv = (s, .bool true) := by
  unfold onL at h
  rw [List.getElem?_map] at h
  cases hs : l[j]? with
  | none => rw [hs] at h; cases h
  | some s => rw [hs] at h; exact ⟨s, rfl, by simpa using h.symm⟩
theorem mfind_on (k : Int × Int) : ∀ (l : List (Int × Int)) (i : Nat), ((mfind k i (onL l)).map (·.2)).getD (.bool false) = .bool (decide (k ∈ l))
  | [], _ => by simp [onL, mfind]
  | x :: l, i => by
    have ih := mfind_on k l (i + 1)
    unfold onL at ih ⊢
    simp only [List.map_cons, mfind]
    by_cases h : k = x
    · simp [h]
    · rw [if_neg h, ih]; simp [h]
theorem mfind_on_none (k : Int × Int) : ∀ (l : List (Int × Int)) (i : Nat), k ∉ l → mfind k i (onL l) = none
  | [], _, _ => rfl
  | x :: l, i, h => by
    have h1 : k ≠ x := fun e => h (by simp [e])
    have h2 : k ∉ l := fun e => h (by simp [e])
    have ih := mfind_on_none k l (i + 1) h2
    unfold onL at ih ⊢
    simp only [List.map_cons, mfind]
    rw [if_neg h1, ih]
theorem has_run {w : World} {b : Nat} {l : List (Int × Int)} (h : MapS w b (onL l)) (x y : Int) :
    (Instr.lookup 109 (.map (some b)) (.agg #[.int .i64 x, .int .i64 y]) false).run Try.prog w = .ok (.bool (decide ((x, y) ∈ l))) w := by
  have := lookup_run Try.underlying109 (.bool false) Try.zeroValue4 h (x, y)
  rw [mfind_on] at this
  exact this
theorem put_run {w : World} {b : Nat} {l : List (Int × Int)} (h : MapS w b (onL l)) (x y : Int) (hn : (x, y) ∉ l) :
    ∃ w', (Instr.mapUpdate 109 (.map (some b)) (.agg #[.int .i64 x, .int .i64 y]) (.bool true)).run Try.prog w = .ok () w' ∧ MapS w' b (onL (l ++ [(x, y)])) ∧ w.grownBy w' (some b) ∧ w'.heap.size = w.heap.size := by
  obtain ⟨w', h1, h2, h3, h4⟩ := update_run Try.underlying109 h (x, y) (.bool true) (mfind_on_none _ _ _ hn)
  exact ⟨w', h1, by simpa [onL] using h2, h3, h4⟩
theorem okT_cases (ps : List (Int × Int)) (ts : List (Int × Int × Int)) (k : Nat) (t u : Int × Int × Int) (o : Bool) (ht : at3 ts k = t) (hg : (triP ps t.1 t.2.1 t.2.2).getD (0, 0, 0) = u) (ho : (triP ps t.1 t.2.1 t.2.2).isSome = o) :
    okT ps ts k = (o && decide (u = t) && (k == 0 || decide (byTriI (at3 ts (k - 1)) t < 0))) := by
  unfold okT
  rw [ht]
  cases h : triP ps t.1 t.2.1 t.2.2 with
  | none => rw [h] at ho; subst ho; rfl
  | some v =>
    rw [h] at ho hg
    simp only [Option.getD_some] at hg
    subst hg ho
    simp only [Option.isSome_some, Bool.true_and]
    congr 1
    rw [Bool.eq_iff_iff]
    simp
theorem mapS_new (w : World) : MapS (w.alloc (.map #[] 0)) w.heap.size [] := heap_alloc_new w _
theorem mapS_new1 (w : World) (o : Obj) : MapS ((w.alloc o).alloc (.map #[] 0)) (w.heap.size + 1) [] := by
  rw [show w.heap.size + 1 = (w.alloc o).heap.size from (World.size_alloc _ _).symm]
  exact mapS_new _
theorem neqTri_op (a0 a1 a2 b0 b1 b2 : Int) (w : World) : (binOp .neq 36 (.agg #[.int .i64 a0, .int .i64 a1, .int .i64 a2]) (.agg #[.int .i64 b0, .int .i64 b1, .int .i64 b2])).run Try.prog w = .ok (.bool (!decide ((a0, a1, a2) = (b0, b1, b2)))) w := by
  have u3 := Try.underlying3
  have a3 := Try.isAgg3
  have z3 := Try.sizeOf3
  have hS : Try.prog.underlying 36 = some (.struct (Try.prog.fieldsOf 36)) := by kernel_rfl
  have hp : Try.prog.stoodInHeld 36 = false := by kernel_rfl
  rw [run_neq_struct, show (10000 : Nat) = 9999 + 1 from rfl, run_equalIn_agg w 9999 36 _ _ hS hp]
  simp only [Program.fieldsOf, Try.underlying36]
  go_simp
  by_cases h0 : a0 = b0 <;> by_cases h1 : a1 = b1 <;> by_cases h2 : a2 = b2 <;> simp [h0, h1, h2]

set_option maxHeartbeats 6000000 in
set_option maxRecDepth 100000 in
theorem check_any (AP AT AS : Option Addr) (cp ct cs : Nat) (ps : List (Int × Int)) (ts : List (Int × Int × Int)) (ss : List (Int × Int)) (w : World) (hM : Mesh w AP AT AS ps ts ss) :
    Calls Try.prog 43 #[.agg #[.slice AP ps.length cp, .slice AT ts.length ct, .slice AS ss.length cs]] w fun e w' => e = .returned (.int .i64 (chkI ps ts ss)) ∧ Ext w w' := by
  obtain ⟨hP, hT, hS, lp, lt, ls⟩ := hM
  have hmm := @run_makeMap Try.prog
  go_enter Try.func43, Try.ntmps43
  go_wp2_with fail
  go_loopw [18] (fun i wr => ∃ k : Nat, k ≤ ts.length ∧ i = .int .i64 k ∧ Hid ((List.range k).all (okT ps ts) = true) ∧ Hid (allE (ts.take k)).Nodup ∧ Ext w wr ∧ MapS wr (w.heap.size + 1) (onL (allE (ts.take k))) ∧
    wr.cell? ⟨w.heap.size, 0, none⟩ = some (.slice AP ps.length cp) ∧ wr.cell? ⟨w.heap.size, 1, none⟩ = some (.slice AT ts.length ct) ∧ wr.cell? ⟨w.heap.size, 2, none⟩ = some (.slice AS ss.length cs)) (fun i _ => ts.length - (intOf i).toNat)
  case atStart => exact ⟨0, Nat.zero_le _, rfl, rfl, List.nodup_nil, ((Ext.refl _).alloc _).alloc _, mapS_new1 _ _, by simp [go_sem], by simp [go_sem], by simp [go_sem]⟩
  case round =>
    obtain ⟨k, hk, rfl, HA, HN, hx, hmap, m0, m1, m2⟩ := hrel
    have hz1 := hmap.lt
    have hz0 : w.heap.size < wr.heap.size := by omega
    by_cases hlt : k < ts.length
    · obtain ⟨b, o, hAT, hc⟩ := (hT.ext hx).open_ (by omega)
      have HC := Lib.hid hc
      clear hc
      obtain ⟨c0, c1, c2⟩ := HC.out k hlt
      generalize ht : at3 ts k = t at c0 c1 c2
      obtain ⟨ta, tb, tc⟩ := t
      simp only at c0 c1 c2
      have HT := Lib.hid ht
      clear ht
      have HTri : Hid (∀ W, Rd2 W AP ps → _) := Lib.hid (fun W h => tri_any AP cp ps ta tb tc W lp h)
      have HRd := Lib.hid hP
      have hok := okT_cases ps ts k (ta, tb, tc) _ _ HT.out rfl rfl
      simp only at hok
      subst hAT
      generalize triP ps ta tb tc = R at *
      have htv : triV R = .tuple #[.agg #[.int .i64 (R.getD (0, 0, 0)).1, .int .i64 (R.getD (0, 0, 0)).2.1, .int .i64 (R.getD (0, 0, 0)).2.2], .bool R.isSome] := by cases R <;> rfl
      rw [htv] at HTri
      clear htv
      generalize R.getD (0, 0, 0) = u at *
      generalize R.isSome = okv at *
      obtain ⟨ua, ub, uc⟩ := u
      have HOK := Lib.hid hok
      clear hok
      go_wp2_with fail
      refine (HTri.out _ (HRd.out.ext (hx.alloc _))).mono ?_
      rintro e W1 ⟨rfl, hW1⟩
      go_wp2_with fail
      have hx1 := hx.alloc (Obj.cells #[Value.int IntKind.i64 ta, Value.int IntKind.i64 tb, Value.int IntKind.i64 tc] 36)
      have hgr := ((Ext.refl wr).alloc (Obj.cells #[Value.int IntKind.i64 ta, Value.int IntKind.i64 tb, Value.int IntKind.i64 tc] 36)).trans hW1
      have hgr2 := hgr.alloc (Obj.cells #[Value.int IntKind.i64 ua, Value.int IntKind.i64 ub, Value.int IntKind.i64 uc] 36)
      have t0 := hW1.cell (p := ⟨wr.heap.size, 0, none⟩) (v := .int .i64 ta) (by simp [go_sem])
      have t1 := hW1.cell (p := ⟨wr.heap.size, 1, none⟩) (v := .int .i64 tb) (by simp [go_sem])
      have t2 := hW1.cell (p := ⟨wr.heap.size, 2, none⟩) (v := .int .i64 tc) (by simp [go_sem])
      refine wp_world (fun W => (Ext wr W ∧ wr.heap.size < W.heap.size) ∧ (W.cell? ⟨wr.heap.size, 0, none⟩ = some (.int .i64 ta) ∧ W.cell? ⟨wr.heap.size, 1, none⟩ = some (.int .i64 tb) ∧ W.cell? ⟨wr.heap.size, 2, none⟩ = some (.int .i64 tc)) ∧
        W.cell? ⟨W1.heap.size, 0, none⟩ = some (.int .i64 ua) ∧ W.cell? ⟨W1.heap.size, 1, none⟩ = some (.int .i64 ub) ∧ W.cell? ⟨W1.heap.size, 2, none⟩ = some (.int .i64 uc))
        ⟨⟨hgr2, by have := hW1.size; simp at this; simp; omega⟩, ⟨((Ext.refl _).alloc _).cell t0, ((Ext.refl _).alloc _).cell t1, ((Ext.refl _).alloc _).cell t2⟩, by simp [go_sem], by simp [go_sem], by simp [go_sem]⟩ ?_
      clear t0 t1 t2 hgr hgr2 hx1 HTri
      rintro W ⟨⟨hW, hzW⟩, ⟨t0, t1, t2⟩, v0, v1, v2⟩
      have hne := neqTri_op ua ub uc ta tb tc
      go_cut [56] (fun c wx => c = .bool (!okT ps ts k) ∧ Ext W wx)
      case first =>
        have x0 := cell_ext t0
        have x1 := cell_ext t1
        have x2 := cell_ext t2
        have y0 := cell_ext v0
        have y1 := cell_ext v1
        have y2 := cell_ext v2
        cases okv
        · refine wp_region_ext (by kernel_rfl) (by kernel_rfl) ?_
          repeat (go_big_quiet_step ((fail)))
          refine wpQuiet_nil ?_
          intro W2 hW2_
          have hW2 := ext_of hW2_
          clear hW2_
          go_wp2_with fail
          go_meet
          exact ⟨by rw [HOK.out]; rfl, hW2⟩
        · by_cases hu : (ua, ub, uc) = (ta, tb, tc)
          · simp only [Prod.mk.injEq] at hu
            obtain ⟨rfl, rfl, rfl⟩ := hu
            have hne' : ∀ W, Sem.run Try.prog (binOp .neq 36 (.agg #[.int .i64 ua, .int .i64 ub, .int .i64 uc]) (.agg #[.int .i64 ua, .int .i64 ub, .int .i64 uc])) W = .ok (.bool false) W := fun W => by rw [hne]; simp
            clear hne
            by_cases hk0 : k = 0
            · have hd1 : decide (0 < k) = false := by simp; omega
              have hd2 : decide ((0 : Int) < (k : Int)) = false := by simp; omega
              have HK1 := Lib.hid (show (k == 0) = true by simp [hk0])
              clear hk0
              refine wp_region_ext (by kernel_rfl) (by kernel_rfl) ?_
              repeat (go_big_quiet_step ((fail)))
              refine wpQuiet_nil ?_
              intro W2 hW2_
              have hW2 := ext_of hW2_
              clear hW2_
              go_wp2_with fail
              go_meet
              exact ⟨by rw [HOK.out]; simp [HK1.out], hW2⟩
            · have hd1 : decide (0 < k) = true := by simp; omega
              have hd2 : decide ((0 : Int) < (k : Int)) = true := by simp; omega
              have HK1 := Lib.hid (show (k == 0) = false by simp [hk0])
              obtain ⟨p0, p1, p2⟩ := HC.out (k - 1) (by omega)
              generalize at3 ts (k - 1) = pt at *
              obtain ⟨pa, pb, pc⟩ := pt
              simp only at p0 p1 p2
              have z0 := cell_ext (hW.cell p0)
              have z1 := cell_ext (hW.cell p1)
              have z2 := cell_ext (hW.cell p2)
              have n1 := cell_ext (hW.cell m1)
              have HBT := Lib.hid (fun W => byTri_any pa pb pc ua ub uc W)
              generalize byTriI (pa, pb, pc) (ua, ub, uc) = r at *
              have e1 : IntKind.i64.wrap ((k : Int) - 1) = (k : Int) - 1 := IntWalk.i64_in _ (by omega)
              have e2 : ((k : Int) - 1).toNat = k - 1 := by omega
              have e3 : 0 ≤ (k : Int) - 1 := by omega
              have e4 : (k : Int) - 1 < (ts.length : Int) := by omega
              by_cases hr : r < 0
              · have hr1 : decide (0 ≤ r) = false := by simp; omega
                refine wp_region_ext (by kernel_rfl) (by kernel_rfl) ?_
                repeat (go_big_quiet_step ((go_at_call 68; exact ext_call (HBT.out _))))
                refine wpQuiet_nil ?_
                intro W2 hW2_
                have hW2 := ext_of hW2_
                clear hW2_
                go_wp2_with fail
                go_meet
                exact ⟨by rw [HOK.out]; simp [HK1.out, hr], hW2⟩
              · have hr1 : decide (0 ≤ r) = true := by simp; omega
                refine wp_region_ext (by kernel_rfl) (by kernel_rfl) ?_
                repeat (go_big_quiet_step ((go_at_call 68; exact ext_call (HBT.out _))))
                refine wpQuiet_nil ?_
                intro W2 hW2_
                have hW2 := ext_of hW2_
                clear hW2_
                go_wp2_with fail
                go_meet
                exact ⟨by rw [HOK.out]; simp [HK1.out, hr], hW2⟩
          · have hu' : decide ((ua, ub, uc) = (ta, tb, tc)) = false := by simpa using hu
            rw [hu'] at hne
            refine wp_region_ext (by kernel_rfl) (by kernel_rfl) ?_
            repeat (go_big_quiet_step ((fail)))
            refine wpQuiet_nil ?_
            intro W2 hW2_
            have hW2 := ext_of hW2_
            clear hW2_
            go_wp2_with fail
            go_meet
            exact ⟨by rw [HOK.out, hu']; rfl, hW2⟩
      case rest =>
        obtain ⟨rfl, hWx⟩ := hcut
        have hz : w.heap.size + 1 < wc.heap.size := Nat.lt_of_lt_of_le (Nat.lt_of_lt_of_le hz1 hW.size) hWx.size
        cases hgd : okT ps ts k
        · have HB := Lib.hid (chk_bad (check_no_tri ps ts ss k hlt hgd))
          go_wp2_with fail
          go_ret
          exact ⟨ret_i64 HB.out, (hx.trans hW).trans hWx⟩
        · have HGD := Lib.hid hgd
          clear hgd
          have t0' := hWx.cell t0
          have t1' := hWx.cell t1
          have t2' := hWx.cell t2
          go_wp2_with fail
          refine (edges_any ta tb tc _).mono ?_
          rintro e W3 ⟨rfl, hW3⟩
          go_wp2_with fail
          have hmap3 := ((hmap.ext hW).ext hWx).ext hW3
          have i0 : ∀ w, (Instr.index 111 (.agg #[.int .i64 ta, .int .i64 tb, .int .i64 tb, .int .i64 tc, .int .i64 tc, .int .i64 ta]) (.int .i64 0)).run Try.prog w = .ok (.agg #[.int .i64 ta, .int .i64 tb]) w := fun _ => by kernel_rfl
          have i1 : ∀ w, (Instr.index 111 (.agg #[.int .i64 ta, .int .i64 tb, .int .i64 tb, .int .i64 tc, .int .i64 tc, .int .i64 ta]) (.int .i64 1)).run Try.prog w = .ok (.agg #[.int .i64 tb, .int .i64 tc]) w := fun _ => by kernel_rfl
          have i2 : ∀ w, (Instr.index 111 (.agg #[.int .i64 ta, .int .i64 tb, .int .i64 tb, .int .i64 tc, .int .i64 tc, .int .i64 ta]) (.int .i64 2)).run Try.prog w = .ok (.agg #[.int .i64 tc, .int .i64 ta]) w := fun _ => by kernel_rfl
          refine wp_loop_rounds 4 ?_
          have hxx0 := ((hx.trans hW).trans hWx).trans hW3
          rw [rounds_succ]
          have hA0 := hxx0.alloc (Obj.cells #[Value.int IntKind.i64 ta, Value.int IntKind.i64 tb] 39)
          have hmq0 := hmap3.ext ((Ext.refl W3).alloc (Obj.cells #[Value.int IntKind.i64 ta, Value.int IntKind.i64 tb] 39))
          have hs0 := has_run hmq0 ta tb
          by_cases hin0 : (ta, tb) ∈ allE (ts.take k)
          · have hd0 : decide ((ta, tb) ∈ allE (ts.take k)) = true := by simpa using hin0
            rw [hd0] at hs0
            have HB := Lib.hid (chk_bad (ps := ps) (ss := ss) (dup0 hlt HT.out hin0))
            clear hin0 hd0
            go_wp2_with fail
            go_ret
            exact ⟨ret_i64 HB.out, hA0⟩
          · have hd0 : decide ((ta, tb) ∈ allE (ts.take k)) = false := by simpa using hin0
            rw [hd0] at hs0
            obtain ⟨V0, hu0, hmm1, hg0, hsz0⟩ := put_run hmq0 ta tb hin0
            have hxx1 := hA0.grown hg0 (by intro q hq; cases hq; omega)
            clear hd0
            go_wp2_with fail
            clear hs0 hu0
            rw [rounds_succ]
            have hA1 := hxx1.alloc (Obj.cells #[Value.int IntKind.i64 tb, Value.int IntKind.i64 tc] 39)
            have hmq1 := hmm1.ext ((Ext.refl V0).alloc (Obj.cells #[Value.int IntKind.i64 tb, Value.int IntKind.i64 tc] 39))
            have hs1 := has_run hmq1 tb tc
            by_cases hin1 : (tb, tc) ∈ allE (ts.take k) ++ [(ta, tb)]
            · have hd1 : decide ((tb, tc) ∈ allE (ts.take k) ++ [(ta, tb)]) = true := by simpa using hin1
              rw [hd1] at hs1
              have HB := Lib.hid (chk_bad (ps := ps) (ss := ss) (dup1 hlt HT.out hin1))
              clear hin1 hd1
              go_wp2_with fail
              go_ret
              exact ⟨ret_i64 HB.out, hA1⟩
            · have hd1 : decide ((tb, tc) ∈ allE (ts.take k) ++ [(ta, tb)]) = false := by simpa using hin1
              rw [hd1] at hs1
              obtain ⟨V1, hu1, hmm2, hg1, hsz1⟩ := put_run hmq1 tb tc hin1
              have hxx2 := hA1.grown hg1 (by intro q hq; cases hq; omega)
              clear hd1
              go_wp2_with fail
              clear hs1 hu1
              rw [rounds_succ]
              have hA2 := hxx2.alloc (Obj.cells #[Value.int IntKind.i64 tc, Value.int IntKind.i64 ta] 39)
              have hmq2 := hmm2.ext ((Ext.refl V1).alloc (Obj.cells #[Value.int IntKind.i64 tc, Value.int IntKind.i64 ta] 39))
              have hs2 := has_run hmq2 tc ta
              by_cases hin2 : (tc, ta) ∈ allE (ts.take k) ++ [(ta, tb)] ++ [(tb, tc)]
              · have hd2 : decide ((tc, ta) ∈ allE (ts.take k) ++ [(ta, tb)] ++ [(tb, tc)]) = true := by simpa using hin2
                rw [hd2] at hs2
                have HB := Lib.hid (chk_bad (ps := ps) (ss := ss) (dup2 hlt HT.out hin2))
                clear hin2 hd2
                go_wp2_with fail
                go_ret
                exact ⟨ret_i64 HB.out, hA2⟩
              · have hd2 : decide ((tc, ta) ∈ allE (ts.take k) ++ [(ta, tb)] ++ [(tb, tc)]) = false := by simpa using hin2
                rw [hd2] at hs2
                obtain ⟨V2, hu2, hmm3, hg2, hsz2⟩ := put_run hmq2 tc ta hin2
                have hxx3 := hA2.grown hg2 (by intro q hq; cases hq; omega)
                clear hd2
                go_wp2_with fail
                clear hs2 hu2
                have mm : ∀ (q : Nat) (v : Value), wr.cell? ⟨w.heap.size, q, none⟩ = some v → V2.cell? ⟨w.heap.size, q, none⟩ = some v := fun q v hq =>
                  hg2.cell (((Ext.refl V1).alloc _).cell (hg1.cell (((Ext.refl V0).alloc _).cell (hg0.cell (((Ext.refl W3).alloc _).cell (hW3.cell (hWx.cell (hW.cell hq)))) (by simp))) (by simp))) (by simp)
                have mm0 := mm 0 _ m0
                have mm1 := mm 1 _ m1
                have mm2 := mm 2 _ m2
                rw [rounds_succ]
                go_wp2_with fail
                go_roundw
                case rel => exact ⟨k + 1, by omega, by go_num, by rw [range_all_succ, HA.out, HGD.out]; rfl, by have e := allE_take_succ ts k hlt ta tb tc HT.out; show (allE (ts.take (k + 1))).Nodup; rw [e]; exact nodup_snoc (nodup_snoc (nodup_snoc HN.out hin0) hin1) hin2, hxx3, by rw [allE_take_succ ts k hlt ta tb tc HT.out]; exact hmm3, mm0, mm1, mm2⟩
                case measure => simp [intOf]; omega
    · have ek : k = ts.length := by omega
      have HA' : Hid ((List.range ts.length).all (okT ps ts) = true) := by rw [← ek]; exact HA
      have HN' : Hid (allE ts).Nodup := by
        have := HN.out
        rw [List.take_of_length_le (by omega)] at this
        exact this
      have hmap' : MapS wr (w.heap.size + 1) (onL (allE ts)) := by
        rw [List.take_of_length_le (by omega)] at hmap
        exact hmap
      clear ek HA HN hmap
      go_wp2_with fail
      have hzz : w.heap.size + 1 < wr.heap.size := hz1
      obtain ⟨wo, rfl⟩ : ∃ wo : World, wo = wr := ⟨_, rfl⟩
      have hA := (Ext.refl wo).alloc (.map #[] 0)
      go_loopw [73] (fun i wr => ∃ k : Nat, k ≤ ss.length ∧ i = .int .i64 k ∧ Hid ((List.range k).all (okS ts ss) = true) ∧ Ext w wr ∧ MapS wr (w.heap.size + 1) (onL (allE ts)) ∧ MapS wr wo.heap.size (onL (ss.take k)) ∧
        wr.cell? ⟨w.heap.size, 0, none⟩ = some (.slice AP ps.length cp) ∧ wr.cell? ⟨w.heap.size, 1, none⟩ = some (.slice AT ts.length ct) ∧ wr.cell? ⟨w.heap.size, 2, none⟩ = some (.slice AS ss.length cs)) (fun i _ => ss.length - (intOf i).toNat)
      case atStart => exact ⟨0, Nat.zero_le _, rfl, rfl, hx.alloc _, hmap'.ext hA, mapS_new wo, hA.cell m0, hA.cell m1, hA.cell m2⟩
      case round =>
        clear hA hmap' m0 m1 m2 hz0 hz1
        obtain ⟨j, hj, rfl, HJ, hxj, hm1, hm2, m0, m1, m2⟩ := hrel
        have hz1 := hm1.lt
        have hz2 := hm2.lt
        have hz0 : w.heap.size < wr.heap.size := by omega
        by_cases hltj : j < ss.length
        · obtain ⟨b, o, hAS, hc⟩ := (hS.ext hxj).open_ (by omega)
          have HC := Lib.hid hc
          clear hc
          obtain ⟨c0, c1⟩ := HC.out j hltj
          generalize ht : at2 ss j = t at c0 c1
          obtain ⟨sa, sb⟩ := t
          simp only at c0 c1
          have HT := Lib.hid ht
          clear ht
          subst hAS
          have HOK : Hid (okS ts ss j = (decide (sa < sb) && (j == 0 || decide (bySegI (at2 ss (j - 1)) (sa, sb) < 0)) && (decide ((sa, sb) ∈ allE ts) || decide ((sb, sa) ∈ allE ts)))) := by
            show _ = _
            unfold okS revS
            rw [HT.out]
          go_wp2_with fail
          refine wp_world (fun W => (Ext wr W ∧ wr.heap.size < W.heap.size) ∧ W.cell? ⟨wr.heap.size, 0, none⟩ = some (.int .i64 sa) ∧ W.cell? ⟨wr.heap.size, 1, none⟩ = some (.int .i64 sb)) ⟨⟨(Ext.refl _).alloc _, by simp⟩, by simp [go_sem], by simp [go_sem]⟩ ?_
          rintro W ⟨⟨hW, hzW⟩, t0, t1⟩
          have hmW1 := hm1.ext hW
          go_cut [113] (fun c wx => c = .bool (!okS ts ss j) ∧ Ext W wx)
          case first =>
            have x0 := cell_ext t0
            have x1 := cell_ext t1
            have hl1 := fun n os => has_run (hmW1.ext (ext_extW W n os)) sa sb
            have hl2 := fun n os => has_run (hmW1.ext (ext_extW W n os)) sb sa
            by_cases hab : sa < sb
            · have hab1 : decide (sb ≤ sa) = false := by simp; omega
              by_cases hk0 : j = 0
              · have hd1 : decide (0 < j) = false := by simp; omega
                have hd2 : decide ((0 : Int) < (j : Int)) = false := by simp; omega
                have HK1 := Lib.hid (show (j == 0) = true by simp [hk0])
                clear hk0
                by_cases q1 : (sa, sb) ∈ allE ts
                · have d1 : decide ((sa, sb) ∈ allE ts) = true := by simpa using q1
                  rw [d1] at hl1
                  have Q1 := Lib.hid q1
                  clear q1 d1
                  refine wp_region_ext (by kernel_rfl) (by kernel_rfl) ?_
                  repeat (go_big_quiet_step ((fail)))
                  refine wpQuiet_nil ?_
                  intro W2 hW2_
                  have hW2 := ext_of hW2_
                  clear hW2_
                  go_wp2_with fail
                  go_meet
                  exact ⟨by rw [HOK.out]; simp [HK1.out, hab, Q1.out], hW2⟩
                · have d1 : decide ((sa, sb) ∈ allE ts) = false := by simpa using q1
                  rw [d1] at hl1
                  have Q1 := Lib.hid q1
                  clear q1 d1
                  by_cases q2 : (sb, sa) ∈ allE ts
                  · have d2 : decide ((sb, sa) ∈ allE ts) = true := by simpa using q2
                    rw [d2] at hl2
                    have Q2 := Lib.hid q2
                    clear q2 d2
                    refine wp_region_ext (by kernel_rfl) (by kernel_rfl) ?_
                    repeat (go_big_quiet_step ((fail)))
                    refine wpQuiet_nil ?_
                    intro W2 hW2_
                    have hW2 := ext_of hW2_
                    clear hW2_
                    go_wp2_with fail
                    go_meet
                    exact ⟨by rw [HOK.out]; simp [HK1.out, hab, Q1.out, Q2.out], hW2⟩
                  · have d2 : decide ((sb, sa) ∈ allE ts) = false := by simpa using q2
                    rw [d2] at hl2
                    have Q2 := Lib.hid q2
                    clear q2 d2
                    refine wp_region_ext (by kernel_rfl) (by kernel_rfl) ?_
                    repeat (go_big_quiet_step ((fail)))
                    refine wpQuiet_nil ?_
                    intro W2 hW2_
                    have hW2 := ext_of hW2_
                    clear hW2_
                    go_wp2_with fail
                    go_meet
                    exact ⟨by rw [HOK.out]; simp [HK1.out, hab, Q1.out, Q2.out], hW2⟩
              · have hd1 : decide (0 < j) = true := by simp; omega
                have hd2 : decide ((0 : Int) < (j : Int)) = true := by simp; omega
                have HK1 := Lib.hid (show (j == 0) = false by simp [hk0])
                obtain ⟨p0, p1⟩ := HC.out (j - 1) (by omega)
                generalize at2 ss (j - 1) = pt at *
                obtain ⟨pa, pb⟩ := pt
                simp only at p0 p1
                have z0 := cell_ext (hW.cell p0)
                have z1 := cell_ext (hW.cell p1)
                have n2 := cell_ext (hW.cell m2)
                have HBT := Lib.hid (fun W => bySeg_any pa pb sa sb W)
                generalize bySegI (pa, pb) (sa, sb) = r at *
                have e1 : IntKind.i64.wrap ((j : Int) - 1) = (j : Int) - 1 := IntWalk.i64_in _ (by omega)
                have e2 : ((j : Int) - 1).toNat = j - 1 := by omega
                have e3 : 0 ≤ (j : Int) - 1 := by omega
                have e4 : (j : Int) - 1 < (ss.length : Int) := by omega
                by_cases hr : r < 0
                · have hr1 : decide (0 ≤ r) = false := by simp; omega
                  by_cases q1 : (sa, sb) ∈ allE ts
                  · have d1 : decide ((sa, sb) ∈ allE ts) = true := by simpa using q1
                    rw [d1] at hl1
                    have Q1 := Lib.hid q1
                    clear q1 d1
                    refine wp_region_ext (by kernel_rfl) (by kernel_rfl) ?_
                    repeat (go_big_quiet_step ((go_at_call 70; exact ext_call (HBT.out _))))
                    refine wpQuiet_nil ?_
                    intro W2 hW2_
                    have hW2 := ext_of hW2_
                    clear hW2_
                    go_wp2_with fail
                    go_meet
                    exact ⟨by rw [HOK.out]; simp [HK1.out, hab, hr, Q1.out], hW2⟩
                  · have d1 : decide ((sa, sb) ∈ allE ts) = false := by simpa using q1
                    rw [d1] at hl1
                    have Q1 := Lib.hid q1
                    clear q1 d1
                    by_cases q2 : (sb, sa) ∈ allE ts
                    · have d2 : decide ((sb, sa) ∈ allE ts) = true := by simpa using q2
                      rw [d2] at hl2
                      have Q2 := Lib.hid q2
                      clear q2 d2
                      refine wp_region_ext (by kernel_rfl) (by kernel_rfl) ?_
                      repeat (go_big_quiet_step ((go_at_call 70; exact ext_call (HBT.out _))))
                      refine wpQuiet_nil ?_
                      intro W2 hW2_
                      have hW2 := ext_of hW2_
                      clear hW2_
                      go_wp2_with fail
                      go_meet
                      exact ⟨by rw [HOK.out]; simp [HK1.out, hab, hr, Q1.out, Q2.out], hW2⟩
                    · have d2 : decide ((sb, sa) ∈ allE ts) = false := by simpa using q2
                      rw [d2] at hl2
                      have Q2 := Lib.hid q2
                      clear q2 d2
                      refine wp_region_ext (by kernel_rfl) (by kernel_rfl) ?_
                      repeat (go_big_quiet_step ((go_at_call 70; exact ext_call (HBT.out _))))
                      refine wpQuiet_nil ?_
                      intro W2 hW2_
                      have hW2 := ext_of hW2_
                      clear hW2_
                      go_wp2_with fail
                      go_meet
                      exact ⟨by rw [HOK.out]; simp [HK1.out, hab, hr, Q1.out, Q2.out], hW2⟩
                · have hr1 : decide (0 ≤ r) = true := by simp; omega
                  refine wp_region_ext (by kernel_rfl) (by kernel_rfl) ?_
                  repeat (go_big_quiet_step ((go_at_call 70; exact ext_call (HBT.out _))))
                  refine wpQuiet_nil ?_
                  intro W2 hW2_
                  have hW2 := ext_of hW2_
                  clear hW2_
                  go_wp2_with fail
                  go_meet
                  exact ⟨by rw [HOK.out]; simp [HK1.out, hab, hr], hW2⟩
            · have hab1 : decide (sb ≤ sa) = true := by simp; omega
              refine wp_region_ext (by kernel_rfl) (by kernel_rfl) ?_
              repeat (go_big_quiet_step ((fail)))
              refine wpQuiet_nil ?_
              intro W2 hW2_
              have hW2 := ext_of hW2_
              clear hW2_
              go_wp2_with fail
              go_meet
              exact ⟨by rw [HOK.out]; simp [hab], hW2⟩
          case rest =>
            obtain ⟨rfl, hWx⟩ := hcut
            cases hgd : okS ts ss j
            · have HB := Lib.hid (chk_bad (check_no_seg (ps := ps) hltj hgd))
              go_wp2_with fail
              go_ret
              exact ⟨ret_i64 HB.out, (hxj.trans hW).trans hWx⟩
            · have hfr := seg_fresh hltj HJ.out hgd
              rw [HT.out] at hfr
              have HGD := Lib.hid hgd
              clear hgd
              have t0' := hWx.cell t0
              have t1' := hWx.cell t1
              obtain ⟨V, hu, hmm2, hg, hsz⟩ := put_run ((hm2.ext hW).ext hWx) sa sb hfr
              go_wp2_with fail
              go_roundw
              case rel => exact ⟨j + 1, by omega, by go_num, by show (List.range (j + 1)).all (okS ts ss) = true; rw [range_all_succ, HJ.out, HGD.out]; rfl, ((hxj.trans hW).trans hWx).grown hg (by intro q hq; cases hq; omega), ((hm1.ext hW).ext hWx).grown hg (by simp; omega), by rw [take_snoc2 ss j hltj _ HT.out]; exact hmm2, hg.cell (hWx.cell (hW.cell m0)) (by simp; omega), hg.cell (hWx.cell (hW.cell m1)) (by simp; omega), hg.cell (hWx.cell (hW.cell m2)) (by simp; omega)⟩
              case measure => simp [intOf]; omega
        · have ej : j = ss.length := by omega
          have HJ' : Hid ((List.range ss.length).all (okS ts ss) = true) := by rw [← ej]; exact HJ
          have hm2' : MapS wr wo.heap.size (onL ss) := by
            rw [List.take_of_length_le (by omega)] at hm2
            exact hm2
          clear ej HJ hm2
          obtain ⟨V, hrg, hit, hV, hVz⟩ := range_run Try.underlying109 hm1
          go_wp2_with fail
          have hlen : (onL (allE ts)).length = (allE ts).length := by simp [onL]
          have HL := Lib.hid hlen
          clear hlen
          have hq1 : w.heap.size + 1 < wr.heap.size := hz1
          have hq2 : wo.heap.size < wr.heap.size := hz2
          go_loopg [] ((allE ts).length) (fun g W => ∃ (seen : Array Nat) (c0 : Nat), Hid (seen.toList.Nodup ∧ (∀ x ∈ seen.toList, x < (allE ts).length) ∧ (allE ts).length - seen.size ≤ g ∧ (∀ x ∈ seen.toList, ∀ s, (allE ts)[x]? = some s → revS s ∈ allE ts ∨ upS s ∈ ss)) ∧ Ext w W ∧ MapS W (w.heap.size + 1) (onL (allE ts)) ∧ MapS W wo.heap.size (onL ss) ∧ Hid (W.heap[wr.heap.size]? = some (.mapIter (some (w.heap.size + 1)) (onL (allE ts)).length seen c0)) ∧ (onL (allE ts)).length ≤ c0)
          case atStart => exact ⟨#[], (onL (allE ts)).length, ⟨List.nodup_nil, by simp, by simp, by simp⟩, hxj.trans hV, hm1.ext hV, hm2'.ext hV, hit, Nat.le_refl _⟩
          case round =>
            clear hit hrg hV hVz hm1 hm2'
            obtain ⟨seen, c0, HS, hxW, hn1, hn2, hit, hc0⟩ := hrel
            rcases next_run hn1 hit.out hc0 with ⟨hall, hnx⟩ | ⟨x, kv, W2, hmx, hns, hnx, hit2, hg2, hsz2⟩
            · have HB := Lib.hid (chk_good (check_yes HA'.out HN'.out HJ'.out (fun s hs => by
                obtain ⟨x, hx⟩ := List.getElem?_of_mem hs
                have hlt := (List.getElem?_eq_some_iff.1 hx).1
                exact HS.out.2.2.2 x (hall x (by rw [HL.out]; exact hlt)) s hx)))
              clear hall
              go_wp2_with fail
              go_ret
              exact ⟨ret_i64 HB.out, hxW⟩
            · obtain ⟨s, hsx, rfl⟩ := onL_get hmx
              obtain ⟨x0, y0⟩ := s
              have hn1' := hn1.grown hg2 (by simp; omega)
              have hn2' := hn2.grown hg2 (by simp; omega)
              have hen := entry_run hn1' hit2 hmx
              simp only [segV] at hnx hen
              have hA := (Ext.refl W2).alloc (Obj.cells #[Value.int IntKind.i64 x0, Value.int IntKind.i64 y0] 39)
              have hxW2 := hxW.grown hg2 (by intro q hq; cases hq; omega)
              have hl1 := has_run (hn1'.ext hA) y0 x0
              have hmem : (x0, y0) ∈ allE ts := List.mem_of_getElem? hsx
              have HNEW : Hid ((revS (x0, y0) ∈ allE ts ∨ upS (x0, y0) ∈ ss) → (seen.push x).toList.Nodup ∧ (∀ z ∈ (seen.push x).toList, z < (allE ts).length) ∧ (allE ts).length - (seen.push x).size < (allE ts).length - seen.size ∧ (∀ z ∈ (seen.push x).toList, ∀ s, (allE ts)[z]? = some s → revS s ∈ allE ts ∨ upS s ∈ ss)) := by
                intro hgood
                obtain ⟨s1, s2, s3, s4⟩ := HS.out
                have hxl := (List.getElem?_eq_some_iff.1 hsx).1
                have hnd : (seen.push x).toList.Nodup := by rw [Array.toList_push]; exact nodup_snoc s1 hns
                have hall : ∀ z ∈ (seen.push x).toList, z < (allE ts).length := fun z hz => by
                  rw [Array.toList_push, List.mem_append] at hz
                  rcases hz with hz | hz
                  · exact s2 z hz
                  · simp at hz; omega
                have hle := nodup_lt_length _ _ hnd hall
                refine ⟨hnd, hall, ?_, fun z hz s hs => ?_⟩
                · simp at hle ⊢; omega
                · rw [Array.toList_push, List.mem_append] at hz
                  rcases hz with hz | hz
                  · exact s4 z hz s hs
                  · simp at hz
                    subst hz
                    rw [hsx] at hs
                    cases hs
                    exact hgood
              have HG := Lib.hid HS.out.2.2.1
              by_cases q1 : (y0, x0) ∈ allE ts
              · have d1 : decide ((y0, x0) ∈ allE ts) = true := by simpa using q1
                rw [d1] at hl1
                have HP := Lib.hid (HNEW.out (Or.inl q1))
                clear q1 d1 hmem hsx hmx hns HNEW
                go_wp2_with fail
                go_roundg ((allE ts).length - (seen.push x).size)
                case measure => have h1 := HP.out.2.2.1; have h2 := HG.out; omega
                case rel => exact ⟨seen.push x, (onL (allE ts)).length, ⟨HP.out.1, HP.out.2.1, Nat.le_refl _, HP.out.2.2.2⟩, hxW2.trans hA, hn1'.ext hA, hn2'.ext hA, (hA.block _ (Array.getElem?_eq_some_iff.1 hit2).1).trans hit2, Nat.le_refl _⟩
              · have d1 : decide ((y0, x0) ∈ allE ts) = false := by simpa using q1
                rw [d1] at hl1
                by_cases q2 : upS (x0, y0) ∈ ss
                · have HP := Lib.hid (HNEW.out (Or.inr q2))
                  have d2 : decide ((min x0 y0, max x0 y0) ∈ ss) = true := by simpa [upS] using q2
                  clear q1 d1 hmem hsx hmx hns HNEW q2
                  go_wp2_with fail
                  refine (up_any x0 y0 _).mono ?_
                  rintro e W3 ⟨rfl, hW3⟩
                  have hl2 := has_run ((hn2'.ext hA).ext hW3) (min x0 y0) (max x0 y0)
                  rw [d2] at hl2
                  go_wp2_with fail
                  go_roundg ((allE ts).length - (seen.push x).size)
                  case measure => have h1 := HP.out.2.2.1; have h2 := HG.out; omega
                  case rel => exact ⟨seen.push x, (onL (allE ts)).length, ⟨HP.out.1, HP.out.2.1, Nat.le_refl _, HP.out.2.2.2⟩, (hxW2.trans hA).trans hW3, (hn1'.ext hA).ext hW3, (hn2'.ext hA).ext hW3, ((hA.trans hW3).block _ (Array.getElem?_eq_some_iff.1 hit2).1).trans hit2, Nat.le_refl _⟩
                · have HB := Lib.hid (chk_bad (ps := ps) (check_no_rim hmem q1 q2))
                  have d2 : decide ((min x0 y0, max x0 y0) ∈ ss) = false := by simpa [upS] using q2
                  clear q1 d1 hmem hsx hmx hns HNEW q2
                  go_wp2_with fail
                  refine (up_any x0 y0 _).mono ?_
                  rintro e W3 ⟨rfl, hW3⟩
                  have hl2 := has_run ((hn2'.ext hA).ext hW3) (min x0 y0) (max x0 y0)
                  rw [d2] at hl2
                  go_wp2_with fail
                  go_ret
                  exact ⟨ret_i64 HB.out, (hxW2.trans hA).trans hW3⟩
end Go.Proofs.Ytagofpmcbbkmgaa
