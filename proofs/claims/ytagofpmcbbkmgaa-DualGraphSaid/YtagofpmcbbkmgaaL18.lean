/- Package dual: Pairs, in plain Lean: the edges of all triangles in a row, who has one, the pairs. -/
import Derived.Test.YtagofpmcbbkmgaaL17
namespace Go.Proofs.Ytagofpmcbbkmgaa
open Go.RowKit Go.Sort

/-- edge number n of all, in its direction -/
def edgeN (ts : List (Int × Int × Int)) (n : Nat) : Int × Int := ((sideT (at3 ts (n / 3)) (n % 3)).1, (sideT (at3 ts (n / 3)) (n % 3)).2.1)
/-- the map's n first entries -/
def ofN (ts : List (Int × Int × Int)) (n : Nat) : List ((Int × Int) × Value) := (List.range n).map fun n => (edgeN ts n, .int .i64 (n / 3 : Nat))
theorem ofN_succ (ts : List (Int × Int × Int)) (n : Nat) : ofN ts (n + 1) = ofN ts n ++ [(edgeN ts n, .int .i64 (n / 3 : Nat))] := by
  unfold ofN; rw [List.range_succ]; simp
/-- which edge is it, among n? -/
def edgeIx (ts : List (Int × Int × Int)) (s : Int × Int) (n : Nat) : Option Nat := (List.range n).find? fun i => decide (s = edgeN ts i)
theorem mfind_map (ts : List (Int × Int × Int)) (s : Int × Int) : ∀ (l : List Nat) (i : Nat), (mfind s i (l.map fun n => (edgeN ts n, Value.int .i64 (n / 3 : Nat)))).map (·.2) = (l.find? fun i => decide (s = edgeN ts i)).map fun n => .int .i64 (n / 3 : Nat)
  | [], _ => rfl
  | x :: l, i => by
    simp only [List.map_cons, mfind, List.find?_cons]
    by_cases h : s = edgeN ts x
    · simp [h]
    · rw [if_neg h, mfind_map ts s l (i + 1)]; simp [h]
theorem mfind_ofN (ts : List (Int × Int × Int)) (s : Int × Int) (n : Nat) : (mfind s 0 (ofN ts n)).map (·.2) = (edgeIx ts s n).map fun n => .int .i64 (n / 3 : Nat) := mfind_map ts s _ 0

theorem allE_edgeN (ts : List (Int × Int × Int)) : ∀ k, k ≤ ts.length → allE (ts.take k) = (List.range (3 * k)).map (edgeN ts)
  | 0, _ => by simp [allE]
  | k + 1, h => by
    have ih := allE_edgeN ts k (by omega)
    obtain ⟨a, b, c, ht⟩ : ∃ a b c, at3 ts k = (a, b, c) := ⟨_, _, _, rfl⟩
    rw [allE_take_succ ts k (by omega) a b c ht, ih, show 3 * (k + 1) = 3 * k + 1 + 1 + 1 by omega, List.range_succ, List.range_succ, List.range_succ]
    simp only [List.map_append, List.map_cons, List.map_nil, List.append_assoc]
    have e0 : edgeN ts (3 * k) = (a, b) := by unfold edgeN; rw [show 3 * k / 3 = k by omega, show 3 * k % 3 = 0 by omega, ht]; rfl
    have e1 : edgeN ts (3 * k + 1) = (b, c) := by unfold edgeN; rw [show (3 * k + 1) / 3 = k by omega, show (3 * k + 1) % 3 = 1 by omega, ht]; rfl
    have e2 : edgeN ts (3 * k + 1 + 1) = (c, a) := by unfold edgeN; rw [show (3 * k + 1 + 1) / 3 = k by omega, show (3 * k + 1 + 1) % 3 = 2 by omega, ht]; rfl
    rw [e0, e1, e2]
theorem chk_nodup {ps : List (Int × Int)} {ts : List (Int × Int × Int)} {ss : List (Int × Int)} (h : chkI ps ts ss = 0) : (allE ts).Nodup := by
  have hc := chk_check h
  unfold checkB at hc
  simp only [Bool.and_eq_true] at hc
  exact of_decide_eq_true hc.1.1.2
theorem edgeN_inj {ts : List (Int × Int × Int)} (h : (allE ts).Nodup) {i j : Nat} (hi : i < 3 * ts.length) (hj : j < 3 * ts.length) (he : edgeN ts i = edgeN ts j) : i = j := by
  have ha := allE_edgeN ts ts.length (Nat.le_refl _)
  rw [List.take_length] at ha
  rw [ha] at h
  have := (List.getElem_inj (i := i) (j := j) (h₀ := by simpa using hi) (h₁ := by simpa using hj) h).1 (by simpa using he)
  exact this
theorem ofN_fresh {ts : List (Int × Int × Int)} (h : (allE ts).Nodup) {n : Nat} (hn : n < 3 * ts.length) : mfind (edgeN ts n) 0 (ofN ts n) = none := by
  have h1 := mfind_ofN ts (edgeN ts n) n
  have h2 : edgeIx ts (edgeN ts n) n = none := by
    unfold edgeIx
    rw [List.find?_eq_none]
    intro i hi
    have hi' := List.mem_range.1 hi
    simp only [decide_eq_true_eq]
    intro e
    have := edgeN_inj h hn (by omega) e
    omega
  rw [h2] at h1
  cases hm : mfind (edgeN ts n) 0 (ofN ts n) with
  | none => rfl
  | some v => rw [hm] at h1; cases h1

/-- who has an edge; none: nobody -/
def whoE (ts : List (Int × Int × Int)) (s : Int × Int) : Option Nat := (edgeIx ts s (3 * ts.length)).map (· / 3)
/-- the pair that is found at edge n -/
def candN (ps : List (Int × Int)) (ts : List (Int × Int × Int)) (ss : List (Int × Int)) (n : Nat) : List (Int × Int) :=
  match whoE ts (revS (edgeN ts n)) with
  | none => []
  | some k => if n / 3 < k ∧ (quadP ps ss (at3 ts (n / 3)) (at3 ts k)).isSome then [(((n / 3 : Nat) : Int), (k : Int))] else []
def outN (ps : List (Int × Int)) (ts : List (Int × Int × Int)) (ss : List (Int × Int)) : Nat → List (Int × Int)
  | 0 => []
  | n + 1 => outN ps ts ss n ++ candN ps ts ss n
theorem candN_length (ps : List (Int × Int)) (ts : List (Int × Int × Int)) (ss : List (Int × Int)) (n : Nat) : (candN ps ts ss n).length ≤ 1 := by
  unfold candN; split
  · simp
  · split <;> simp
theorem outN_length (ps : List (Int × Int)) (ts : List (Int × Int × Int)) (ss : List (Int × Int)) : ∀ n, (outN ps ts ss n).length ≤ n
  | 0 => by simp [outN]
  | n + 1 => by have := outN_length ps ts ss n; have := candN_length ps ts ss n; simp [outN]; omega
theorem whoE_lt {ts : List (Int × Int × Int)} {s : Int × Int} {k : Nat} (h : whoE ts s = some k) : k < ts.length := by
  unfold whoE at h
  rw [Option.map_eq_some_iff] at h
  obtain ⟨n, hn, rfl⟩ := h
  unfold edgeIx at hn
  have := List.mem_range.1 (List.mem_of_find?_eq_some hn)
  omega

theorem lookup2_run {T E : TypeId} (hT : Try.prog.underlying T = some (.map 39 E)) (z : Value) (hz : ∀ w, (zeroValue E).run Try.prog w = .ok z w) {w : World} {b : Nat} {m : List ((Int × Int) × Value)} (h : MapS w b m) (k : Int × Int) :
    (Instr.lookup T (.map (some b)) (segV k) true).run Try.prog w = .ok (.tuple #[((mfind k 0 m).map (·.2)).getD z, .bool ((mfind k 0 m).map (·.2)).isSome]) w := by
  unfold Instr.lookup
  simp only [Sem.run_bind, run_underlying hT, Result.andThen_ok]
  have hg : (getObj b).run Try.prog w = .ok (.map (mkEs 0 m).toArray m.length) w := by
    unfold MapS at h
    simp [getObj, Sem.run, h]
  simp only [Sem.run_bind, hg, Result.andThen_ok, checkKey_seg, Sem.run_pure]
  rw [findKey_run]
  simp only [Result.andThen_ok]
  cases mfind k 0 m with
  | none => simp [hz]
  | some iv => simp
/-- What the map tells. -/
theorem who_run {w : World} {b : Nat} {ts : List (Int × Int × Int)} (h : MapS w b (ofN ts (3 * ts.length))) (x y : Int) :
    (Instr.lookup 86 (.map (some b)) (.agg #[.int .i64 x, .int .i64 y]) true).run Try.prog w = .ok (.tuple #[.int .i64 ((whoE ts (x, y)).getD 0 : Nat), .bool (whoE ts (x, y)).isSome]) w := by
  have := lookup2_run Try.underlying86 (.int .i64 0) Try.zeroValue3 h (x, y)
  rw [mfind_ofN] at this
  unfold whoE
  cases hx : edgeIx ts (x, y) (3 * ts.length) with
  | none => rw [hx] at this; exact this
  | some n => rw [hx] at this; exact this
theorem of_run {w : World} {b : Nat} {ts : List (Int × Int × Int)} {n : Nat} (hd : (allE ts).Nodup) (hn : n < 3 * ts.length) (h : MapS w b (ofN ts n)) (x y : Int) (i : Nat) (hi : n / 3 = i) (he : edgeN ts n = (x, y)) :
    ∃ w', (Instr.mapUpdate 86 (.map (some b)) (.agg #[.int .i64 x, .int .i64 y]) (.int .i64 i)).run Try.prog w = .ok () w' ∧ MapS w' b (ofN ts (n + 1)) ∧ w.grownBy w' (some b) ∧ w'.heap.size = w.heap.size := by
  subst hi
  obtain ⟨w', h1, h2, h3, h4⟩ := update_run Try.underlying86 h (x, y) (.int .i64 (n / 3 : Nat)) (by rw [← he]; exact ofN_fresh hd hn)
  exact ⟨w', h1, by rw [ofN_succ, he]; exact h2, h3, h4⟩

theorem candN_spec {ps : List (Int × Int)} {ts : List (Int × Int × Int)} {ss : List (Int × Int)} {n : Nat} {x : Int × Int} (h : x ∈ candN ps ts ss n) :
    ∃ k : Nat, x = (((n / 3 : Nat) : Int), (k : Int)) ∧ whoE ts (revS (edgeN ts n)) = some k ∧ n / 3 < k ∧ (quadP ps ss (at3 ts (n / 3)) (at3 ts k)).isSome = true ∧ candN ps ts ss n = [x] := by
  cases hw : whoE ts (revS (edgeN ts n)) with
  | none => unfold candN at h; rw [hw] at h; simp at h
  | some k =>
    unfold candN at h ⊢
    rw [hw] at h ⊢
    simp only at h ⊢
    by_cases hc : n / 3 < k ∧ (quadP ps ss (at3 ts (n / 3)) (at3 ts k)).isSome = true
    · rw [if_pos hc] at h ⊢
      have hx : x = _ := List.mem_singleton.1 h
      subst hx
      exact ⟨k, rfl, rfl, hc.1, hc.2, rfl⟩
    · rw [if_neg hc] at h; cases h
theorem whoE_spec {ts : List (Int × Int × Int)} {s : Int × Int} {k : Nat} (h : whoE ts s = some k) : ∃ j, j < 3 ∧ s = ((sideT (at3 ts k) j).1, (sideT (at3 ts k) j).2.1) := by
  unfold whoE at h
  rw [Option.map_eq_some_iff] at h
  obtain ⟨n, hn, rfl⟩ := h
  unfold edgeIx at hn
  have h1 := List.find?_some hn
  simp only [decide_eq_true_eq] at h1
  exact ⟨n % 3, by omega, h1⟩
/-- edge p of a is an edge of b, the other way round -/
def meets (a b : Int × Int × Int) (p : Nat) : Prop := ∃ j, j < 3 ∧ (sideT a p).1 = (sideT b j).2.1 ∧ (sideT a p).2.1 = (sideT b j).1
theorem shRow_ge (s : (Int × Int × Int × Int) × Int) (x b : Int × Int × Int) (i : Nat) (hm : x.1 = (sideT b i).2.1 ∧ x.2.1 = (sideT b i).1) : ∀ j, i < j → s.2 + 1 ≤ (shRow s x b j).2
  | 0, h => by omega
  | j + 1, h => by
    simp only [shRow]
    by_cases e : i = j
    · subst e
      have h1 := (shRow_bd s x b i).1
      unfold shStep
      rw [if_pos hm]
      simp only
      omega
    · have ih := shRow_ge s x b i hm j (by omega)
      have h2 := (shStep_bd (shRow s x b j) x (sideT b j)).1
      omega
theorem shAll_step (a b : Int × Int × Int) (i : Nat) : (shAll a b i).2 ≤ (shAll a b (i + 1)).2 ∧ (meets a b i → (shAll a b i).2 + 1 ≤ (shAll a b (i + 1)).2) := by
  simp only [shAll]
  exact ⟨(shRow_bd _ _ _ 3).1, fun ⟨j, hj, hm⟩ => shRow_ge _ _ _ j hm 3 hj⟩
theorem meets_one {a b : Int × Int × Int} (h : (sharedP a b).2 = true) {p q : Nat} (hp : p < 3) (hq : q < 3) (hmp : meets a b p) (hmq : meets a b q) : p = q := by
  have hc : (shAll a b 3).2 = 1 := by simpa [sharedP] using h
  have h0 : (shAll a b 0).2 = 0 := rfl
  have s0 := shAll_step a b 0
  have s1 := shAll_step a b 1
  have s2 := shAll_step a b 2
  simp only [Nat.zero_add, Nat.reduceAdd] at s0 s1 s2
  have hp' : p = 0 ∨ p = 1 ∨ p = 2 := by omega
  have hq' : q = 0 ∨ q = 1 ∨ q = 2 := by omega
  rcases hp' with rfl | rfl | rfl <;> rcases hq' with rfl | rfl | rfl <;> first
    | rfl
    | (exfalso
       first
         | (have t0 := s0.2 hmp; have t1 := s1.2 hmq; omega)
         | (have t0 := s0.2 hmq; have t1 := s1.2 hmp; omega)
         | (have t0 := s0.2 hmp; have t1 := s2.2 hmq; omega)
         | (have t0 := s0.2 hmq; have t1 := s2.2 hmp; omega)
         | (have t0 := s1.2 hmp; have t1 := s2.2 hmq; omega)
         | (have t0 := s1.2 hmq; have t1 := s2.2 hmp; omega))
theorem quadP_shared {ps ss : List (Int × Int)} {a b : Int × Int × Int} (h : (quadP ps ss a b).isSome = true) : (sharedP a b).2 = true := by
  unfold quadP at h
  simp only at h
  by_cases hc : (sharedP a b).2 = true
  · exact hc
  · rw [if_neg (fun h' => hc h'.1)] at h; cases h
theorem outN_mem {ps : List (Int × Int)} {ts : List (Int × Int × Int)} {ss : List (Int × Int)} {x : Int × Int} : ∀ {n : Nat}, x ∈ outN ps ts ss n ↔ ∃ m, m < n ∧ x ∈ candN ps ts ss m
  | 0 => by simp [outN]
  | n + 1 => by
    have ih := @outN_mem ps ts ss x n
    simp only [outN, List.mem_append, ih]
    constructor
    · rintro (⟨m, hm, h⟩ | h)
      · exact ⟨m, by omega, h⟩
      · exact ⟨n, by omega, h⟩
    · rintro ⟨m, hm, h⟩
      by_cases e : m = n
      · subst e; exact Or.inr h
      · exact Or.inl ⟨m, by omega, h⟩
theorem cand_meets {ps : List (Int × Int)} {ts : List (Int × Int × Int)} {ss : List (Int × Int)} {n k : Nat} (hw : whoE ts (revS (edgeN ts n)) = some k) : meets (at3 ts (n / 3)) (at3 ts k) (n % 3) := by
  obtain ⟨j, hj, he⟩ := whoE_spec hw
  unfold edgeN revS at he
  simp only [Prod.mk.injEq] at he
  exact ⟨j, hj, he.2, he.1⟩
theorem cand_once {ps : List (Int × Int)} {ts : List (Int × Int × Int)} {ss : List (Int × Int)} {m n : Nat} {x : Int × Int} (h1 : x ∈ candN ps ts ss m) (h2 : x ∈ candN ps ts ss n) : m = n := by
  obtain ⟨k1, e1, w1, _, q1, _⟩ := candN_spec h1
  obtain ⟨k2, e2, w2, _, q2, _⟩ := candN_spec h2
  rw [e1] at e2
  simp only [Prod.mk.injEq, Int.natCast_inj] at e2
  obtain ⟨hd, rfl⟩ := e2
  have m1 := cand_meets (ps := ps) (ss := ss) w1
  have m2 := cand_meets (ps := ps) (ss := ss) w2
  rw [← hd] at m2
  have := meets_one (quadP_shared q1) (by omega) (by omega) m1 m2
  omega
theorem outN_nodup (ps : List (Int × Int)) (ts : List (Int × Int × Int)) (ss : List (Int × Int)) : ∀ n, (outN ps ts ss n).Nodup
  | 0 => List.nodup_nil
  | n + 1 => by
    simp only [outN]
    rw [List.nodup_append]
    refine ⟨outN_nodup ps ts ss n, ?_, ?_⟩
    · have := candN_length ps ts ss n
      match candN ps ts ss n, this with
      | [], _ => exact List.nodup_nil
      | [a], _ => simp
      | a :: b :: l, h => simp at h
    · rintro x hx y hy rfl
      obtain ⟨m, hm, h⟩ := outN_mem.1 hx
      have := cand_once h hy
      omega
theorem sortS_ne {l : List (Int × Int)} (h : l.Nodup) : ∀ j, j + 1 < (sortS l).length → at2 (sortS l) (j + 1) ≠ at2 (sortS l) j := by
  have hn : (sortS l).Nodup := (List.mergeSort_perm l _).nodup_iff.2 h
  intro j hj
  unfold at2
  rw [List.getD_eq_getElem?_getD, List.getD_eq_getElem?_getD, List.getElem?_eq_getElem hj, List.getElem?_eq_getElem (by omega : j < (sortS l).length)]
  simp only [Option.getD_some]
  intro e
  have := (List.getElem_inj hn).1 e
  omega
end Go.Proofs.Ytagofpmcbbkmgaa
