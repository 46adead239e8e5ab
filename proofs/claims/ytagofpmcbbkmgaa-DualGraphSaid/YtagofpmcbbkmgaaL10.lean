/- Maps whose keys are segments, that a call makes: looked up, written. -/
import Derived.Test.YtagofpmcbbkmgaaL9
import Derived.WideKeyRuns
import Derived.Maps.RangeRun
namespace Go.Proofs.Ytagofpmcbbkmgaa
open Go.RowKit

/-- A segment as a value. -/
def segV (s : Int × Int) : Value := .agg #[.int .i64 s.1, .int .i64 s.2]

theorem eqSeg_run (a b : Int × Int) (w : World) : (Op.equal 39 (segV a) (segV b)).run Try.prog w = .ok (decide (a = b)) w := by
  have u3 := Try.underlying3
  have a3 := Try.isAgg3
  have z3 := Try.sizeOf3
  have hS : Try.prog.underlying 39 = some (.struct (Try.prog.fieldsOf 39)) := by kernel_rfl
  have hp : Try.prog.stoodInHeld 39 = false := by kernel_rfl
  unfold segV Op.equal Op.maxDepth
  rw [show (10000 : Nat) = 9999 + 1 from rfl, run_equalIn_agg w 9999 39 _ _ hS hp]
  simp only [Program.fieldsOf, Try.underlying39]
  go_simp
  obtain ⟨a1, a2⟩ := a
  obtain ⟨b1, b2⟩ := b
  by_cases h1 : a1 = b1 <;> by_cases h2 : a2 = b2 <;> simp [h1, h2]

theorem eqSeg_op (a b : Int × Int) (w : World) : (binOp .eql 39 (segV a) (segV b)).run Try.prog w = .ok (.bool (decide (a = b))) w := by
  have h := eqSeg_run a b w
  unfold Op.equal Op.maxDepth segV at h
  unfold segV
  rw [run_eql_struct, h]
  rfl
theorem neqSeg_op (a b : Int × Int) (w : World) : (binOp .neq 39 (segV a) (segV b)).run Try.prog w = .ok (.bool (!decide (a = b))) w := by
  have h := eqSeg_run a b w
  unfold Op.equal Op.maxDepth segV at h
  unfold segV
  rw [run_neq_struct, h]
  rfl

theorem checkKey_int (em : Bool) (n : Nat) (a : Int) (w : World) : (Instr.checkKey em (n + 1) 3 (.int .i64 a)).run Try.prog w = .ok () w := by
  simp [Instr.checkKey, run_underlying Try.underlying3]
theorem checkKey_segN (em : Bool) (n : Nat) (a : Int × Int) (w : World) : (Instr.checkKey em (n + 1 + 1) 39 (segV a)).run Try.prog w = .ok () w := by
  have u3 := Try.underlying3
  have a3 := Try.isAgg3
  have z3 := Try.sizeOf3
  have hc := fun (x : Int) (w : World) => checkKey_int em n x w
  unfold segV
  rw [Instr.checkKey]
  simp only [Sem.run_bind, run_underlying Try.underlying39, Result.andThen_ok]
  generalize Instr.checkKey em (n + 1) = ck at *
  go_simp
theorem checkKey_seg (em : Bool) (a : Int × Int) (w : World) : (Instr.checkKey em 10000 39 (segV a)).run Try.prog w = .ok () w := checkKey_segN em 9998 a w

/-- The entries of a map: in the order in which they came. -/
def mkE (i : Nat) (kv : (Int × Int) × Value) : MapEntry := { key := segV kv.1, val := kv.2, born := i }
def mkEs : Nat → List ((Int × Int) × Value) → List MapEntry
  | _, [] => []
  | i, kv :: m => mkE i kv :: mkEs (i + 1) m
/-- Block b is this map. -/
def MapS (w : World) (b : Nat) (m : List ((Int × Int) × Value)) : Prop := w.heap[b]? = some (.map (mkEs 0 m).toArray m.length)

def mfind (k : Int × Int) : Nat → List ((Int × Int) × Value) → Option (Nat × Value)
  | _, [] => none
  | i, kv :: m => if k = kv.1 then some (i, kv.2) else mfind k (i + 1) m
theorem findAsking_run (k : Int × Int) (w : World) : ∀ (m : List ((Int × Int) × Value)) (i j : Nat), (Instr.findAsking 39 (segV k) (mkEs j m) i).run Try.prog w = .ok (mfind k i m) w
  | [], i, j => by simp [mkEs, Instr.findAsking, mfind]
  | kv :: m, i, j => by
    simp only [mkEs, Instr.findAsking, Sem.run_bind]
    rw [show (mkE j kv).key = segV kv.1 from rfl, eqSeg_run]
    simp only [Result.andThen_ok, mfind]
    by_cases h : k = kv.1
    · simp [h, mkE]
    · simp [h, findAsking_run k w m (i + 1) (j + 1)]
theorem findKey_run (k : Int × Int) (w : World) (m : List ((Int × Int) × Value)) : (Instr.findKey 39 (segV k) (mkEs 0 m)).run Try.prog w = .ok (mfind k 0 m) w := by
  rw [run_findKey_eq w (by kernel_rfl), findAsking_run]

theorem lookup_run {T E : TypeId} (hT : Try.prog.underlying T = some (.map 39 E)) (z : Value) (hz : ∀ w, (zeroValue E).run Try.prog w = .ok z w) {w : World} {b : Nat} {m : List ((Int × Int) × Value)} (h : MapS w b m) (k : Int × Int) :
    (Instr.lookup T (.map (some b)) (segV k) false).run Try.prog w = .ok (((mfind k 0 m).map (·.2)).getD z) w := by
  unfold Instr.lookup
  simp only [Sem.run_bind, run_underlying hT, Result.andThen_ok]
  have hg : (getObj b).run Try.prog w = .ok (.map (mkEs 0 m).toArray m.length) w := by
    unfold MapS at h
    simp [getObj, Sem.run, h]
  simp only [Sem.run_bind, hg, Result.andThen_ok, checkKey_seg, Sem.run_pure]
  rw [findKey_run]
  simp only [Result.andThen_ok]
  cases mfind k 0 m with
  | none => simp [hz]
  | some iv => simp

theorem mkEs_length : ∀ (m : List ((Int × Int) × Value)) (i : Nat), (mkEs i m).length = m.length
  | [], _ => rfl
  | _ :: m, i => by simp [mkEs, mkEs_length m (i + 1)]
theorem mkEs_append (kv : (Int × Int) × Value) : ∀ (m : List ((Int × Int) × Value)) (i : Nat), mkEs i (m ++ [kv]) = mkEs i m ++ [mkE (i + m.length) kv]
  | [], _ => by simp [mkEs]
  | _ :: m, i => by simp [mkEs, mkEs_append kv m (i + 1), Nat.add_assoc, Nat.add_comm 1]
theorem mkEs_get : ∀ (m : List ((Int × Int) × Value)) (i j : Nat), (mkEs i m)[j]? = (m[j]?).map (mkE (i + j))
  | [], _, j => by simp [mkEs]
  | _ :: m, i, 0 => by simp [mkEs]
  | _ :: m, i, j + 1 => by simp [mkEs, mkEs_get m (i + 1) j, Nat.add_assoc, Nat.add_comm 1]
theorem mkEs_born : ∀ (m : List ((Int × Int) × Value)) (i : Nat), (mkEs i m).map (·.born) = List.range' i m.length
  | [], _ => by simp [mkEs]
  | _ :: m, i => by simp [mkEs, mkE, mkEs_born m (i + 1), List.range'_succ]

open Go.ChangeMaps (setBlock)
theorem MapS.lt {w : World} {b : Nat} {m : List ((Int × Int) × Value)} (h : MapS w b m) : b < w.heap.size := (Array.getElem?_eq_some_iff.1 h).1
theorem MapS.ext {w w' : World} {b : Nat} {m : List ((Int × Int) × Value)} (h : MapS w b m) (hx : Ext w w') : MapS w' b m := (hx.block b h.lt).trans h
theorem MapS.grown {w w' : World} {b : Nat} {m : List ((Int × Int) × Value)} {row : Option Nat} (h : MapS w b m) (hg : w.grownBy w' row) (hne : some b ≠ row) : MapS w' b m := (hg.block b h.lt hne).trans h
theorem Ext.grown {a w w' : World} {row : Option Nat} (h : Ext a w) (hg : w.grownBy w' row) (hr : ∀ k, row = some k → a.heap.size ≤ k) : Ext a w' := Below.grown h hg (Below.size h) hr
theorem Ext.toGrown {w w' : World} (h : Ext w w') (row : Option Nat) : w.grownBy w' row := ⟨h.os, h.tape, h.output, h.size, fun k hk _ => h.block k hk⟩
theorem grown_setBlock (w : World) (b : Nat) (o : Obj) : w.grownBy (setBlock w b o) (some b) :=
  ⟨rfl, rfl, rfl, by simp [setBlock], fun k hk hne => by
    simp only [setBlock, Array.getElem?_setIfInBounds]
    rw [if_neg (fun e => hne (by rw [e]))]⟩

/-- A new map. -/
theorem makeMap_run (T : TypeId) (w : World) : ∃ w', (Instr.makeMap T none).run Try.prog w = .ok (.map (some w.heap.size)) w' ∧ MapS w' w.heap.size [] ∧ Ext w w' ∧ w'.heap.size = w.heap.size + 1 := by
  refine ⟨w.alloc (.map #[] 0), rfl, ?_, (Ext.refl _).alloc _, by simp⟩
  exact heap_alloc_new w _

/-- A key that was not there. -/
theorem update_run {T E : TypeId} (hT : Try.prog.underlying T = some (.map 39 E)) {w : World} {b : Nat} {m : List ((Int × Int) × Value)} (h : MapS w b m) (k : Int × Int) (v : Value) (hn : mfind k 0 m = none) :
    ∃ w', (Instr.mapUpdate T (.map (some b)) (segV k) v).run Try.prog w = .ok () w' ∧ MapS w' b (m ++ [(k, v)]) ∧ w.grownBy w' (some b) ∧ w'.heap.size = w.heap.size := by
  have hg : (getObj b).run Try.prog w = .ok (.map (mkEs 0 m).toArray m.length) w := by
    have h' := h
    unfold MapS at h'
    simp [getObj, Sem.run, h']
  have hs : ∀ o, (setObj b o).run Try.prog w = .ok () (setBlock w b o) := fun o => by
    have h' := h
    unfold MapS at h'
    simp [setObj, Sem.run, h', setBlock]
  refine ⟨setBlock w b (.map (mkEs 0 (m ++ [(k, v)])).toArray (m ++ [(k, v)]).length), ?_, ?_, grown_setBlock _ _ _, by simp [setBlock]⟩
  · unfold Instr.mapUpdate
    simp only [Sem.run_bind, run_underlying hT, Result.andThen_ok, hg, checkKey_seg]
    rw [findKey_run, hn]
    simp only [Result.andThen_ok, hs]
    simp [mkEs_append, mkE]
  · unfold MapS setBlock
    rw [Array.getElem?_setIfInBounds]
    simp [h.lt]

/-- A step of a range over a map. -/
theorem next_run {w : World} {r b c0 : Nat} {seen : Array Nat} {m : List ((Int × Int) × Value)} (h : MapS w b m) (hr : w.heap[r]? = some (.mapIter (some b) m.length seen c0)) (hc : m.length ≤ c0) :
    ((∀ j, j < m.length → j ∈ seen.toList) ∧ ∀ ty, (Instr.next (.pointer (some ⟨r, 0, none⟩)) false ty).run Try.prog w = .ok (.tuple #[.bool false]) w) ∨
    ∃ j kv w', m[j]? = some kv ∧ j ∉ seen.toList ∧ (∀ ty, (Instr.next (.pointer (some ⟨r, 0, none⟩)) false ty).run Try.prog w = .ok (.tuple #[.bool true, segV kv.1, kv.2]) w') ∧ w'.heap[r]? = some (.mapIter (some b) m.length (seen.push j) m.length) ∧ w.grownBy w' (some r) ∧ w'.heap.size = w.heap.size := by
  have hold : ∀ x ∈ (mkEs 0 m).toArray.toList, x.born < m.length := fun x hx => by
    have hx' : x.born ∈ (mkEs 0 m).map (·.born) := List.mem_map_of_mem (by simpa using hx)
    rw [mkEs_born, List.mem_range'] at hx'
    obtain ⟨i, hi, e⟩ := hx'
    omega
  have hlt : r < w.heap.size := (Array.getElem?_eq_some_iff.1 hr).1
  rcases run_next_at (P := Try.prog) w 0 r b m.length c0 seen (mkEs 0 m).toArray m.length hr h hold hc with ⟨h0, h1⟩ | ⟨e, he, w1, hw1, h1⟩
  · left
    refine ⟨fun j hj => ?_, fun ty => h1⟩
    have hz : leftOf (mkEs 0 m).toArray seen = #[] := Array.eq_empty_of_size_eq_zero h0
    unfold leftOf at hz
    rw [Array.filter_eq_empty_iff] at hz
    have hm : mkE (0 + j) m[j] ∈ (mkEs 0 m).toArray := by
      rw [List.mem_toArray]
      exact List.mem_of_getElem? (i := j) (by rw [mkEs_get, List.getElem?_eq_getElem hj]; rfl)
    have := hz _ hm
    simpa [mkE] using this
  · right
    unfold leftOf at he
    rw [Array.toList_filter, List.mem_filter] at he
    obtain ⟨he1, he2⟩ := he
    obtain ⟨j, hj⟩ := List.getElem?_of_mem he1
    have hj' : (mkEs 0 m)[j]? = some e := by simpa using hj
    rw [mkEs_get] at hj'
    cases hmj : m[j]? with
    | none => rw [hmj] at hj'; cases hj'
    | some kv =>
      rw [hmj] at hj'
      simp only [Option.map_some, Option.some.injEq, Nat.zero_add] at hj'
      subst hj'
      refine ⟨j, kv, setBlock w1 r (.mapIter (some b) m.length (seen.push j) m.length), hmj, ?_, fun ty => h1, ?_, ?_, ?_⟩
      · simpa [mkE] using he2
      · have : r < w1.heap.size := by rcases hw1 with rfl | rfl <;> exact hlt
        unfold setBlock
        rw [Array.getElem?_setIfInBounds]
        simp [this]
      · have hg1 := grown_setBlock w1 r (.mapIter (some b) m.length (seen.push j) m.length)
        rcases hw1 with rfl | rfl
        · exact hg1
        · exact ⟨hg1.os, hg1.tape, hg1.output, hg1.size, hg1.block⟩
      · rcases hw1 with rfl | rfl <;> simp [setBlock]
theorem entry_run {w : World} {r b since j : Nat} {seen : Array Nat} {m : List ((Int × Int) × Value)} {kv : (Int × Int) × Value} (h : MapS w b m) (hr : w.heap[r]? = some (.mapIter (some b) since (seen.push j) m.length)) (hj : m[j]? = some kv) :
    (Instr.entry (.pointer (some ⟨r, 0, none⟩))).run Try.prog w = .ok (.tuple #[segV kv.1, kv.2]) w := by
  have he : mkE j kv ∈ (mkEs 0 m).toArray.toList := List.mem_of_getElem? (i := j) (by simp [mkEs_get, hj])
  exact run_entry_at (P := Try.prog) w r b since seen (mkEs 0 m).toArray m.length (mkE j kv) hr h he (by simp [mkEs_born, List.nodup_range'])
theorem range_run {T E : TypeId} (hT : Try.prog.underlying T = some (.map 39 E)) {w : World} {b : Nat} {m : List ((Int × Int) × Value)} (h : MapS w b m) :
    ∃ w', (Instr.range T (.map (some b))).run Try.prog w = .ok (.pointer (some ⟨w.heap.size, 0, none⟩)) w' ∧ w'.heap[w.heap.size]? = some (.mapIter (some b) m.length #[] m.length) ∧ Ext w w' ∧ w'.heap.size = w.heap.size + 1 := by
  have hg : (getObj b).run Try.prog w = .ok (.map (mkEs 0 m).toArray m.length) w := by
    have h' := h
    unfold MapS at h'
    simp [getObj, Sem.run, h']
  refine ⟨w.alloc (.mapIter (some b) m.length #[] m.length), ?_, heap_alloc_new w _, (Ext.refl _).alloc _, by simp⟩
  unfold Instr.range
  simp only [Sem.run_bind, run_underlying hT, Result.andThen_ok, hg, Sem.run_pure]
  rfl
end Go.Proofs.Ytagofpmcbbkmgaa
