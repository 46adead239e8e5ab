/- The base: a world that has only grown since another one ('Ext'); regions that draw their order, whose operations read and whose callees only make memory. -/
import Derived.Test.YtagofpmcbbkmgaaProg
import Derived.WalkKit
import Derived.WalkSpells
import Derived.WalkLawsBesides
import Derived.Deep.QuietTactic
import Derived.BigQuiet
import Derived.Lib.Hide
import Derived.ChangeKeysEq
import Derived.Laws.StructEq
namespace Go.Proofs.Ytagofpmcbbkmgaa
open Go.RowKit

theorem ret_u64 {a b : Int} (h : a = b) : Ending.returned (.int .u64 a) = .returned (.int .u64 b) := by rw [h]
theorem ret_i64 {a b : Int} (h : a = b) : Ending.returned (.int .i64 a) = .returned (.int .i64 b) := by rw [h]
theorem ret_bool {a b : Bool} (h : a = b) : Ending.returned (.bool a) = .returned (.bool b) := by rw [h]

/-- A later world: what was there before is as it was. -/
def Ext (w w' : World) : Prop := Below w.heap.size w w'
theorem Ext.refl (w : World) : Ext w w := Below.refl _ _
theorem Ext.trans {a b c : World} (h : Ext a b) (k : Ext b c) : Ext a c := Below.trans h (Below.mono k (Below.size h))
theorem Ext.alloc {a w : World} (h : Ext a w) (o : Obj) : Ext a (w.alloc o) := Below.alloc h (Below.size h) o
theorem Ext.drew {a w : World} (h : Ext a w) : Ext a w.drew := Below.drew h
theorem Ext.drewN {a w : World} (h : Ext a w) (n : Nat) : Ext a (w.drewN n) := ⟨h.os, h.tape, h.output, h.size, h.block⟩
theorem Ext.cell {a w : World} (h : Ext a w) {p : Addr} {v : Value} (hc : a.cell? p = some v) : w.cell? p = some v := (Below.cell h (World.block_lt_of_cell? a p hc)).trans hc
theorem Ext.frozen {a w : World} (h : Ext a w) {p : Addr} {v : Value} (hc : a.cell? p = some v) (hf : a.frozen? p = false) : w.frozen? p = false := (Below.frozen h (World.block_lt_of_cell? a p hc)).trans hf
theorem Ext.setCell {a w : World} (h : Ext a w) {p : Addr} (hp : a.heap.size ≤ p.block) (u : Value) : Ext a (w.setCell p u) := Below.setCell h hp u
theorem Ext.lt {a w : World} (h : Ext a w) {b : Nat} (hb : b < a.heap.size) : b < w.heap.size := Nat.lt_of_lt_of_le hb h.size

/-- How a later world differs. -/
structure ExtBy where
  n : Nat
  os : Array Obj
instance : Inhabited ExtBy := ⟨⟨0, #[]⟩⟩
def extW (w : World) (n : Nat) (os : Array Obj) : World := { w with heap := w.heap ++ os, drawn := n }
theorem ext_extW (w : World) (n : Nat) (os : Array Obj) : Ext w (extW w n os) :=
  ⟨rfl, rfl, rfl, by simp [extW], fun k hk => by simp [extW, Array.getElem?_append, hk]⟩
theorem extW_of {w w' : World} (h : Ext w w') : ∃ p : ExtBy, w' = extW w p.n p.os := by
  refine ⟨⟨w'.drawn, w'.heap.extract w.heap.size w'.heap.size⟩, ?_⟩
  obtain ⟨heap, tape, drawn, os, output⟩ := w'
  have h1 := h.os
  have h2 := h.tape
  have h3 := h.output
  have h4 := h.size
  have h5 := h.block
  simp only at h1 h2 h3 h4 h5
  subst h1 h2 h3
  simp only [extW, World.mk.injEq, and_true, true_and]
  apply Array.ext_getElem?
  intro k
  rw [Array.getElem?_append]
  split
  · rename_i hk
    exact h5 k hk
  · rename_i hk
    rw [Array.getElem?_extract]
    split
    · congr 1; omega
    · rw [Array.getElem?_eq_none]; omega
theorem ext_of {w w' : World} (h : ∃ p : ExtBy, w' = extW w p.n p.os) : Ext w w' := by
  obtain ⟨p, rfl⟩ := h
  exact ext_extW w p.n p.os
theorem cell_ext {w : World} {p : Addr} {v : Value} (hc : w.cell? p = some v) (n : Nat) (os : Array Obj) : (extW w n os).cell? p = some v := (ext_extW w n os).cell hc

theorem wp_region_ext {P : Program} {id : Nat} {Q : Exit → Act → World → Prop} {a : Act} {w : World} {l : List Oper} (hm : P.follows .mixedOrders = true) (hB : Region.lexB .any l.toArray = true)
    (h : wpQuiet P l.toArray (fun w' => ∃ p : ExtBy, w' = extW w p.n p.os) (fun a' => ∀ w', (∃ p : ExtBy, w' = extW w p.n p.os) → Q .normal a' w') l a) : (Code.region id l.toArray true).wp P Q a w :=
  wp_region_quiet (C := fun w' => ∃ p : ExtBy, w' = extW w p.n p.os) hm hB (extW_of (Ext.drew (Ext.refl w))) (by simpa using h)
/-- A callee's contract, met inside such a region. -/
theorem ext_call {P : Program} {f : FuncId} {args : Array Value} {w : World} {n : Nat} {os : Array Obj} {v : Value}
    (h : Calls P f args (extW w n os) fun e w' => e = .returned v ∧ Ext (extW w n os) w') : Calls P f args (extW w n os) fun e w'' => e = .returned v ∧ ∃ p : ExtBy, w'' = extW w p.n p.os :=
  h.mono fun _ _ ⟨he, hx⟩ => ⟨he, extW_of ((ext_extW w n os).trans hx)⟩
theorem ext_call0 {P : Program} {f : FuncId} {args : Array Value} {w : World} {n : Nat} {os : Array Obj} {v : Value}
    (h : Calls P f args (extW w n os) fun e w' => e = .returned v ∧ extW w n os = w') : Calls P f args (extW w n os) fun e w'' => e = .returned v ∧ ∃ p : ExtBy, w'' = extW w p.n p.os :=
  ext_call (h.mono fun _ _ ⟨he, hx⟩ => ⟨he, hx ▸ Ext.refl _⟩)

/-- The world under a name, with what is known of it. -/
theorem wp_world {P : Program} {c : Code} {Q : Exit → Act → World → Prop} {a : Act} {w : World} (R : World → Prop) (h0 : R w) (h : ∀ W, R W → c.wp P Q a W) : c.wp P Q a w := h w h0

theorem wp_world' {P : Program} {n : Nat} {body : Code} {J : Exit → Act → World → Prop} {a : Act} {w : World} (R : World → Prop) (h0 : R w) (h : ∀ W, R W → Code.rounds P body J n a W) : Code.rounds P body J n a w := h w h0
theorem cell_new (w : World) {c : Array Value} {t : TypeId} {i : Nat} {v : Value} (h : c[i]? = some v) : (w.alloc (.cells c t)).cell? ⟨w.heap.size, i, none⟩ = some v := by
  rw [World.cell?_alloc_at _ _ _ _ rfl]; exact h

theorem quiet_same {P : Program} {f : FuncId} {args : Array Value} {w : World} {n : Nat} {v : Value}
    (h : Calls P f args (w.drewN n) fun e w' => e = .returned v ∧ w.drewN n = w') : Calls P f args (w.drewN n) fun e w'' => e = .returned v ∧ ∃ m, w'' = w.drewN m :=
  h.mono fun _ _ ⟨he, hm⟩ => ⟨he, n, hm.symm⟩
end Go.Proofs.Ytagofpmcbbkmgaa
