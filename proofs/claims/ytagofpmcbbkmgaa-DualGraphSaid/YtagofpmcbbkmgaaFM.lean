/- A mesh as an argument: its three rows opened; an argument that is read only reads as before. -/
import Derived.Test.YtagofpmcbbkmgaaFP
import Derived.Test.YtagofpmcbbkmgaaCM
import Derived.Lib.SmallJoins
import Derived.Deep.Slices
import Derived.Deep.Fields
import Derived.Carry
namespace Go.Proofs.Ytagofpmcbbkmgaa
open Go.ChangeShapes Go.WideShapes Go.ChangeAt Go.RowKit Go.Joins Go.Deep

theorem laidOut_prog : laidOutB Try.prog = true := by kernel_rfl
theorem cellsPoint2 : Try.prog.cellsOf 33 = 2 := by kernel_rfl
theorem cellsSeg2 : Try.prog.cellsOf 39 = 2 := by kernel_rfl
theorem cellsTri3 : Try.prog.cellsOf 36 = 3 := by kernel_rfl
theorem cellsMesh3 : Try.prog.cellsOf 31 = 3 := by kernel_rfl

theorem list_of {α : Type} {P : Nat → α → Prop} : ∀ (n : Nat), (∀ i, i < n → ∃ p, P i p) → ∃ l : List α, l.length = n ∧ ∀ i p, l[i]? = some p → P i p
  | 0, _ => ⟨[], rfl, fun i p h => by simp at h⟩
  | n + 1, h => by
    obtain ⟨l, hl, hp⟩ := list_of n (fun i hi => h i (by omega))
    obtain ⟨p, hpn⟩ := h n (by omega)
    refine ⟨l ++ [p], by simp [hl], fun i q hq => ?_⟩
    by_cases hi : i < n
    · rw [List.getElem?_append_left (by omega)] at hq
      exact hp i q hq
    · have hlt := (List.getElem?_eq_some_iff.1 hq).1
      simp [hl] at hlt
      have : i = n := by omega
      subst this
      rw [List.getElem?_append_right (by omega), hl] at hq
      simp at hq
      subst hq
      exact hpn

section
variable {H : Type} {enc : TypeId × Value → H} {P : Program} {w : World} {base : Nat} {spare : Nat → Bool} {held : Bool}
theorem open_slice_fields {t e : TypeId} {fs : Array Field} {fuel : Nat} {cs : List Value} {x : DataW H × List MemPlace} (ht : P.underlying t = some (.slice e)) (he : P.underlying e = some (.struct fs))
    (hone : oneCellFields P fs = true) (hC : P.cellsOf e = fs.size) (h : DataW.trod enc P w base spare held fuel t cs = some x) :
    (cs = [.slice none 0 0]) ∨
    ∃ (a : Addr) (len cap m : Nat), cs = [.slice (some a) len cap] ∧ len ≤ cap ∧ cap ≤ maxLen ∧ m = (if spare a.block then cap else len) ∧
      ∀ i, i < m → ∃ n : Nat, ∀ (j : Nat) (f : Field), fs[j]? = some f → ∃ (v : Value) (y : DataW H × List MemPlace), w.cell? (a.add (i * fs.size + j)) = some v ∧ DataW.trod enc P w base spare held n f.type [v] = some y := by
  rcases open_slice ht h with h0 | ⟨a, len, cap, m, n, D, Pl, hcs, hb, hl, hm, hmm, hx, hi⟩
  · exact .inl h0.1
  · refine .inr ⟨a, len, cap, m, hcs, hl, hm, hmm, fun i him => ?_⟩
    obtain ⟨cs', hc, ht'⟩ := hi i him
    rw [hC] at hc
    obtain ⟨ys, n', hn', hy, hlen, hyl, hf⟩ := DataW.trod_struct he ht'
    obtain ⟨_, hcl, hat⟩ := World.cells?_some hc
    refine ⟨n', fun j f hj => ?_⟩
    obtain ⟨ho, hk⟩ := hone_of hone j f hj
    have hjl : j < fs.size := (Array.getElem?_eq_some_iff.1 hj).1
    have hcell := hat j hjl
    have hv : cs'[j]? = some (cs'[j]'(by omega)) := List.getElem?_eq_getElem (by omega)
    have h1 := hf j f hj
    rw [ho, hk] at h1
    have hone' : (cs'.drop j).take 1 = [cs'[j]'(by omega)] := by
      rw [List.drop_eq_getElem_cons (by omega)]
      rfl
    rw [hone'] at h1
    have hys : ys[j]? = some (ys[j]'(by omega)) := List.getElem?_eq_getElem (by omega)
    refine ⟨_, _, ?_, h1.trans hys⟩
    rw [← Go.Deep.add_add, hcell, hv]
end

section
variable {H : Type} {enc : TypeId × Value → H} {w : World}
/-- A row of structs of two ints. -/
theorem open_rows2 {t e : TypeId} {fs : Array Field} {f0 f1 : Field} {fuel : Nat} {v : Value} {x : DataW H × List MemPlace} (ht : Try.prog.underlying t = some (.slice e)) (he : Try.prog.underlying e = some (.struct fs)) (hfs : fs = #[f0, f1]) (h0 : f0.type = 3) (h1 : f1.type = 3)
    (hone : oneCellFields Try.prog fs = true) (hC : Try.prog.cellsOf e = fs.size) (h : DataW.trod enc Try.prog w 0 (fun _ => true) true fuel t [v] = some x) :
    ∃ (A : Option Addr) (c : Nat) (l : List (Int × Int)), v = .slice A l.length c ∧ l.length ≤ c ∧ l.length ≤ maxLen ∧ Rd2 w A l ∧ ∀ p ∈ l, Fit p.1 ∧ Fit p.2 := by
  subst hfs
  rcases open_slice_fields ht he hone hC h with h2 | ⟨a, len, cap, m, hcs, hl, hm, hmm, hi⟩
  · simp only [List.cons.injEq, and_true] at h2
    exact ⟨none, 0, [], h2, Nat.le_refl _, Nat.zero_le _, Or.inl rfl, fun p hp => by cases hp⟩
  · simp only [List.cons.injEq, and_true] at hcs
    simp only [if_true] at hmm
    subst hmm
    obtain ⟨l, hll, hlp⟩ := list_of (P := fun i (p : Int × Int) => (w.cell? (a.add (i * 2)) = some (.int .i64 p.1) ∧ w.cell? (a.add (i * 2 + 1)) = some (.int .i64 p.2)) ∧ (Lit.int .i64 p.1).wf = true ∧ (Lit.int .i64 p.2).wf = true) len (fun i hi' => by
      obtain ⟨n, hf⟩ := hi i (by omega)
      obtain ⟨v0, y0, c0, t0⟩ := hf 0 f0 rfl
      obtain ⟨v1, y1, c1, t1⟩ := hf 1 f1 rfl
      rw [h0] at t0
      rw [h1] at t1
      obtain ⟨n0, e0, _, w0⟩ := DataW.trod_int Try.underlying3 t0
      obtain ⟨n1, e1, _, w1⟩ := DataW.trod_int Try.underlying3 t1
      simp at e0 e1
      subst e0 e1
      exact ⟨(n0, n1), ⟨by simpa using c0, by simpa using c1⟩, w0, w1⟩)
    refine ⟨some a, m, l, by rw [hcs, hll], by omega, by omega, ?_, fun p hp => ?_⟩
    · by_cases h0' : l = []
      · exact Or.inl h0'
      · have hpos : 0 < l.length := List.length_pos_iff.2 h0'
        obtain ⟨b, o, spot⟩ := a
        have hc0 := (hlp 0 _ (List.getElem?_eq_getElem hpos)).1.1
        have hspot : spot = none := by simpa [Addr.add] using World.cell?_spot hc0
        subst hspot
        refine Or.inr ⟨b, o, rfl, fun j p hj => ?_⟩
        have := (hlp j p hj).1
        rw [Go.WideShapes.add_plain, Go.WideShapes.add_plain, ← Nat.add_assoc] at this
        exact this
    · obtain ⟨i, hi'⟩ := List.getElem?_of_mem hp
      have := (hlp i p hi').2
      exact ⟨bd_i64 this.1, bd_i64 this.2⟩
theorem open_rows3 {t e : TypeId} {fs : Array Field} {f0 f1 f2 : Field} {fuel : Nat} {v : Value} {x : DataW H × List MemPlace} (ht : Try.prog.underlying t = some (.slice e)) (he : Try.prog.underlying e = some (.struct fs)) (hfs : fs = #[f0, f1, f2]) (h0 : f0.type = 3) (h1 : f1.type = 3) (h2 : f2.type = 3)
    (hone : oneCellFields Try.prog fs = true) (hC : Try.prog.cellsOf e = fs.size) (h : DataW.trod enc Try.prog w 0 (fun _ => true) true fuel t [v] = some x) :
    ∃ (A : Option Addr) (c : Nat) (l : List (Int × Int × Int)), v = .slice A l.length c ∧ l.length ≤ c ∧ l.length ≤ maxLen ∧ Rd3 w A l ∧ ∀ p ∈ l, Fit p.1 ∧ Fit p.2.1 ∧ Fit p.2.2 := by
  subst hfs
  rcases open_slice_fields ht he hone hC h with h3 | ⟨a, len, cap, m, hcs, hl, hm, hmm, hi⟩
  · simp only [List.cons.injEq, and_true] at h3
    exact ⟨none, 0, [], h3, Nat.le_refl _, Nat.zero_le _, Or.inl rfl, fun p hp => by cases hp⟩
  · simp only [List.cons.injEq, and_true] at hcs
    simp only [if_true] at hmm
    subst hmm
    obtain ⟨l, hll, hlp⟩ := list_of (P := fun i (p : Int × Int × Int) => (w.cell? (a.add (i * 3)) = some (.int .i64 p.1) ∧ w.cell? (a.add (i * 3 + 1)) = some (.int .i64 p.2.1) ∧ w.cell? (a.add (i * 3 + 2)) = some (.int .i64 p.2.2)) ∧ (Lit.int .i64 p.1).wf = true ∧ (Lit.int .i64 p.2.1).wf = true ∧ (Lit.int .i64 p.2.2).wf = true) len (fun i hi' => by
      obtain ⟨n, hf⟩ := hi i (by omega)
      obtain ⟨v0, y0, c0, t0⟩ := hf 0 f0 rfl
      obtain ⟨v1, y1, c1, t1⟩ := hf 1 f1 rfl
      obtain ⟨v2, y2, c2, t2⟩ := hf 2 f2 rfl
      rw [h0] at t0
      rw [h1] at t1
      rw [h2] at t2
      obtain ⟨n0, e0, _, w0⟩ := DataW.trod_int Try.underlying3 t0
      obtain ⟨n1, e1, _, w1⟩ := DataW.trod_int Try.underlying3 t1
      obtain ⟨n2, e2, _, w2⟩ := DataW.trod_int Try.underlying3 t2
      simp at e0 e1 e2
      subst e0 e1 e2
      exact ⟨(n0, n1, n2), ⟨by simpa using c0, by simpa using c1, by simpa using c2⟩, w0, w1, w2⟩)
    refine ⟨some a, m, l, by rw [hcs, hll], by omega, by omega, ?_, fun p hp => ?_⟩
    · by_cases h0' : l = []
      · exact Or.inl h0'
      · have hpos : 0 < l.length := List.length_pos_iff.2 h0'
        obtain ⟨b, o, spot⟩ := a
        have hc0 := (hlp 0 _ (List.getElem?_eq_getElem hpos)).1.1
        have hspot : spot = none := by simpa [Addr.add] using World.cell?_spot hc0
        subst hspot
        refine Or.inr ⟨b, o, rfl, fun j p hj => ?_⟩
        have := (hlp j p hj).1
        rw [Go.WideShapes.add_plain, Go.WideShapes.add_plain, Go.WideShapes.add_plain, ← Nat.add_assoc, ← Nat.add_assoc] at this
        exact this
    · obtain ⟨i, hi'⟩ := List.getElem?_of_mem hp
      have := (hlp i p hi').2
      exact ⟨bd_i64 this.1, bd_i64 this.2.1, bd_i64 this.2.2⟩

/-- What a mesh that came in is. -/
structure MeshIn (w : World) (v : Value) (AP AT AS : Option Addr) (cp ct cs : Nat) (ps : List (Int × Int)) (ts : List (Int × Int × Int)) (ss : List (Int × Int)) : Prop where
  val : v = .agg #[.slice AP ps.length cp, .slice AT ts.length ct, .slice AS ss.length cs]
  rp : Rd2 w AP ps
  rt : Rd3 w AT ts
  rs : Rd2 w AS ss
  capP : ps.length ≤ cp
  capT : ts.length ≤ ct
  capS : ss.length ≤ cs
  maxP : ps.length ≤ maxLen
  maxT : ts.length ≤ maxLen
  maxS : ss.length ≤ maxLen
  fitP : ∀ p ∈ ps, Fit p.1 ∧ Fit p.2
  fitT : ∀ p ∈ ts, Fit p.1 ∧ Fit p.2.1 ∧ Fit p.2.2
  fitS : ∀ p ∈ ss, Fit p.1 ∧ Fit p.2
set_option maxRecDepth 100000 in
theorem open_mesh {r : Reach} {b0 : Nat} {v : Value} {d : DataW H} {p : List MemPlace} (hv : Value.okWide Try.prog w r b0 31 v) (h : DataW.Trod enc Try.prog w 0 (fun _ => true) true 31 v d p) :
    ∃ AP AT AS cp ct cs ps ts ss, MeshIn w v AP AT AS cp ct cs ps ts ss := by
  obtain ⟨c0, c1, c2, y0, y1, y2, m, rfl, rfl, rfl, h0, h1, h2⟩ := open_agg3 Try.underlying31 (by kernel_rfl) cellsMesh3 hv h
  obtain ⟨AP, cp, ps, rfl, a1, a2, a3, a4⟩ := open_rows2 Try.underlying22 Try.underlying33 rfl rfl rfl (by kernel_rfl) cellsPoint2 h0
  obtain ⟨AT, ct, ts, rfl, b1, b2, b3, b4⟩ := open_rows3 Try.underlying28 Try.underlying36 rfl rfl rfl rfl (by kernel_rfl) cellsTri3 h1
  obtain ⟨AS, cs, ss, rfl, d1, d2, d3, d4⟩ := open_rows2 Try.underlying29 Try.underlying39 rfl rfl rfl (by kernel_rfl) cellsSeg2 h2
  exact ⟨AP, AT, AS, cp, ct, cs, ps, ts, ss, rfl, a3, b3, d3, a1, b1, d1, a2, b2, d2, a4, b4, d4⟩
/-- An argument of a call that only makes memory reads as before. -/
theorem arg_stays {t : TypeId} (hr : Try.prog.readableRec t = true) (hrow : t < Try.prog.types.size) {W W' : World} {v : Value} {d : DataW H} {ps : List MemPlace} (h : DataW.Trod enc Try.prog W 0 (fun _ => true) true t v d ps) (hb : Below W.heap.size W W') (hlt : ∀ x ∈ ps, x.block < W.heap.size)
    {sp : Nat → Bool} (hs : ∀ x ∈ ps, sp x.block = true) : DataW.Trod enc Try.prog W' 0 sp true t v d ps :=
  WideElems.Trod_stays laidOut_prog hr hrow h (fun x hx => hb.same (hlt x hx)) hs
end
end Go.Proofs.Ytagofpmcbbkmgaa
