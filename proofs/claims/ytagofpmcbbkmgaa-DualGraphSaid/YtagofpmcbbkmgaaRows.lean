/-
  No cell of these rows narrows 'for every input' (looked for: loops, veiled, ifaces, maps, wideKeys, modest, calm, conditions, laid).
  DERIVED. THE GIVEN ROWS OF THIS SEAT. 7 by the template 'for every input the law returns true; each argument reads behind the call as it read before'; 0 by the template 'total and deterministic' (their statements: YtagofpmcbbkmgaaTotals.lean).
  GIVEN WITH THE SEED: the statements are not yours to turn. If you find one false, say at which input.
  Laid BY PROGRAM, IN A SANDBOX (cutbox-rows.mjs): the forced cells as the released guide's own fill.sh prints them over the translation 7772b2c237a082d6… (all of the seat's roots in one cut). By AI agents, Wed Nov 11 2026. No macro, syntax, notation, axiom, sorry.
-/
import Derived.Test.YtagofpmcbbkmgaaChecked
import GoSem.Claim
import GoSem.ClaimJoined
import GoSem.ClaimMapViews
import Derived.JoinedTies
import Derived.KernelRfl
namespace Go.Proofs.Ytagofpmcbbkmgaa
/- THE CELL 'sum', in the pinned program and in every row, IS THE sha256 OF THE DUMP (.gsa) THAT YtagofpmcbbkmgaaProg.lean LOADS. Nothing in Lean hashes anything: it is a label: what it is worth is what the hold of that sum in a sandbox is worth. -/
noncomputable def Try.pinned : Pinned := { name := "ytagofpmcbbkmgaa", sum := "7772b2c237a082d6aa3e2887b39be65587a4d49694d5ba1039b67c60f247fab8", checked := Try.checked }
namespace Rows
def none {H : Type} : Left H := { results := [], args := [] }

/-- 'parquetlaw19.QuadsConvex': WHATEVER THE INPUT: true; the input reads as it did. -/
def quadsConvexSpec : ChangeSpec := { name := "quadsConvex", fn := fun _ => fun
  | [d1, d2] => { results := [.lit (.bool true)], args := [d1, d2] }
  | _ => none }
def quadsConvexRow : OpenClaim := { program := "ytagofpmcbbkmgaa", sum := "7772b2c237a082d6aa3e2887b39be65587a4d49694d5ba1039b67c60f247fab8", func := "parquet/parquetlaw19.QuadsConvex", spec := "quadsConvex", unfollowed := true, recurses := true, plainKeys := false, apart := false }
def QuadsConvexSaid : Prop := quadsConvexRow.holds Try.pinned (OpenSpec.ofChange quadsConvexSpec)

/-- ITS FALSE NEIGHBOUR: 'it returns false'. Refute it at one input. -/
def quadsConvexWrong : ChangeSpec := { name := "quadsConvex", fn := fun _ => fun
  | [d1, d2] => { results := [.lit (.bool false)], args := [d1, d2] }
  | _ => none }
def QuadsConvexWrongFalsely : Prop := quadsConvexRow.holds Try.pinned (OpenSpec.ofChange quadsConvexWrong)

/-- 'parquetlaw19.QuadsStrip': WHATEVER THE INPUT: true; the input reads as it did. -/
def quadsStripSpec : ChangeSpec := { name := "quadsStrip", fn := fun _ => fun
  | [d1, d2] => { results := [.lit (.bool true)], args := [d1, d2] }
  | _ => none }
def quadsStripRow : OpenClaim := { program := "ytagofpmcbbkmgaa", sum := "7772b2c237a082d6aa3e2887b39be65587a4d49694d5ba1039b67c60f247fab8", func := "parquet/parquetlaw19.QuadsStrip", spec := "quadsStrip", unfollowed := true, recurses := true, plainKeys := false, apart := false }
def QuadsStripSaid : Prop := quadsStripRow.holds Try.pinned (OpenSpec.ofChange quadsStripSpec)

/-- ITS FALSE NEIGHBOUR: 'it returns false'. Refute it at one input. -/
def quadsStripWrong : ChangeSpec := { name := "quadsStrip", fn := fun _ => fun
  | [d1, d2] => { results := [.lit (.bool false)], args := [d1, d2] }
  | _ => none }
def QuadsStripWrongFalsely : Prop := quadsStripRow.holds Try.pinned (OpenSpec.ofChange quadsStripWrong)

/-- 'parquetlaw17.DualQuads': WHATEVER THE INPUT: true; the input reads as it did. -/
def dualQuadsSpec : ChangeSpec := { name := "dualQuads", fn := fun _ => fun
  | [d1, d2, d3] => { results := [.lit (.bool true)], args := [d1, d2, d3] }
  | _ => none }
def dualQuadsRow : OpenClaim := { program := "ytagofpmcbbkmgaa", sum := "7772b2c237a082d6aa3e2887b39be65587a4d49694d5ba1039b67c60f247fab8", func := "parquet/parquetlaw17.DualQuads", spec := "dualQuads", unfollowed := true, recurses := true, plainKeys := false, apart := false }
def DualQuadsSaid : Prop := dualQuadsRow.holds Try.pinned (OpenSpec.ofChange dualQuadsSpec)

/-- ITS FALSE NEIGHBOUR: 'it returns false'. Refute it at one input. -/
def dualQuadsWrong : ChangeSpec := { name := "dualQuads", fn := fun _ => fun
  | [d1, d2, d3] => { results := [.lit (.bool false)], args := [d1, d2, d3] }
  | _ => none }
def DualQuadsWrongFalsely : Prop := dualQuadsRow.holds Try.pinned (OpenSpec.ofChange dualQuadsWrong)

/-- 'parquetlaw17.DualGraph': WHATEVER THE INPUT: true; the input reads as it did. -/
def dualGraphSpec : ChangeSpec := { name := "dualGraph", fn := fun _ => fun
  | [d] => { results := [.lit (.bool true)], args := [d] }
  | _ => none }
def dualGraphRow : OpenClaim := { program := "ytagofpmcbbkmgaa", sum := "7772b2c237a082d6aa3e2887b39be65587a4d49694d5ba1039b67c60f247fab8", func := "parquet/parquetlaw17.DualGraph", spec := "dualGraph", unfollowed := true, recurses := true, plainKeys := false, apart := false }
def DualGraphSaid : Prop := dualGraphRow.holds Try.pinned (OpenSpec.ofChange dualGraphSpec)

/-- ITS FALSE NEIGHBOUR: 'it returns false'. Refute it at one input. -/
def dualGraphWrong : ChangeSpec := { name := "dualGraph", fn := fun _ => fun
  | [d] => { results := [.lit (.bool false)], args := [d] }
  | _ => none }
def DualGraphWrongFalsely : Prop := dualGraphRow.holds Try.pinned (OpenSpec.ofChange dualGraphWrong)

/-- 'parquetlaw17.DualCut': WHATEVER THE INPUT: true; the input reads as it did. -/
def dualCutSpec : ChangeSpec := { name := "dualCut", fn := fun _ => fun
  | [d1, d2, d3, d4] => { results := [.lit (.bool true)], args := [d1, d2, d3, d4] }
  | _ => none }
def dualCutRow : OpenClaim := { program := "ytagofpmcbbkmgaa", sum := "7772b2c237a082d6aa3e2887b39be65587a4d49694d5ba1039b67c60f247fab8", func := "parquet/parquetlaw17.DualCut", spec := "dualCut", unfollowed := true, recurses := true, plainKeys := false, apart := false }
def DualCutSaid : Prop := dualCutRow.holds Try.pinned (OpenSpec.ofChange dualCutSpec)

/-- ITS FALSE NEIGHBOUR: 'it returns false'. Refute it at one input. -/
def dualCutWrong : ChangeSpec := { name := "dualCut", fn := fun _ => fun
  | [d1, d2, d3, d4] => { results := [.lit (.bool false)], args := [d1, d2, d3, d4] }
  | _ => none }
def DualCutWrongFalsely : Prop := dualCutRow.holds Try.pinned (OpenSpec.ofChange dualCutWrong)

/-- 'parquetlaw17.DualSame': WHATEVER THE INPUT: true; the input reads as it did. -/
def dualSameSpec : ChangeSpec := { name := "dualSame", fn := fun _ => fun
  | [d] => { results := [.lit (.bool true)], args := [d] }
  | _ => none }
def dualSameRow : OpenClaim := { program := "ytagofpmcbbkmgaa", sum := "7772b2c237a082d6aa3e2887b39be65587a4d49694d5ba1039b67c60f247fab8", func := "parquet/parquetlaw17.DualSame", spec := "dualSame", unfollowed := true, recurses := true, plainKeys := false, apart := false }
def DualSameSaid : Prop := dualSameRow.holds Try.pinned (OpenSpec.ofChange dualSameSpec)

/-- ITS FALSE NEIGHBOUR: 'it returns false'. Refute it at one input. -/
def dualSameWrong : ChangeSpec := { name := "dualSame", fn := fun _ => fun
  | [d] => { results := [.lit (.bool false)], args := [d] }
  | _ => none }
def DualSameWrongFalsely : Prop := dualSameRow.holds Try.pinned (OpenSpec.ofChange dualSameWrong)

/-- 'parquetlaw17.DualFan': WHATEVER THE INPUT: true; the input reads as it did. -/
def dualFanSpec : ChangeSpec := { name := "dualFan", fn := fun _ => fun
  | [d1, d2] => { results := [.lit (.bool true)], args := [d1, d2] }
  | _ => none }
def dualFanRow : OpenClaim := { program := "ytagofpmcbbkmgaa", sum := "7772b2c237a082d6aa3e2887b39be65587a4d49694d5ba1039b67c60f247fab8", func := "parquet/parquetlaw17.DualFan", spec := "dualFan", unfollowed := true, recurses := true, plainKeys := false, apart := false }
def DualFanSaid : Prop := dualFanRow.holds Try.pinned (OpenSpec.ofChange dualFanSpec)

/-- ITS FALSE NEIGHBOUR: 'it returns false'. Refute it at one input. -/
def dualFanWrong : ChangeSpec := { name := "dualFan", fn := fun _ => fun
  | [d1, d2] => { results := [.lit (.bool false)], args := [d1, d2] }
  | _ => none }
def DualFanWrongFalsely : Prop := dualFanRow.holds Try.pinned (OpenSpec.ofChange dualFanWrong)

/- THE SECOND FORM. 'bulk': how many values and letters a reading holds, each counted each time it is reached (what is shared counts as often as it is met; a slice's spare places count too). A statement '..UptoSaid' is the law's where the arguments, and the package variables that the reading takes, are together of bulk at most 1048576: NARROWER than '..Said'. Prove '..Said' where nothing that the law and all that it calls make is longer than what came in: it says more and counts as full. Else prove '..UptoSaid'. A law counts once. -/
mutual
def uptoBulk {H : Type} : DataW H → Nat
  | .lit (.string bytes) => bytes.length + 1
  | .lit _ => 1
  | .nil => 1
  | .ptr d => uptoBulk d + 1
  | .slice elems spare => uptoBulkAll elems + uptoBulkAll spare + 1
  | .agg parts => uptoBulkAll parts + 1
  | .iface _ d => uptoBulk d + 1
  | .map entries => uptoBulkEntries entries + 1
  | .held _ => 1
def uptoBulkAll {H : Type} : List (DataW H) → Nat
  | [] => 0
  | d :: r => uptoBulk d + uptoBulkAll r
def uptoBulkEntries {H : Type} : List (Lit × DataW H) → Nat
  | [] => 0
  | x :: r => uptoBulkEntry x + uptoBulkEntries r
def uptoBulkEntry {H : Type} : Lit × DataW H → Nat
  | (.string bytes, d) => bytes.length + uptoBulk d + 1
  | (_, d) => uptoBulk d + 1
 end
def uptoSmall : (H : Type) → List (DataW H) → Bool := fun _ ds => decide (uptoBulkAll ds ≤ 1048576)
def OpenSpec.upto (s : _root_.Go.ChangeSpec) : _root_.Go.OpenSpec := { _root_.Go.OpenSpec.ofChange s with cond := some uptoSmall }

/-- 'parquetlaw19.QuadsConvex', WHERE WHAT IT READS IS OF BULK AT MOST 1048576: true; the input reads as it did. -/
def quadsConvexUptoRow : OpenClaim := { program := "ytagofpmcbbkmgaa", sum := "7772b2c237a082d6aa3e2887b39be65587a4d49694d5ba1039b67c60f247fab8", func := "parquet/parquetlaw19.QuadsConvex", spec := "quadsConvex", unfollowed := true, recurses := true, plainKeys := false, apart := false, narrowed := true }
def QuadsConvexUptoSaid : Prop := quadsConvexUptoRow.holds Try.pinned (OpenSpec.upto quadsConvexSpec)

/-- 'parquetlaw19.QuadsStrip', WHERE WHAT IT READS IS OF BULK AT MOST 1048576: true; the input reads as it did. -/
def quadsStripUptoRow : OpenClaim := { program := "ytagofpmcbbkmgaa", sum := "7772b2c237a082d6aa3e2887b39be65587a4d49694d5ba1039b67c60f247fab8", func := "parquet/parquetlaw19.QuadsStrip", spec := "quadsStrip", unfollowed := true, recurses := true, plainKeys := false, apart := false, narrowed := true }
def QuadsStripUptoSaid : Prop := quadsStripUptoRow.holds Try.pinned (OpenSpec.upto quadsStripSpec)

/-- 'parquetlaw17.DualQuads', WHERE WHAT IT READS IS OF BULK AT MOST 1048576: true; the input reads as it did. -/
def dualQuadsUptoRow : OpenClaim := { program := "ytagofpmcbbkmgaa", sum := "7772b2c237a082d6aa3e2887b39be65587a4d49694d5ba1039b67c60f247fab8", func := "parquet/parquetlaw17.DualQuads", spec := "dualQuads", unfollowed := true, recurses := true, plainKeys := false, apart := false, narrowed := true }
def DualQuadsUptoSaid : Prop := dualQuadsUptoRow.holds Try.pinned (OpenSpec.upto dualQuadsSpec)

/-- 'parquetlaw17.DualGraph', WHERE WHAT IT READS IS OF BULK AT MOST 1048576: true; the input reads as it did. -/
def dualGraphUptoRow : OpenClaim := { program := "ytagofpmcbbkmgaa", sum := "7772b2c237a082d6aa3e2887b39be65587a4d49694d5ba1039b67c60f247fab8", func := "parquet/parquetlaw17.DualGraph", spec := "dualGraph", unfollowed := true, recurses := true, plainKeys := false, apart := false, narrowed := true }
def DualGraphUptoSaid : Prop := dualGraphUptoRow.holds Try.pinned (OpenSpec.upto dualGraphSpec)

/-- 'parquetlaw17.DualCut', WHERE WHAT IT READS IS OF BULK AT MOST 1048576: true; the input reads as it did. -/
def dualCutUptoRow : OpenClaim := { program := "ytagofpmcbbkmgaa", sum := "7772b2c237a082d6aa3e2887b39be65587a4d49694d5ba1039b67c60f247fab8", func := "parquet/parquetlaw17.DualCut", spec := "dualCut", unfollowed := true, recurses := true, plainKeys := false, apart := false, narrowed := true }
def DualCutUptoSaid : Prop := dualCutUptoRow.holds Try.pinned (OpenSpec.upto dualCutSpec)

/-- 'parquetlaw17.DualSame', WHERE WHAT IT READS IS OF BULK AT MOST 1048576: true; the input reads as it did. -/
def dualSameUptoRow : OpenClaim := { program := "ytagofpmcbbkmgaa", sum := "7772b2c237a082d6aa3e2887b39be65587a4d49694d5ba1039b67c60f247fab8", func := "parquet/parquetlaw17.DualSame", spec := "dualSame", unfollowed := true, recurses := true, plainKeys := false, apart := false, narrowed := true }
def DualSameUptoSaid : Prop := dualSameUptoRow.holds Try.pinned (OpenSpec.upto dualSameSpec)

/-- 'parquetlaw17.DualFan', WHERE WHAT IT READS IS OF BULK AT MOST 1048576: true; the input reads as it did. -/
def dualFanUptoRow : OpenClaim := { program := "ytagofpmcbbkmgaa", sum := "7772b2c237a082d6aa3e2887b39be65587a4d49694d5ba1039b67c60f247fab8", func := "parquet/parquetlaw17.DualFan", spec := "dualFan", unfollowed := true, recurses := true, plainKeys := false, apart := false, narrowed := true }
def DualFanUptoSaid : Prop := dualFanUptoRow.holds Try.pinned (OpenSpec.upto dualFanSpec)

end Rows
end Go.Proofs.Ytagofpmcbbkmgaa
