/-
  No cell of these rows narrows 'for every input' (looked for: loops, veiled, ifaces, maps, wideKeys, modest, calm, conditions, laid).
  DERIVED. THE GIVEN ROWS OF THIS SEAT. 7 by the template 'for every input the law returns true; each argument reads behind the call as it read before'; 0 by the template 'total and deterministic' (their statements: YtmiijakcmbolfaaTotals.lean).
  GIVEN WITH THE SEED: the statements are not yours to turn. If you find one false, say at which input.
  Laid BY PROGRAM, IN A SANDBOX (cutbox-rows.mjs): the forced cells as the released guide's own fill.sh prints them over the translation 397381f33eeeed24… (all of the seat's roots in one cut). By AI agents, Wed Nov 11 2026. No macro, syntax, notation, axiom, sorry.
-/
import Derived.Test.YtmiijakcmbolfaaChecked
import GoSem.Claim
import GoSem.ClaimJoined
import GoSem.ClaimMapViews
import Derived.JoinedTies
import Derived.KernelRfl
namespace Go.Proofs.Ytmiijakcmbolfaa
/- THE CELL 'sum', in the pinned program and in every row, IS THE sha256 OF THE DUMP (.gsa) THAT YtmiijakcmbolfaaProg.lean LOADS. Nothing in Lean hashes anything: it is a label: what it is worth is what the hold of that sum in a sandbox is worth. -/
noncomputable def Try.pinned : Pinned := { name := "ytmiijakcmbolfaa", sum := "397381f33eeeed249498c081c7a7e78dd5cfc14be3cc0a055d09c4891d6ed5f3", checked := Try.checked }
namespace Rows
def none {H : Type} : Left H := { results := [], args := [] }

/-- 'selvagelaw02.ValueEncodes': WHATEVER THE INPUT: true; the input reads as it did. -/
def valueEncodesSpec : ChangeSpec := { name := "valueEncodes", fn := fun _ => fun
  | [d] => { results := [.lit (.bool true)], args := [d] }
  | _ => none }
def valueEncodesRow : OpenClaim := { program := "ytmiijakcmbolfaa", sum := "397381f33eeeed249498c081c7a7e78dd5cfc14be3cc0a055d09c4891d6ed5f3", func := "selvage/selvagelaw02.ValueEncodes", spec := "valueEncodes", recurses := true, apart := false }
def ValueEncodesSaid : Prop := valueEncodesRow.holds Try.pinned (OpenSpec.ofChange valueEncodesSpec)

/-- ITS FALSE NEIGHBOUR: 'it returns false'. Refute it at one input. -/
def valueEncodesWrong : ChangeSpec := { name := "valueEncodes", fn := fun _ => fun
  | [d] => { results := [.lit (.bool false)], args := [d] }
  | _ => none }
def ValueEncodesWrongFalsely : Prop := valueEncodesRow.holds Try.pinned (OpenSpec.ofChange valueEncodesWrong)

/-- 'selvagelaw02.ValueRight': WHATEVER THE INPUT: true; the input reads as it did. -/
def valueRightSpec : ChangeSpec := { name := "valueRight", fn := fun _ => fun
  | [d1, d2] => { results := [.lit (.bool true)], args := [d1, d2] }
  | _ => none }
def valueRightRow : OpenClaim := { program := "ytmiijakcmbolfaa", sum := "397381f33eeeed249498c081c7a7e78dd5cfc14be3cc0a055d09c4891d6ed5f3", func := "selvage/selvagelaw02.ValueRight", spec := "valueRight", apart := false }
def ValueRightSaid : Prop := valueRightRow.holds Try.pinned (OpenSpec.ofChange valueRightSpec)

/-- ITS FALSE NEIGHBOUR: 'it returns false'. Refute it at one input. -/
def valueRightWrong : ChangeSpec := { name := "valueRight", fn := fun _ => fun
  | [d1, d2] => { results := [.lit (.bool false)], args := [d1, d2] }
  | _ => none }
def ValueRightWrongFalsely : Prop := valueRightRow.holds Try.pinned (OpenSpec.ofChange valueRightWrong)

/-- 'selvagelaw02.ValueJoins': WHATEVER THE INPUT: true; the input reads as it did. -/
def valueJoinsSpec : ChangeSpec := { name := "valueJoins", fn := fun _ => fun
  | [d1, d2] => { results := [.lit (.bool true)], args := [d1, d2] }
  | _ => none }
def valueJoinsRow : OpenClaim := { program := "ytmiijakcmbolfaa", sum := "397381f33eeeed249498c081c7a7e78dd5cfc14be3cc0a055d09c4891d6ed5f3", func := "selvage/selvagelaw02.ValueJoins", spec := "valueJoins", apart := false }
def ValueJoinsSaid : Prop := valueJoinsRow.holds Try.pinned (OpenSpec.ofChange valueJoinsSpec)

/-- ITS FALSE NEIGHBOUR: 'it returns false'. Refute it at one input. -/
def valueJoinsWrong : ChangeSpec := { name := "valueJoins", fn := fun _ => fun
  | [d1, d2] => { results := [.lit (.bool false)], args := [d1, d2] }
  | _ => none }
def ValueJoinsWrongFalsely : Prop := valueJoinsRow.holds Try.pinned (OpenSpec.ofChange valueJoinsWrong)

/-- 'selvagelaw02.ValueFinds': WHATEVER THE INPUT: true; the input reads as it did. -/
def valueFindsSpec : ChangeSpec := { name := "valueFinds", fn := fun _ => fun
  | [d1, d2, d3] => { results := [.lit (.bool true)], args := [d1, d2, d3] }
  | _ => none }
def valueFindsRow : OpenClaim := { program := "ytmiijakcmbolfaa", sum := "397381f33eeeed249498c081c7a7e78dd5cfc14be3cc0a055d09c4891d6ed5f3", func := "selvage/selvagelaw02.ValueFinds", spec := "valueFinds", unfollowed := true, recurses := true, apart := false }
def ValueFindsSaid : Prop := valueFindsRow.holds Try.pinned (OpenSpec.ofChange valueFindsSpec)

/-- ITS FALSE NEIGHBOUR: 'it returns false'. Refute it at one input. -/
def valueFindsWrong : ChangeSpec := { name := "valueFinds", fn := fun _ => fun
  | [d1, d2, d3] => { results := [.lit (.bool false)], args := [d1, d2, d3] }
  | _ => none }
def ValueFindsWrongFalsely : Prop := valueFindsRow.holds Try.pinned (OpenSpec.ofChange valueFindsWrong)

/-- 'selvagelaw02.ValueDrops': WHATEVER THE INPUT: true; the input reads as it did. -/
def valueDropsSpec : ChangeSpec := { name := "valueDrops", fn := fun _ => fun
  | [d1, d2, d3] => { results := [.lit (.bool true)], args := [d1, d2, d3] }
  | _ => none }
def valueDropsRow : OpenClaim := { program := "ytmiijakcmbolfaa", sum := "397381f33eeeed249498c081c7a7e78dd5cfc14be3cc0a055d09c4891d6ed5f3", func := "selvage/selvagelaw02.ValueDrops", spec := "valueDrops", unfollowed := true, recurses := true, apart := false }
def ValueDropsSaid : Prop := valueDropsRow.holds Try.pinned (OpenSpec.ofChange valueDropsSpec)

/-- ITS FALSE NEIGHBOUR: 'it returns false'. Refute it at one input. -/
def valueDropsWrong : ChangeSpec := { name := "valueDrops", fn := fun _ => fun
  | [d1, d2, d3] => { results := [.lit (.bool false)], args := [d1, d2, d3] }
  | _ => none }
def ValueDropsWrongFalsely : Prop := valueDropsRow.holds Try.pinned (OpenSpec.ofChange valueDropsWrong)

/-- 'selvagelaw02.ValueDecodes': WHATEVER THE INPUT: true; the input reads as it did. -/
def valueDecodesSpec : ChangeSpec := { name := "valueDecodes", fn := fun _ => fun
  | [d] => { results := [.lit (.bool true)], args := [d] }
  | _ => none }
def valueDecodesRow : OpenClaim := { program := "ytmiijakcmbolfaa", sum := "397381f33eeeed249498c081c7a7e78dd5cfc14be3cc0a055d09c4891d6ed5f3", func := "selvage/selvagelaw02.ValueDecodes", spec := "valueDecodes", recurses := true, apart := false }
def ValueDecodesSaid : Prop := valueDecodesRow.holds Try.pinned (OpenSpec.ofChange valueDecodesSpec)

/-- ITS FALSE NEIGHBOUR: 'it returns false'. Refute it at one input. -/
def valueDecodesWrong : ChangeSpec := { name := "valueDecodes", fn := fun _ => fun
  | [d] => { results := [.lit (.bool false)], args := [d] }
  | _ => none }
def ValueDecodesWrongFalsely : Prop := valueDecodesRow.holds Try.pinned (OpenSpec.ofChange valueDecodesWrong)

/-- 'selvagelaw02.ValueBack': WHATEVER THE INPUT: true; the input reads as it did. -/
def valueBackSpec : ChangeSpec := { name := "valueBack", fn := fun _ => fun
  | [d1, d2] => { results := [.lit (.bool true)], args := [d1, d2] }
  | _ => none }
def valueBackRow : OpenClaim := { program := "ytmiijakcmbolfaa", sum := "397381f33eeeed249498c081c7a7e78dd5cfc14be3cc0a055d09c4891d6ed5f3", func := "selvage/selvagelaw02.ValueBack", spec := "valueBack", apart := false }
def ValueBackSaid : Prop := valueBackRow.holds Try.pinned (OpenSpec.ofChange valueBackSpec)

/-- ITS FALSE NEIGHBOUR: 'it returns false'. Refute it at one input. -/
def valueBackWrong : ChangeSpec := { name := "valueBack", fn := fun _ => fun
  | [d1, d2] => { results := [.lit (.bool false)], args := [d1, d2] }
  | _ => none }
def ValueBackWrongFalsely : Prop := valueBackRow.holds Try.pinned (OpenSpec.ofChange valueBackWrong)

/- THE SECOND FORM. 'bulk': how many values and letters a reading holds, each counted each time it is reached (what is shared counts as often as it is met; a slice's spare places count too). A statement '..UptoSaid' is the law's where the arguments, and the package variables that the reading takes, are together of bulk at most 1048576: NARROWER than '..Said'. Prove '..Said' where nothing that the law and all that it calls make is longer than what came in: it says more and counts as full. Else prove '..UptoSaid'. A law counts once. -/
mutual
def uptoBulk {H : Type} : DataW H → Nat
  | .lit (.string bytes) => bytes.length + 1
  | .lit _ => 1
  | .nil => 1
  | .ptr d => uptoBulk d + 1
  | .slice elems spare => uptoBulkAll elems + uptoBulkAll spare + 1
  | .agg parts => uptoBulkAll parts + 1
  | .iface _ d => uptoBulk d + 1
  | .map entries => uptoBulkEntries entries + 1
  | .held _ => 1
def uptoBulkAll {H : Type} : List (DataW H) → Nat
  | [] => 0
  | d :: r => uptoBulk d + uptoBulkAll r
def uptoBulkEntries {H : Type} : List (Lit × DataW H) → Nat
  | [] => 0
  | x :: r => uptoBulkEntry x + uptoBulkEntries r
def uptoBulkEntry {H : Type} : Lit × DataW H → Nat
  | (.string bytes, d) => bytes.length + uptoBulk d + 1
  | (_, d) => uptoBulk d + 1
 end
def uptoSmall : (H : Type) → List (DataW H) → Bool := fun _ ds => decide (uptoBulkAll ds ≤ 1048576)
def OpenSpec.upto (s : _root_.Go.ChangeSpec) : _root_.Go.OpenSpec := { _root_.Go.OpenSpec.ofChange s with cond := some uptoSmall }

/-- 'selvagelaw02.ValueEncodes', WHERE WHAT IT READS IS OF BULK AT MOST 1048576: true; the input reads as it did. -/
def valueEncodesUptoRow : OpenClaim := { program := "ytmiijakcmbolfaa", sum := "397381f33eeeed249498c081c7a7e78dd5cfc14be3cc0a055d09c4891d6ed5f3", func := "selvage/selvagelaw02.ValueEncodes", spec := "valueEncodes", recurses := true, apart := false, narrowed := true }
def ValueEncodesUptoSaid : Prop := valueEncodesUptoRow.holds Try.pinned (OpenSpec.upto valueEncodesSpec)

/-- 'selvagelaw02.ValueRight', WHERE WHAT IT READS IS OF BULK AT MOST 1048576: true; the input reads as it did. -/
def valueRightUptoRow : OpenClaim := { program := "ytmiijakcmbolfaa", sum := "397381f33eeeed249498c081c7a7e78dd5cfc14be3cc0a055d09c4891d6ed5f3", func := "selvage/selvagelaw02.ValueRight", spec := "valueRight", apart := false, narrowed := true }
def ValueRightUptoSaid : Prop := valueRightUptoRow.holds Try.pinned (OpenSpec.upto valueRightSpec)

/-- 'selvagelaw02.ValueJoins', WHERE WHAT IT READS IS OF BULK AT MOST 1048576: true; the input reads as it did. -/
def valueJoinsUptoRow : OpenClaim := { program := "ytmiijakcmbolfaa", sum := "397381f33eeeed249498c081c7a7e78dd5cfc14be3cc0a055d09c4891d6ed5f3", func := "selvage/selvagelaw02.ValueJoins", spec := "valueJoins", apart := false, narrowed := true }
def ValueJoinsUptoSaid : Prop := valueJoinsUptoRow.holds Try.pinned (OpenSpec.upto valueJoinsSpec)

/-- 'selvagelaw02.ValueFinds', WHERE WHAT IT READS IS OF BULK AT MOST 1048576: true; the input reads as it did. -/
def valueFindsUptoRow : OpenClaim := { program := "ytmiijakcmbolfaa", sum := "397381f33eeeed249498c081c7a7e78dd5cfc14be3cc0a055d09c4891d6ed5f3", func := "selvage/selvagelaw02.ValueFinds", spec := "valueFinds", unfollowed := true, recurses := true, apart := false, narrowed := true }
def ValueFindsUptoSaid : Prop := valueFindsUptoRow.holds Try.pinned (OpenSpec.upto valueFindsSpec)

/-- 'selvagelaw02.ValueDrops', WHERE WHAT IT READS IS OF BULK AT MOST 1048576: true; the input reads as it did. -/
def valueDropsUptoRow : OpenClaim := { program := "ytmiijakcmbolfaa", sum := "397381f33eeeed249498c081c7a7e78dd5cfc14be3cc0a055d09c4891d6ed5f3", func := "selvage/selvagelaw02.ValueDrops", spec := "valueDrops", unfollowed := true, recurses := true, apart := false, narrowed := true }
def ValueDropsUptoSaid : Prop := valueDropsUptoRow.holds Try.pinned (OpenSpec.upto valueDropsSpec)

/-- 'selvagelaw02.ValueDecodes', WHERE WHAT IT READS IS OF BULK AT MOST 1048576: true; the input reads as it did. -/
def valueDecodesUptoRow : OpenClaim := { program := "ytmiijakcmbolfaa", sum := "397381f33eeeed249498c081c7a7e78dd5cfc14be3cc0a055d09c4891d6ed5f3", func := "selvage/selvagelaw02.ValueDecodes", spec := "valueDecodes", recurses := true, apart := false, narrowed := true }
def ValueDecodesUptoSaid : Prop := valueDecodesUptoRow.holds Try.pinned (OpenSpec.upto valueDecodesSpec)

/-- 'selvagelaw02.ValueBack', WHERE WHAT IT READS IS OF BULK AT MOST 1048576: true; the input reads as it did. -/
def valueBackUptoRow : OpenClaim := { program := "ytmiijakcmbolfaa", sum := "397381f33eeeed249498c081c7a7e78dd5cfc14be3cc0a055d09c4891d6ed5f3", func := "selvage/selvagelaw02.ValueBack", spec := "valueBack", apart := false, narrowed := true }
def ValueBackUptoSaid : Prop := valueBackUptoRow.holds Try.pinned (OpenSpec.upto valueBackSpec)

end Rows
end Go.Proofs.Ytmiijakcmbolfaa
