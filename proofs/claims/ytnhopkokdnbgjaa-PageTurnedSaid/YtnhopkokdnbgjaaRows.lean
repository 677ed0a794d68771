/-
  No cell of these rows narrows 'for every input' (looked for: loops, veiled, ifaces, maps, wideKeys, modest, calm, conditions, laid).
  DERIVED. THE GIVEN ROWS OF THIS SEAT. 7 by the template 'for every input the law returns true; each argument reads behind the call as it read before'; 0 by the template 'total and deterministic' (their statements: YtnhopkokdnbgjaaTotals.lean).
  GIVEN WITH THE SEED: the statements are not yours to turn. If you find one false, say at which input.
  Laid BY PROGRAM, IN A SANDBOX (cutbox-rows.mjs): the forced cells as the released guide's own fill.sh prints them over the translation 0d28e4c36de5b41b… (all of the seat's roots in one cut). By AI agents, Wed Nov 11 2026. No macro, syntax, notation, axiom, sorry.
-/
import Derived.Test.YtnhopkokdnbgjaaChecked
import GoSem.Claim
import GoSem.ClaimJoined
import GoSem.ClaimMapViews
import Derived.JoinedTies
import Derived.KernelRfl
namespace Go.Proofs.Ytnhopkokdnbgjaa
/- THE CELL 'sum', in the pinned program and in every row, IS THE sha256 OF THE DUMP (.gsa) THAT YtnhopkokdnbgjaaProg.lean LOADS. Nothing in Lean hashes anything: it is a label: what it is worth is what the hold of that sum in a sandbox is worth. -/
noncomputable def Try.pinned : Pinned := { name := "ytnhopkokdnbgjaa", sum := "0d28e4c36de5b41bfe307ad9f9e0d20466c8d84c56f6d9a251c1e923b1a00772", checked := Try.checked }
namespace Rows
def none {H : Type} : Left H := { results := [], args := [] }

/-- 'quaysidelaw04.PageEncodes': WHATEVER THE INPUT: true; the input reads as it did. -/
def pageEncodesSpec : ChangeSpec := { name := "pageEncodes", fn := fun _ => fun
  | [d1, d2] => { results := [.lit (.bool true)], args := [d1, d2] }
  | _ => none }
def pageEncodesRow : OpenClaim := { program := "ytnhopkokdnbgjaa", sum := "0d28e4c36de5b41bfe307ad9f9e0d20466c8d84c56f6d9a251c1e923b1a00772", func := "quayside/quaysidelaw04.PageEncodes", spec := "pageEncodes", apart := false }
def PageEncodesSaid : Prop := pageEncodesRow.holds Try.pinned (OpenSpec.ofChange pageEncodesSpec)

/-- ITS FALSE NEIGHBOUR: 'it returns false'. Refute it at one input. -/
def pageEncodesWrong : ChangeSpec := { name := "pageEncodes", fn := fun _ => fun
  | [d1, d2] => { results := [.lit (.bool false)], args := [d1, d2] }
  | _ => none }
def PageEncodesWrongFalsely : Prop := pageEncodesRow.holds Try.pinned (OpenSpec.ofChange pageEncodesWrong)

/-- 'quaysidelaw04.PageUnlike': WHATEVER THE INPUT: true; the input reads as it did. -/
def pageUnlikeSpec : ChangeSpec := { name := "pageUnlike", fn := fun _ => fun
  | [d1, d2, d3, d4] => { results := [.lit (.bool true)], args := [d1, d2, d3, d4] }
  | _ => none }
def pageUnlikeRow : OpenClaim := { program := "ytnhopkokdnbgjaa", sum := "0d28e4c36de5b41bfe307ad9f9e0d20466c8d84c56f6d9a251c1e923b1a00772", func := "quayside/quaysidelaw04.PageUnlike", spec := "pageUnlike", apart := false }
def PageUnlikeSaid : Prop := pageUnlikeRow.holds Try.pinned (OpenSpec.ofChange pageUnlikeSpec)

/-- ITS FALSE NEIGHBOUR: 'it returns false'. Refute it at one input. -/
def pageUnlikeWrong : ChangeSpec := { name := "pageUnlike", fn := fun _ => fun
  | [d1, d2, d3, d4] => { results := [.lit (.bool false)], args := [d1, d2, d3, d4] }
  | _ => none }
def PageUnlikeWrongFalsely : Prop := pageUnlikeRow.holds Try.pinned (OpenSpec.ofChange pageUnlikeWrong)

/-- 'quaysidelaw04.PageDecodes': WHATEVER THE INPUT: true; the input reads as it did. -/
def pageDecodesSpec : ChangeSpec := { name := "pageDecodes", fn := fun _ => fun
  | [d1, d2] => { results := [.lit (.bool true)], args := [d1, d2] }
  | _ => none }
def pageDecodesRow : OpenClaim := { program := "ytnhopkokdnbgjaa", sum := "0d28e4c36de5b41bfe307ad9f9e0d20466c8d84c56f6d9a251c1e923b1a00772", func := "quayside/quaysidelaw04.PageDecodes", spec := "pageDecodes", apart := false }
def PageDecodesSaid : Prop := pageDecodesRow.holds Try.pinned (OpenSpec.ofChange pageDecodesSpec)

/-- ITS FALSE NEIGHBOUR: 'it returns false'. Refute it at one input. -/
def pageDecodesWrong : ChangeSpec := { name := "pageDecodes", fn := fun _ => fun
  | [d1, d2] => { results := [.lit (.bool false)], args := [d1, d2] }
  | _ => none }
def PageDecodesWrongFalsely : Prop := pageDecodesRow.holds Try.pinned (OpenSpec.ofChange pageDecodesWrong)

/-- 'quaysidelaw04.PageBack': WHATEVER THE INPUT: true; the input reads as it did. -/
def pageBackSpec : ChangeSpec := { name := "pageBack", fn := fun _ => fun
  | [d1, d2, d3] => { results := [.lit (.bool true)], args := [d1, d2, d3] }
  | _ => none }
def pageBackRow : OpenClaim := { program := "ytnhopkokdnbgjaa", sum := "0d28e4c36de5b41bfe307ad9f9e0d20466c8d84c56f6d9a251c1e923b1a00772", func := "quayside/quaysidelaw04.PageBack", spec := "pageBack", apart := false }
def PageBackSaid : Prop := pageBackRow.holds Try.pinned (OpenSpec.ofChange pageBackSpec)

/-- ITS FALSE NEIGHBOUR: 'it returns false'. Refute it at one input. -/
def pageBackWrong : ChangeSpec := { name := "pageBack", fn := fun _ => fun
  | [d1, d2, d3] => { results := [.lit (.bool false)], args := [d1, d2, d3] }
  | _ => none }
def PageBackWrongFalsely : Prop := pageBackRow.holds Try.pinned (OpenSpec.ofChange pageBackWrong)

/-- 'quaysidelaw04.PageOne': WHATEVER THE INPUT: true; the input reads as it did. -/
def pageOneSpec : ChangeSpec := { name := "pageOne", fn := fun _ => fun
  | [d1, d2] => { results := [.lit (.bool true)], args := [d1, d2] }
  | _ => none }
def pageOneRow : OpenClaim := { program := "ytnhopkokdnbgjaa", sum := "0d28e4c36de5b41bfe307ad9f9e0d20466c8d84c56f6d9a251c1e923b1a00772", func := "quayside/quaysidelaw04.PageOne", spec := "pageOne", apart := false }
def PageOneSaid : Prop := pageOneRow.holds Try.pinned (OpenSpec.ofChange pageOneSpec)

/-- ITS FALSE NEIGHBOUR: 'it returns false'. Refute it at one input. -/
def pageOneWrong : ChangeSpec := { name := "pageOne", fn := fun _ => fun
  | [d1, d2] => { results := [.lit (.bool false)], args := [d1, d2] }
  | _ => none }
def PageOneWrongFalsely : Prop := pageOneRow.holds Try.pinned (OpenSpec.ofChange pageOneWrong)

/-- 'quaysidelaw04.PageMixed': WHATEVER THE INPUT: true; the input reads as it did. -/
def pageMixedSpec : ChangeSpec := { name := "pageMixed", fn := fun _ => fun
  | [d1, d2, d3, d4] => { results := [.lit (.bool true)], args := [d1, d2, d3, d4] }
  | _ => none }
def pageMixedRow : OpenClaim := { program := "ytnhopkokdnbgjaa", sum := "0d28e4c36de5b41bfe307ad9f9e0d20466c8d84c56f6d9a251c1e923b1a00772", func := "quayside/quaysidelaw04.PageMixed", spec := "pageMixed", apart := false }
def PageMixedSaid : Prop := pageMixedRow.holds Try.pinned (OpenSpec.ofChange pageMixedSpec)

/-- ITS FALSE NEIGHBOUR: 'it returns false'. Refute it at one input. -/
def pageMixedWrong : ChangeSpec := { name := "pageMixed", fn := fun _ => fun
  | [d1, d2, d3, d4] => { results := [.lit (.bool false)], args := [d1, d2, d3, d4] }
  | _ => none }
def PageMixedWrongFalsely : Prop := pageMixedRow.holds Try.pinned (OpenSpec.ofChange pageMixedWrong)

/-- 'quaysidelaw04.PageTurned': WHATEVER THE INPUT: true; the input reads as it did. -/
def pageTurnedSpec : ChangeSpec := { name := "pageTurned", fn := fun _ => fun
  | [d1, d2, d3, d4, d5, d6] => { results := [.lit (.bool true)], args := [d1, d2, d3, d4, d5, d6] }
  | _ => none }
def pageTurnedRow : OpenClaim := { program := "ytnhopkokdnbgjaa", sum := "0d28e4c36de5b41bfe307ad9f9e0d20466c8d84c56f6d9a251c1e923b1a00772", func := "quayside/quaysidelaw04.PageTurned", spec := "pageTurned", apart := false }
def PageTurnedSaid : Prop := pageTurnedRow.holds Try.pinned (OpenSpec.ofChange pageTurnedSpec)

/-- ITS FALSE NEIGHBOUR: 'it returns false'. Refute it at one input. -/
def pageTurnedWrong : ChangeSpec := { name := "pageTurned", fn := fun _ => fun
  | [d1, d2, d3, d4, d5, d6] => { results := [.lit (.bool false)], args := [d1, d2, d3, d4, d5, d6] }
  | _ => none }
def PageTurnedWrongFalsely : Prop := pageTurnedRow.holds Try.pinned (OpenSpec.ofChange pageTurnedWrong)

/- THE SECOND FORM. 'bulk': how many values and letters a reading holds, each counted each time it is reached (what is shared counts as often as it is met; a slice's spare places count too). A statement '..UptoSaid' is the law's where the arguments, and the package variables that the reading takes, are together of bulk at most 1048576: NARROWER than '..Said'. Prove '..Said' where nothing that the law and all that it calls make is longer than what came in: it says more and counts as full. Else prove '..UptoSaid'. A law counts once. -/
mutual
def uptoBulk {H : Type} : DataW H → Nat
  | .lit (.string bytes) => bytes.length + 1
  | .lit _ => 1
  | .nil => 1
  | .ptr d => uptoBulk d + 1
  | .slice elems spare => uptoBulkAll elems + uptoBulkAll spare + 1
  | .agg parts => uptoBulkAll parts + 1
  | .iface _ d => uptoBulk d + 1
  | .map entries => uptoBulkEntries entries + 1
  | .held _ => 1
def uptoBulkAll {H : Type} : List (DataW H) → Nat
  | [] => 0
  | d :: r => uptoBulk d + uptoBulkAll r
def uptoBulkEntries {H : Type} : List (Lit × DataW H) → Nat
  | [] => 0
  | x :: r => uptoBulkEntry x + uptoBulkEntries r
def uptoBulkEntry {H : Type} : Lit × DataW H → Nat
  | (.string bytes, d) => bytes.length + uptoBulk d + 1
  | (_, d) => uptoBulk d + 1
 end
def uptoSmall : (H : Type) → List (DataW H) → Bool := fun _ ds => decide (uptoBulkAll ds ≤ 1048576)
def OpenSpec.upto (s : _root_.Go.ChangeSpec) : _root_.Go.OpenSpec := { _root_.Go.OpenSpec.ofChange s with cond := some uptoSmall }

/-- 'quaysidelaw04.PageEncodes', WHERE WHAT IT READS IS OF BULK AT MOST 1048576: true; the input reads as it did. -/
def pageEncodesUptoRow : OpenClaim := { program := "ytnhopkokdnbgjaa", sum := "0d28e4c36de5b41bfe307ad9f9e0d20466c8d84c56f6d9a251c1e923b1a00772", func := "quayside/quaysidelaw04.PageEncodes", spec := "pageEncodes", apart := false, narrowed := true }
def PageEncodesUptoSaid : Prop := pageEncodesUptoRow.holds Try.pinned (OpenSpec.upto pageEncodesSpec)

/-- 'quaysidelaw04.PageUnlike', WHERE WHAT IT READS IS OF BULK AT MOST 1048576: true; the input reads as it did. -/
def pageUnlikeUptoRow : OpenClaim := { program := "ytnhopkokdnbgjaa", sum := "0d28e4c36de5b41bfe307ad9f9e0d20466c8d84c56f6d9a251c1e923b1a00772", func := "quayside/quaysidelaw04.PageUnlike", spec := "pageUnlike", apart := false, narrowed := true }
def PageUnlikeUptoSaid : Prop := pageUnlikeUptoRow.holds Try.pinned (OpenSpec.upto pageUnlikeSpec)

/-- 'quaysidelaw04.PageDecodes', WHERE WHAT IT READS IS OF BULK AT MOST 1048576: true; the input reads as it did. -/
def pageDecodesUptoRow : OpenClaim := { program := "ytnhopkokdnbgjaa", sum := "0d28e4c36de5b41bfe307ad9f9e0d20466c8d84c56f6d9a251c1e923b1a00772", func := "quayside/quaysidelaw04.PageDecodes", spec := "pageDecodes", apart := false, narrowed := true }
def PageDecodesUptoSaid : Prop := pageDecodesUptoRow.holds Try.pinned (OpenSpec.upto pageDecodesSpec)

/-- 'quaysidelaw04.PageBack', WHERE WHAT IT READS IS OF BULK AT MOST 1048576: true; the input reads as it did. -/
def pageBackUptoRow : OpenClaim := { program := "ytnhopkokdnbgjaa", sum := "0d28e4c36de5b41bfe307ad9f9e0d20466c8d84c56f6d9a251c1e923b1a00772", func := "quayside/quaysidelaw04.PageBack", spec := "pageBack", apart := false, narrowed := true }
def PageBackUptoSaid : Prop := pageBackUptoRow.holds Try.pinned (OpenSpec.upto pageBackSpec)

/-- 'quaysidelaw04.PageOne', WHERE WHAT IT READS IS OF BULK AT MOST 1048576: true; the input reads as it did. -/
def pageOneUptoRow : OpenClaim := { program := "ytnhopkokdnbgjaa", sum := "0d28e4c36de5b41bfe307ad9f9e0d20466c8d84c56f6d9a251c1e923b1a00772", func := "quayside/quaysidelaw04.PageOne", spec := "pageOne", apart := false, narrowed := true }
def PageOneUptoSaid : Prop := pageOneUptoRow.holds Try.pinned (OpenSpec.upto pageOneSpec)

/-- 'quaysidelaw04.PageMixed', WHERE WHAT IT READS IS OF BULK AT MOST 1048576: true; the input reads as it did. -/
def pageMixedUptoRow : OpenClaim := { program := "ytnhopkokdnbgjaa", sum := "0d28e4c36de5b41bfe307ad9f9e0d20466c8d84c56f6d9a251c1e923b1a00772", func := "quayside/quaysidelaw04.PageMixed", spec := "pageMixed", apart := false, narrowed := true }
def PageMixedUptoSaid : Prop := pageMixedUptoRow.holds Try.pinned (OpenSpec.upto pageMixedSpec)

/-- 'quaysidelaw04.PageTurned', WHERE WHAT IT READS IS OF BULK AT MOST 1048576: true; the input reads as it did. -/
def pageTurnedUptoRow : OpenClaim := { program := "ytnhopkokdnbgjaa", sum := "0d28e4c36de5b41bfe307ad9f9e0d20466c8d84c56f6d9a251c1e923b1a00772", func := "quayside/quaysidelaw04.PageTurned", spec := "pageTurned", apart := false, narrowed := true }
def PageTurnedUptoSaid : Prop := pageTurnedUptoRow.holds Try.pinned (OpenSpec.upto pageTurnedSpec)

end Rows
end Go.Proofs.Ytnhopkokdnbgjaa
