/-
  No cell of these rows narrows 'for every input' (looked for: loops, veiled, ifaces, maps, wideKeys, modest, calm, conditions, laid).
  DERIVED. THE GIVEN ROWS OF THIS SEAT. 7 by the template 'for every input the law returns true; each argument reads behind the call as it read before'; 0 by the template 'total and deterministic' (their statements: YtmfepnngjpmljaaTotals.lean).
  GIVEN WITH THE SEED: the statements are not yours to turn. If you find one false, say at which input.
  Laid BY PROGRAM, IN A SANDBOX (cutbox-rows.mjs): the forced cells as the released guide's own fill.sh prints them over the translation 0db2dea507f090ff… (all of the seat's roots in one cut). By AI agents, Wed Nov 11 2026. No macro, syntax, notation, axiom, sorry.
-/
import Derived.Test.YtmfepnngjpmljaaChecked
import GoSem.Claim
import GoSem.ClaimJoined
import GoSem.ClaimMapViews
import Derived.JoinedTies
import Derived.KernelRfl
namespace Go.Proofs.Ytmfepnngjpmljaa
/- THE CELL 'sum', in the pinned program and in every row, IS THE sha256 OF THE DUMP (.gsa) THAT YtmfepnngjpmljaaProg.lean LOADS. Nothing in Lean hashes anything: it is a label: what it is worth is what the hold of that sum in a sandbox is worth. -/
noncomputable def Try.pinned : Pinned := { name := "ytmfepnngjpmljaa", sum := "0db2dea507f090ff10febf6355aa742e97e0aa46e2c72747e812a76931bc25cb", checked := Try.checked }
namespace Rows
def none {H : Type} : Left H := { results := [], args := [] }

/-- 'quaysidelaw02.SumSums': WHATEVER THE INPUT: true; the input reads as it did. -/
def sumSumsSpec : ChangeSpec := { name := "sumSums", fn := fun _ => fun
  | [d1, d2] => { results := [.lit (.bool true)], args := [d1, d2] }
  | _ => none }
def sumSumsRow : OpenClaim := { program := "ytmfepnngjpmljaa", sum := "0db2dea507f090ff10febf6355aa742e97e0aa46e2c72747e812a76931bc25cb", func := "quayside/quaysidelaw02.SumSums", spec := "sumSums", apart := false }
def SumSumsSaid : Prop := sumSumsRow.holds Try.pinned (OpenSpec.ofChange sumSumsSpec)

/-- ITS FALSE NEIGHBOUR: 'it returns false'. Refute it at one input. -/
def sumSumsWrong : ChangeSpec := { name := "sumSums", fn := fun _ => fun
  | [d1, d2] => { results := [.lit (.bool false)], args := [d1, d2] }
  | _ => none }
def SumSumsWrongFalsely : Prop := sumSumsRow.holds Try.pinned (OpenSpec.ofChange sumSumsWrong)

/-- 'quaysidelaw02.SumMore': WHATEVER THE INPUT: true; the input reads as it did. -/
def sumMoreSpec : ChangeSpec := { name := "sumMore", fn := fun _ => fun
  | [d1, d2] => { results := [.lit (.bool true)], args := [d1, d2] }
  | _ => none }
def sumMoreRow : OpenClaim := { program := "ytmfepnngjpmljaa", sum := "0db2dea507f090ff10febf6355aa742e97e0aa46e2c72747e812a76931bc25cb", func := "quayside/quaysidelaw02.SumMore", spec := "sumMore", apart := false }
def SumMoreSaid : Prop := sumMoreRow.holds Try.pinned (OpenSpec.ofChange sumMoreSpec)

/-- ITS FALSE NEIGHBOUR: 'it returns false'. Refute it at one input. -/
def sumMoreWrong : ChangeSpec := { name := "sumMore", fn := fun _ => fun
  | [d1, d2] => { results := [.lit (.bool false)], args := [d1, d2] }
  | _ => none }
def SumMoreWrongFalsely : Prop := sumMoreRow.holds Try.pinned (OpenSpec.ofChange sumMoreWrong)

/-- 'quaysidelaw02.SumLinear': WHATEVER THE INPUT: true; the input reads as it did. -/
def sumLinearSpec : ChangeSpec := { name := "sumLinear", fn := fun _ => fun
  | [d1, d2, d3] => { results := [.lit (.bool true)], args := [d1, d2, d3] }
  | _ => none }
def sumLinearRow : OpenClaim := { program := "ytmfepnngjpmljaa", sum := "0db2dea507f090ff10febf6355aa742e97e0aa46e2c72747e812a76931bc25cb", func := "quayside/quaysidelaw02.SumLinear", spec := "sumLinear", apart := false }
def SumLinearSaid : Prop := sumLinearRow.holds Try.pinned (OpenSpec.ofChange sumLinearSpec)

/-- ITS FALSE NEIGHBOUR: 'it returns false'. Refute it at one input. -/
def sumLinearWrong : ChangeSpec := { name := "sumLinear", fn := fun _ => fun
  | [d1, d2, d3] => { results := [.lit (.bool false)], args := [d1, d2, d3] }
  | _ => none }
def SumLinearWrongFalsely : Prop := sumLinearRow.holds Try.pinned (OpenSpec.ofChange sumLinearWrong)

/-- 'quaysidelaw02.SumOpens': WHATEVER THE INPUT: true; the input reads as it did. -/
def sumOpensSpec : ChangeSpec := { name := "sumOpens", fn := fun _ => fun
  | [d] => { results := [.lit (.bool true)], args := [d] }
  | _ => none }
def sumOpensRow : OpenClaim := { program := "ytmfepnngjpmljaa", sum := "0db2dea507f090ff10febf6355aa742e97e0aa46e2c72747e812a76931bc25cb", func := "quayside/quaysidelaw02.SumOpens", spec := "sumOpens", apart := false }
def SumOpensSaid : Prop := sumOpensRow.holds Try.pinned (OpenSpec.ofChange sumOpensSpec)

/-- ITS FALSE NEIGHBOUR: 'it returns false'. Refute it at one input. -/
def sumOpensWrong : ChangeSpec := { name := "sumOpens", fn := fun _ => fun
  | [d] => { results := [.lit (.bool false)], args := [d] }
  | _ => none }
def SumOpensWrongFalsely : Prop := sumOpensRow.holds Try.pinned (OpenSpec.ofChange sumOpensWrong)

/-- 'quaysidelaw02.SumBack': WHATEVER THE INPUT: true; the input reads as it did. -/
def sumBackSpec : ChangeSpec := { name := "sumBack", fn := fun _ => fun
  | [d] => { results := [.lit (.bool true)], args := [d] }
  | _ => none }
def sumBackRow : OpenClaim := { program := "ytmfepnngjpmljaa", sum := "0db2dea507f090ff10febf6355aa742e97e0aa46e2c72747e812a76931bc25cb", func := "quayside/quaysidelaw02.SumBack", spec := "sumBack", apart := false }
def SumBackSaid : Prop := sumBackRow.holds Try.pinned (OpenSpec.ofChange sumBackSpec)

/-- ITS FALSE NEIGHBOUR: 'it returns false'. Refute it at one input. -/
def sumBackWrong : ChangeSpec := { name := "sumBack", fn := fun _ => fun
  | [d] => { results := [.lit (.bool false)], args := [d] }
  | _ => none }
def SumBackWrongFalsely : Prop := sumBackRow.holds Try.pinned (OpenSpec.ofChange sumBackWrong)

/-- 'quaysidelaw02.SumTurned': WHATEVER THE INPUT: true; the input reads as it did. -/
def sumTurnedSpec : ChangeSpec := { name := "sumTurned", fn := fun _ => fun
  | [d1, d2, d3] => { results := [.lit (.bool true)], args := [d1, d2, d3] }
  | _ => none }
def sumTurnedRow : OpenClaim := { program := "ytmfepnngjpmljaa", sum := "0db2dea507f090ff10febf6355aa742e97e0aa46e2c72747e812a76931bc25cb", func := "quayside/quaysidelaw02.SumTurned", spec := "sumTurned", apart := false }
def SumTurnedSaid : Prop := sumTurnedRow.holds Try.pinned (OpenSpec.ofChange sumTurnedSpec)

/-- ITS FALSE NEIGHBOUR: 'it returns false'. Refute it at one input. -/
def sumTurnedWrong : ChangeSpec := { name := "sumTurned", fn := fun _ => fun
  | [d1, d2, d3] => { results := [.lit (.bool false)], args := [d1, d2, d3] }
  | _ => none }
def SumTurnedWrongFalsely : Prop := sumTurnedRow.holds Try.pinned (OpenSpec.ofChange sumTurnedWrong)

/-- 'quaysidelaw02.SumKeeps': WHATEVER THE INPUT: true; the input reads as it did. -/
def sumKeepsSpec : ChangeSpec := { name := "sumKeeps", fn := fun _ => fun
  | [d] => { results := [.lit (.bool true)], args := [d] }
  | _ => none }
def sumKeepsRow : OpenClaim := { program := "ytmfepnngjpmljaa", sum := "0db2dea507f090ff10febf6355aa742e97e0aa46e2c72747e812a76931bc25cb", func := "quayside/quaysidelaw02.SumKeeps", spec := "sumKeeps", apart := false }
def SumKeepsSaid : Prop := sumKeepsRow.holds Try.pinned (OpenSpec.ofChange sumKeepsSpec)

/-- ITS FALSE NEIGHBOUR: 'it returns false'. Refute it at one input. -/
def sumKeepsWrong : ChangeSpec := { name := "sumKeeps", fn := fun _ => fun
  | [d] => { results := [.lit (.bool false)], args := [d] }
  | _ => none }
def SumKeepsWrongFalsely : Prop := sumKeepsRow.holds Try.pinned (OpenSpec.ofChange sumKeepsWrong)

/- THE SECOND FORM. 'bulk': how many values and letters a reading holds, each counted each time it is reached (what is shared counts as often as it is met; a slice's spare places count too). A statement '..UptoSaid' is the law's where the arguments, and the package variables that the reading takes, are together of bulk at most 1048576: NARROWER than '..Said'. Prove '..Said' where nothing that the law and all that it calls make is longer than what came in: it says more and counts as full. Else prove '..UptoSaid'. A law counts once. -/
mutual
def uptoBulk {H : Type} : DataW H → Nat
  | .lit (.string bytes) => bytes.length + 1
  | .lit _ => 1
  | .nil => 1
  | .ptr d => uptoBulk d + 1
  | .slice elems spare => uptoBulkAll elems + uptoBulkAll spare + 1
  | .agg parts => uptoBulkAll parts + 1
  | .iface _ d => uptoBulk d + 1
  | .map entries => uptoBulkEntries entries + 1
  | .held _ => 1
def uptoBulkAll {H : Type} : List (DataW H) → Nat
  | [] => 0
  | d :: r => uptoBulk d + uptoBulkAll r
def uptoBulkEntries {H : Type} : List (Lit × DataW H) → Nat
  | [] => 0
  | x :: r => uptoBulkEntry x + uptoBulkEntries r
def uptoBulkEntry {H : Type} : Lit × DataW H → Nat
  | (.string bytes, d) => bytes.length + uptoBulk d + 1
  | (_, d) => uptoBulk d + 1
 end
def uptoSmall : (H : Type) → List (DataW H) → Bool := fun _ ds => decide (uptoBulkAll ds ≤ 1048576)
def OpenSpec.upto (s : _root_.Go.ChangeSpec) : _root_.Go.OpenSpec := { _root_.Go.OpenSpec.ofChange s with cond := some uptoSmall }

/-- 'quaysidelaw02.SumSums', WHERE WHAT IT READS IS OF BULK AT MOST 1048576: true; the input reads as it did. -/
def sumSumsUptoRow : OpenClaim := { program := "ytmfepnngjpmljaa", sum := "0db2dea507f090ff10febf6355aa742e97e0aa46e2c72747e812a76931bc25cb", func := "quayside/quaysidelaw02.SumSums", spec := "sumSums", apart := false, narrowed := true }
def SumSumsUptoSaid : Prop := sumSumsUptoRow.holds Try.pinned (OpenSpec.upto sumSumsSpec)

/-- 'quaysidelaw02.SumMore', WHERE WHAT IT READS IS OF BULK AT MOST 1048576: true; the input reads as it did. -/
def sumMoreUptoRow : OpenClaim := { program := "ytmfepnngjpmljaa", sum := "0db2dea507f090ff10febf6355aa742e97e0aa46e2c72747e812a76931bc25cb", func := "quayside/quaysidelaw02.SumMore", spec := "sumMore", apart := false, narrowed := true }
def SumMoreUptoSaid : Prop := sumMoreUptoRow.holds Try.pinned (OpenSpec.upto sumMoreSpec)

/-- 'quaysidelaw02.SumLinear', WHERE WHAT IT READS IS OF BULK AT MOST 1048576: true; the input reads as it did. -/
def sumLinearUptoRow : OpenClaim := { program := "ytmfepnngjpmljaa", sum := "0db2dea507f090ff10febf6355aa742e97e0aa46e2c72747e812a76931bc25cb", func := "quayside/quaysidelaw02.SumLinear", spec := "sumLinear", apart := false, narrowed := true }
def SumLinearUptoSaid : Prop := sumLinearUptoRow.holds Try.pinned (OpenSpec.upto sumLinearSpec)

/-- 'quaysidelaw02.SumOpens', WHERE WHAT IT READS IS OF BULK AT MOST 1048576: true; the input reads as it did. -/
def sumOpensUptoRow : OpenClaim := { program := "ytmfepnngjpmljaa", sum := "0db2dea507f090ff10febf6355aa742e97e0aa46e2c72747e812a76931bc25cb", func := "quayside/quaysidelaw02.SumOpens", spec := "sumOpens", apart := false, narrowed := true }
def SumOpensUptoSaid : Prop := sumOpensUptoRow.holds Try.pinned (OpenSpec.upto sumOpensSpec)

/-- 'quaysidelaw02.SumBack', WHERE WHAT IT READS IS OF BULK AT MOST 1048576: true; the input reads as it did. -/
def sumBackUptoRow : OpenClaim := { program := "ytmfepnngjpmljaa", sum := "0db2dea507f090ff10febf6355aa742e97e0aa46e2c72747e812a76931bc25cb", func := "quayside/quaysidelaw02.SumBack", spec := "sumBack", apart := false, narrowed := true }
def SumBackUptoSaid : Prop := sumBackUptoRow.holds Try.pinned (OpenSpec.upto sumBackSpec)

/-- 'quaysidelaw02.SumTurned', WHERE WHAT IT READS IS OF BULK AT MOST 1048576: true; the input reads as it did. -/
def sumTurnedUptoRow : OpenClaim := { program := "ytmfepnngjpmljaa", sum := "0db2dea507f090ff10febf6355aa742e97e0aa46e2c72747e812a76931bc25cb", func := "quayside/quaysidelaw02.SumTurned", spec := "sumTurned", apart := false, narrowed := true }
def SumTurnedUptoSaid : Prop := sumTurnedUptoRow.holds Try.pinned (OpenSpec.upto sumTurnedSpec)

/-- 'quaysidelaw02.SumKeeps', WHERE WHAT IT READS IS OF BULK AT MOST 1048576: true; the input reads as it did. -/
def sumKeepsUptoRow : OpenClaim := { program := "ytmfepnngjpmljaa", sum := "0db2dea507f090ff10febf6355aa742e97e0aa46e2c72747e812a76931bc25cb", func := "quayside/quaysidelaw02.SumKeeps", spec := "sumKeeps", apart := false, narrowed := true }
def SumKeepsUptoSaid : Prop := sumKeepsUptoRow.holds Try.pinned (OpenSpec.upto sumKeepsSpec)

end Rows
end Go.Proofs.Ytmfepnngjpmljaa
