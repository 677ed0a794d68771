/-
  No cell of these rows narrows 'for every input' (looked for: loops, veiled, ifaces, maps, wideKeys, modest, calm, conditions, laid).
  DERIVED. THE GIVEN ROWS OF THIS SEAT. 7 by the template 'for every input the law returns true; each argument reads behind the call as it read before'; 0 by the template 'total and deterministic' (their statements: YtpncaeadbfdflaaTotals.lean).
  GIVEN WITH THE SEED: the statements are not yours to turn. If you find one false, say at which input.
  Laid BY PROGRAM, IN A SANDBOX (cutbox-rows.mjs): the forced cells as the released guide's own fill.sh prints them over the translation 01f22faa04bdd69d… (all of the seat's roots in one cut). By AI agents, Wed Nov 11 2026. No macro, syntax, notation, axiom, sorry.
-/
import Derived.Test.YtpncaeadbfdflaaChecked
import GoSem.Claim
import GoSem.ClaimJoined
import GoSem.ClaimMapViews
import Derived.JoinedTies
import Derived.KernelRfl
namespace Go.Proofs.Ytpncaeadbfdflaa
/- THE CELL 'sum', in the pinned program and in every row, IS THE sha256 OF THE DUMP (.gsa) THAT YtpncaeadbfdflaaProg.lean LOADS. Nothing in Lean hashes anything: it is a label: what it is worth is what the hold of that sum in a sandbox is worth. -/
noncomputable def Try.pinned : Pinned := { name := "ytpncaeadbfdflaa", sum := "01f22faa04bdd69d90db591f285ee61af695e228b1a368d9e41896cb90f7668f", checked := Try.checked }
namespace Rows
def none {H : Type} : Left H := { results := [], args := [] }

/-- 'quaysidelaw10.StoreKeeps': WHATEVER THE INPUT: true; the input reads as it did. -/
def storeKeepsSpec : ChangeSpec := { name := "storeKeeps", fn := fun _ => fun
  | [d1, d2] => { results := [.lit (.bool true)], args := [d1, d2] }
  | _ => none }
def storeKeepsRow : OpenClaim := { program := "ytpncaeadbfdflaa", sum := "01f22faa04bdd69d90db591f285ee61af695e228b1a368d9e41896cb90f7668f", func := "quayside/quaysidelaw10.StoreKeeps", spec := "storeKeeps", apart := false }
def StoreKeepsSaid : Prop := storeKeepsRow.holds Try.pinned (OpenSpec.ofChange storeKeepsSpec)

/-- ITS FALSE NEIGHBOUR: 'it returns false'. Refute it at one input. -/
def storeKeepsWrong : ChangeSpec := { name := "storeKeeps", fn := fun _ => fun
  | [d1, d2] => { results := [.lit (.bool false)], args := [d1, d2] }
  | _ => none }
def StoreKeepsWrongFalsely : Prop := storeKeepsRow.holds Try.pinned (OpenSpec.ofChange storeKeepsWrong)

/-- 'quaysidelaw10.StoreRises': WHATEVER THE INPUT: true; the input reads as it did. -/
def storeRisesSpec : ChangeSpec := { name := "storeRises", fn := fun _ => fun
  | [d] => { results := [.lit (.bool true)], args := [d] }
  | _ => none }
def storeRisesRow : OpenClaim := { program := "ytpncaeadbfdflaa", sum := "01f22faa04bdd69d90db591f285ee61af695e228b1a368d9e41896cb90f7668f", func := "quayside/quaysidelaw10.StoreRises", spec := "storeRises", apart := false }
def StoreRisesSaid : Prop := storeRisesRow.holds Try.pinned (OpenSpec.ofChange storeRisesSpec)

/-- ITS FALSE NEIGHBOUR: 'it returns false'. Refute it at one input. -/
def storeRisesWrong : ChangeSpec := { name := "storeRises", fn := fun _ => fun
  | [d] => { results := [.lit (.bool false)], args := [d] }
  | _ => none }
def StoreRisesWrongFalsely : Prop := storeRisesRow.holds Try.pinned (OpenSpec.ofChange storeRisesWrong)

/-- 'quaysidelaw10.StoreWhole': WHATEVER THE INPUT: true; the input reads as it did. -/
def storeWholeSpec : ChangeSpec := { name := "storeWhole", fn := fun _ => fun
  | [d1, d2] => { results := [.lit (.bool true)], args := [d1, d2] }
  | _ => none }
def storeWholeRow : OpenClaim := { program := "ytpncaeadbfdflaa", sum := "01f22faa04bdd69d90db591f285ee61af695e228b1a368d9e41896cb90f7668f", func := "quayside/quaysidelaw10.StoreWhole", spec := "storeWhole", apart := false }
def StoreWholeSaid : Prop := storeWholeRow.holds Try.pinned (OpenSpec.ofChange storeWholeSpec)

/-- ITS FALSE NEIGHBOUR: 'it returns false'. Refute it at one input. -/
def storeWholeWrong : ChangeSpec := { name := "storeWhole", fn := fun _ => fun
  | [d1, d2] => { results := [.lit (.bool false)], args := [d1, d2] }
  | _ => none }
def StoreWholeWrongFalsely : Prop := storeWholeRow.holds Try.pinned (OpenSpec.ofChange storeWholeWrong)

/-- 'quaysidelaw10.StoreCut': WHATEVER THE INPUT: true; the input reads as it did. -/
def storeCutSpec : ChangeSpec := { name := "storeCut", fn := fun _ => fun
  | [d1, d2, d3, d4, d5, d6, d7, d8] => { results := [.lit (.bool true)], args := [d1, d2, d3, d4, d5, d6, d7, d8] }
  | _ => none }
def storeCutRow : OpenClaim := { program := "ytpncaeadbfdflaa", sum := "01f22faa04bdd69d90db591f285ee61af695e228b1a368d9e41896cb90f7668f", func := "quayside/quaysidelaw10.StoreCut", spec := "storeCut", apart := false }
def StoreCutSaid : Prop := storeCutRow.holds Try.pinned (OpenSpec.ofChange storeCutSpec)

/-- ITS FALSE NEIGHBOUR: 'it returns false'. Refute it at one input. -/
def storeCutWrong : ChangeSpec := { name := "storeCut", fn := fun _ => fun
  | [d1, d2, d3, d4, d5, d6, d7, d8] => { results := [.lit (.bool false)], args := [d1, d2, d3, d4, d5, d6, d7, d8] }
  | _ => none }
def StoreCutWrongFalsely : Prop := storeCutRow.holds Try.pinned (OpenSpec.ofChange storeCutWrong)

/-- 'quaysidelaw10.StorePlays': WHATEVER THE INPUT: true; the input reads as it did. -/
def storePlaysSpec : ChangeSpec := { name := "storePlays", fn := fun _ => fun
  | [d1, d2] => { results := [.lit (.bool true)], args := [d1, d2] }
  | _ => none }
def storePlaysRow : OpenClaim := { program := "ytpncaeadbfdflaa", sum := "01f22faa04bdd69d90db591f285ee61af695e228b1a368d9e41896cb90f7668f", func := "quayside/quaysidelaw10.StorePlays", spec := "storePlays", apart := false }
def StorePlaysSaid : Prop := storePlaysRow.holds Try.pinned (OpenSpec.ofChange storePlaysSpec)

/-- ITS FALSE NEIGHBOUR: 'it returns false'. Refute it at one input. -/
def storePlaysWrong : ChangeSpec := { name := "storePlays", fn := fun _ => fun
  | [d1, d2] => { results := [.lit (.bool false)], args := [d1, d2] }
  | _ => none }
def StorePlaysWrongFalsely : Prop := storePlaysRow.holds Try.pinned (OpenSpec.ofChange storePlaysWrong)

/-- 'quaysidelaw10.StoreNil': WHATEVER THE INPUT: true; the input reads as it did. -/
def storeNilSpec : ChangeSpec := { name := "storeNil", fn := fun _ => fun
  | [d1, d2] => { results := [.lit (.bool true)], args := [d1, d2] }
  | _ => none }
def storeNilRow : OpenClaim := { program := "ytpncaeadbfdflaa", sum := "01f22faa04bdd69d90db591f285ee61af695e228b1a368d9e41896cb90f7668f", func := "quayside/quaysidelaw10.StoreNil", spec := "storeNil", apart := false }
def StoreNilSaid : Prop := storeNilRow.holds Try.pinned (OpenSpec.ofChange storeNilSpec)

/-- ITS FALSE NEIGHBOUR: 'it returns false'. Refute it at one input. -/
def storeNilWrong : ChangeSpec := { name := "storeNil", fn := fun _ => fun
  | [d1, d2] => { results := [.lit (.bool false)], args := [d1, d2] }
  | _ => none }
def StoreNilWrongFalsely : Prop := storeNilRow.holds Try.pinned (OpenSpec.ofChange storeNilWrong)

/-- 'quaysidetop.TopPages': WHATEVER THE INPUT: true; the input reads as it did. -/
def topPagesSpec : ChangeSpec := { name := "topPages", fn := fun _ => fun
  | [d] => { results := [.lit (.bool true)], args := [d] }
  | _ => none }
def topPagesRow : OpenClaim := { program := "ytpncaeadbfdflaa", sum := "01f22faa04bdd69d90db591f285ee61af695e228b1a368d9e41896cb90f7668f", func := "quayside/quaysidetop.TopPages", spec := "topPages", apart := false }
def TopPagesSaid : Prop := topPagesRow.holds Try.pinned (OpenSpec.ofChange topPagesSpec)

/-- ITS FALSE NEIGHBOUR: 'it returns false'. Refute it at one input. -/
def topPagesWrong : ChangeSpec := { name := "topPages", fn := fun _ => fun
  | [d] => { results := [.lit (.bool false)], args := [d] }
  | _ => none }
def TopPagesWrongFalsely : Prop := topPagesRow.holds Try.pinned (OpenSpec.ofChange topPagesWrong)

/- THE SECOND FORM. 'bulk': how many values and letters a reading holds, each counted each time it is reached (what is shared counts as often as it is met; a slice's spare places count too). A statement '..UptoSaid' is the law's where the arguments, and the package variables that the reading takes, are together of bulk at most 1048576: NARROWER than '..Said'. Prove '..Said' where nothing that the law and all that it calls make is longer than what came in: it says more and counts as full. Else prove '..UptoSaid'. A law counts once. -/
mutual
def uptoBulk {H : Type} : DataW H → Nat
  | .lit (.string bytes) => bytes.length + 1
  | .lit _ => 1
  | .nil => 1
  | .ptr d => uptoBulk d + 1
  | .slice elems spare => uptoBulkAll elems + uptoBulkAll spare + 1
  | .agg parts => uptoBulkAll parts + 1
  | .iface _ d => uptoBulk d + 1
  | .map entries => uptoBulkEntries entries + 1
  | .held _ => 1
def uptoBulkAll {H : Type} : List (DataW H) → Nat
  | [] => 0
  | d :: r => uptoBulk d + uptoBulkAll r
def uptoBulkEntries {H : Type} : List (Lit × DataW H) → Nat
  | [] => 0
  | x :: r => uptoBulkEntry x + uptoBulkEntries r
def uptoBulkEntry {H : Type} : Lit × DataW H → Nat
  | (.string bytes, d) => bytes.length + uptoBulk d + 1
  | (_, d) => uptoBulk d + 1
 end
def uptoSmall : (H : Type) → List (DataW H) → Bool := fun _ ds => decide (uptoBulkAll ds ≤ 1048576)
def OpenSpec.upto (s : _root_.Go.ChangeSpec) : _root_.Go.OpenSpec := { _root_.Go.OpenSpec.ofChange s with cond := some uptoSmall }

/-- 'quaysidelaw10.StoreKeeps', WHERE WHAT IT READS IS OF BULK AT MOST 1048576: true; the input reads as it did. -/
def storeKeepsUptoRow : OpenClaim := { program := "ytpncaeadbfdflaa", sum := "01f22faa04bdd69d90db591f285ee61af695e228b1a368d9e41896cb90f7668f", func := "quayside/quaysidelaw10.StoreKeeps", spec := "storeKeeps", apart := false, narrowed := true }
def StoreKeepsUptoSaid : Prop := storeKeepsUptoRow.holds Try.pinned (OpenSpec.upto storeKeepsSpec)

/-- 'quaysidelaw10.StoreRises', WHERE WHAT IT READS IS OF BULK AT MOST 1048576: true; the input reads as it did. -/
def storeRisesUptoRow : OpenClaim := { program := "ytpncaeadbfdflaa", sum := "01f22faa04bdd69d90db591f285ee61af695e228b1a368d9e41896cb90f7668f", func := "quayside/quaysidelaw10.StoreRises", spec := "storeRises", apart := false, narrowed := true }
def StoreRisesUptoSaid : Prop := storeRisesUptoRow.holds Try.pinned (OpenSpec.upto storeRisesSpec)

/-- 'quaysidelaw10.StoreWhole', WHERE WHAT IT READS IS OF BULK AT MOST 1048576: true; the input reads as it did. -/
def storeWholeUptoRow : OpenClaim := { program := "ytpncaeadbfdflaa", sum := "01f22faa04bdd69d90db591f285ee61af695e228b1a368d9e41896cb90f7668f", func := "quayside/quaysidelaw10.StoreWhole", spec := "storeWhole", apart := false, narrowed := true }
def StoreWholeUptoSaid : Prop := storeWholeUptoRow.holds Try.pinned (OpenSpec.upto storeWholeSpec)

/-- 'quaysidelaw10.StoreCut', WHERE WHAT IT READS IS OF BULK AT MOST 1048576: true; the input reads as it did. -/
def storeCutUptoRow : OpenClaim := { program := "ytpncaeadbfdflaa", sum := "01f22faa04bdd69d90db591f285ee61af695e228b1a368d9e41896cb90f7668f", func := "quayside/quaysidelaw10.StoreCut", spec := "storeCut", apart := false, narrowed := true }
def StoreCutUptoSaid : Prop := storeCutUptoRow.holds Try.pinned (OpenSpec.upto storeCutSpec)

/-- 'quaysidelaw10.StorePlays', WHERE WHAT IT READS IS OF BULK AT MOST 1048576: true; the input reads as it did. -/
def storePlaysUptoRow : OpenClaim := { program := "ytpncaeadbfdflaa", sum := "01f22faa04bdd69d90db591f285ee61af695e228b1a368d9e41896cb90f7668f", func := "quayside/quaysidelaw10.StorePlays", spec := "storePlays", apart := false, narrowed := true }
def StorePlaysUptoSaid : Prop := storePlaysUptoRow.holds Try.pinned (OpenSpec.upto storePlaysSpec)

/-- 'quaysidelaw10.StoreNil', WHERE WHAT IT READS IS OF BULK AT MOST 1048576: true; the input reads as it did. -/
def storeNilUptoRow : OpenClaim := { program := "ytpncaeadbfdflaa", sum := "01f22faa04bdd69d90db591f285ee61af695e228b1a368d9e41896cb90f7668f", func := "quayside/quaysidelaw10.StoreNil", spec := "storeNil", apart := false, narrowed := true }
def StoreNilUptoSaid : Prop := storeNilUptoRow.holds Try.pinned (OpenSpec.upto storeNilSpec)

/-- 'quaysidetop.TopPages', WHERE WHAT IT READS IS OF BULK AT MOST 1048576: true; the input reads as it did. -/
def topPagesUptoRow : OpenClaim := { program := "ytpncaeadbfdflaa", sum := "01f22faa04bdd69d90db591f285ee61af695e228b1a368d9e41896cb90f7668f", func := "quayside/quaysidetop.TopPages", spec := "topPages", apart := false, narrowed := true }
def TopPagesUptoSaid : Prop := topPagesUptoRow.holds Try.pinned (OpenSpec.upto topPagesSpec)

end Rows
end Go.Proofs.Ytpncaeadbfdflaa
