/-
  No cell of these rows narrows 'for every input' (looked for: loops, veiled, ifaces, maps, wideKeys, modest, calm, conditions, laid).
  DERIVED. THE GIVEN ROWS OF THIS SEAT. 7 by the template 'for every input the law returns true; each argument reads behind the call as it read before'; 0 by the template 'total and deterministic' (their statements: YtdanpfiombbdoaaTotals.lean).
  GIVEN WITH THE SEED: the statements are not yours to turn. If you find one false, say at which input.
  Laid BY PROGRAM, IN A SANDBOX (cutbox-rows.mjs): the forced cells as the released guide's own fill.sh prints them over the translation 1503afa9680aae33… (all of the seat's roots in one cut). By AI agents, Wed Nov 11 2026. No macro, syntax, notation, axiom, sorry.
-/
import Derived.Test.YtdanpfiombbdoaaChecked
import GoSem.Claim
import GoSem.ClaimJoined
import GoSem.ClaimMapViews
import Derived.JoinedTies
import Derived.KernelRfl
namespace Go.Proofs.Ytdanpfiombbdoaa
/- THE CELL 'sum', in the pinned program and in every row, IS THE sha256 OF THE DUMP (.gsa) THAT YtdanpfiombbdoaaProg.lean LOADS. Nothing in Lean hashes anything: it is a label: what it is worth is what the hold of that sum in a sandbox is worth. -/
noncomputable def Try.pinned : Pinned := { name := "ytdanpfiombbdoaa", sum := "1503afa9680aae33ddb00962b72295abb1060ab45019ff43369cee63cda64cd5", checked := Try.checked }
namespace Rows
def none {H : Type} : Left H := { results := [], args := [] }

/-- 'quaysidelaw08.TapeKeeps': WHATEVER THE INPUT: true; the input reads as it did. -/
def tapeKeepsSpec : ChangeSpec := { name := "tapeKeeps", fn := fun _ => fun
  | [d] => { results := [.lit (.bool true)], args := [d] }
  | _ => none }
def tapeKeepsRow : OpenClaim := { program := "ytdanpfiombbdoaa", sum := "1503afa9680aae33ddb00962b72295abb1060ab45019ff43369cee63cda64cd5", func := "quayside/quaysidelaw08.TapeKeeps", spec := "tapeKeeps", apart := false }
def TapeKeepsSaid : Prop := tapeKeepsRow.holds Try.pinned (OpenSpec.ofChange tapeKeepsSpec)

/-- ITS FALSE NEIGHBOUR: 'it returns false'. Refute it at one input. -/
def tapeKeepsWrong : ChangeSpec := { name := "tapeKeeps", fn := fun _ => fun
  | [d] => { results := [.lit (.bool false)], args := [d] }
  | _ => none }
def TapeKeepsWrongFalsely : Prop := tapeKeepsRow.holds Try.pinned (OpenSpec.ofChange tapeKeepsWrong)

/-- 'quaysidelaw08.TapeParts': WHATEVER THE INPUT: true; the input reads as it did. -/
def tapePartsSpec : ChangeSpec := { name := "tapeParts", fn := fun _ => fun
  | [d1, d2] => { results := [.lit (.bool true)], args := [d1, d2] }
  | _ => none }
def tapePartsRow : OpenClaim := { program := "ytdanpfiombbdoaa", sum := "1503afa9680aae33ddb00962b72295abb1060ab45019ff43369cee63cda64cd5", func := "quayside/quaysidelaw08.TapeParts", spec := "tapeParts", apart := false }
def TapePartsSaid : Prop := tapePartsRow.holds Try.pinned (OpenSpec.ofChange tapePartsSpec)

/-- ITS FALSE NEIGHBOUR: 'it returns false'. Refute it at one input. -/
def tapePartsWrong : ChangeSpec := { name := "tapeParts", fn := fun _ => fun
  | [d1, d2] => { results := [.lit (.bool false)], args := [d1, d2] }
  | _ => none }
def TapePartsWrongFalsely : Prop := tapePartsRow.holds Try.pinned (OpenSpec.ofChange tapePartsWrong)

/-- 'quaysidelaw08.TapeStands': WHATEVER THE INPUT: true; the input reads as it did. -/
def tapeStandsSpec : ChangeSpec := { name := "tapeStands", fn := fun _ => fun
  | [d1, d2, d3, d4] => { results := [.lit (.bool true)], args := [d1, d2, d3, d4] }
  | _ => none }
def tapeStandsRow : OpenClaim := { program := "ytdanpfiombbdoaa", sum := "1503afa9680aae33ddb00962b72295abb1060ab45019ff43369cee63cda64cd5", func := "quayside/quaysidelaw08.TapeStands", spec := "tapeStands", apart := false }
def TapeStandsSaid : Prop := tapeStandsRow.holds Try.pinned (OpenSpec.ofChange tapeStandsSpec)

/-- ITS FALSE NEIGHBOUR: 'it returns false'. Refute it at one input. -/
def tapeStandsWrong : ChangeSpec := { name := "tapeStands", fn := fun _ => fun
  | [d1, d2, d3, d4] => { results := [.lit (.bool false)], args := [d1, d2, d3, d4] }
  | _ => none }
def TapeStandsWrongFalsely : Prop := tapeStandsRow.holds Try.pinned (OpenSpec.ofChange tapeStandsWrong)

/-- 'quaysidelaw08.TapeRoom': WHATEVER THE INPUT: true; the input reads as it did. -/
def tapeRoomSpec : ChangeSpec := { name := "tapeRoom", fn := fun _ => fun
  | [d1, d2, d3, d4] => { results := [.lit (.bool true)], args := [d1, d2, d3, d4] }
  | _ => none }
def tapeRoomRow : OpenClaim := { program := "ytdanpfiombbdoaa", sum := "1503afa9680aae33ddb00962b72295abb1060ab45019ff43369cee63cda64cd5", func := "quayside/quaysidelaw08.TapeRoom", spec := "tapeRoom", apart := false }
def TapeRoomSaid : Prop := tapeRoomRow.holds Try.pinned (OpenSpec.ofChange tapeRoomSpec)

/-- ITS FALSE NEIGHBOUR: 'it returns false'. Refute it at one input. -/
def tapeRoomWrong : ChangeSpec := { name := "tapeRoom", fn := fun _ => fun
  | [d1, d2, d3, d4] => { results := [.lit (.bool false)], args := [d1, d2, d3, d4] }
  | _ => none }
def TapeRoomWrongFalsely : Prop := tapeRoomRow.holds Try.pinned (OpenSpec.ofChange tapeRoomWrong)

/-- 'quaysidelaw08.TapePlays': WHATEVER THE INPUT: true; the input reads as it did. -/
def tapePlaysSpec : ChangeSpec := { name := "tapePlays", fn := fun _ => fun
  | [d1, d2, d3] => { results := [.lit (.bool true)], args := [d1, d2, d3] }
  | _ => none }
def tapePlaysRow : OpenClaim := { program := "ytdanpfiombbdoaa", sum := "1503afa9680aae33ddb00962b72295abb1060ab45019ff43369cee63cda64cd5", func := "quayside/quaysidelaw08.TapePlays", spec := "tapePlays", apart := false }
def TapePlaysSaid : Prop := tapePlaysRow.holds Try.pinned (OpenSpec.ofChange tapePlaysSpec)

/-- ITS FALSE NEIGHBOUR: 'it returns false'. Refute it at one input. -/
def tapePlaysWrong : ChangeSpec := { name := "tapePlays", fn := fun _ => fun
  | [d1, d2, d3] => { results := [.lit (.bool false)], args := [d1, d2, d3] }
  | _ => none }
def TapePlaysWrongFalsely : Prop := tapePlaysRow.holds Try.pinned (OpenSpec.ofChange tapePlaysWrong)

/-- 'quaysidelaw08.TapeLate': WHATEVER THE INPUT: true; the input reads as it did. -/
def tapeLateSpec : ChangeSpec := { name := "tapeLate", fn := fun _ => fun
  | [d1, d2] => { results := [.lit (.bool true)], args := [d1, d2] }
  | _ => none }
def tapeLateRow : OpenClaim := { program := "ytdanpfiombbdoaa", sum := "1503afa9680aae33ddb00962b72295abb1060ab45019ff43369cee63cda64cd5", func := "quayside/quaysidelaw08.TapeLate", spec := "tapeLate", apart := false }
def TapeLateSaid : Prop := tapeLateRow.holds Try.pinned (OpenSpec.ofChange tapeLateSpec)

/-- ITS FALSE NEIGHBOUR: 'it returns false'. Refute it at one input. -/
def tapeLateWrong : ChangeSpec := { name := "tapeLate", fn := fun _ => fun
  | [d1, d2] => { results := [.lit (.bool false)], args := [d1, d2] }
  | _ => none }
def TapeLateWrongFalsely : Prop := tapeLateRow.holds Try.pinned (OpenSpec.ofChange tapeLateWrong)

/-- 'quaysidelaw08.TapeNil': WHATEVER THE INPUT: true; the input reads as it did. -/
def tapeNilSpec : ChangeSpec := { name := "tapeNil", fn := fun _ => fun
  | [d] => { results := [.lit (.bool true)], args := [d] }
  | _ => none }
def tapeNilRow : OpenClaim := { program := "ytdanpfiombbdoaa", sum := "1503afa9680aae33ddb00962b72295abb1060ab45019ff43369cee63cda64cd5", func := "quayside/quaysidelaw08.TapeNil", spec := "tapeNil", apart := false }
def TapeNilSaid : Prop := tapeNilRow.holds Try.pinned (OpenSpec.ofChange tapeNilSpec)

/-- ITS FALSE NEIGHBOUR: 'it returns false'. Refute it at one input. -/
def tapeNilWrong : ChangeSpec := { name := "tapeNil", fn := fun _ => fun
  | [d] => { results := [.lit (.bool false)], args := [d] }
  | _ => none }
def TapeNilWrongFalsely : Prop := tapeNilRow.holds Try.pinned (OpenSpec.ofChange tapeNilWrong)

/- THE SECOND FORM. 'bulk': how many values and letters a reading holds, each counted each time it is reached (what is shared counts as often as it is met; a slice's spare places count too). A statement '..UptoSaid' is the law's where the arguments, and the package variables that the reading takes, are together of bulk at most 1048576: NARROWER than '..Said'. Prove '..Said' where nothing that the law and all that it calls make is longer than what came in: it says more and counts as full. Else prove '..UptoSaid'. A law counts once. -/
mutual
def uptoBulk {H : Type} : DataW H → Nat
  | .lit (.string bytes) => bytes.length + 1
  | .lit _ => 1
  | .nil => 1
  | .ptr d => uptoBulk d + 1
  | .slice elems spare => uptoBulkAll elems + uptoBulkAll spare + 1
  | .agg parts => uptoBulkAll parts + 1
  | .iface _ d => uptoBulk d + 1
  | .map entries => uptoBulkEntries entries + 1
  | .held _ => 1
def uptoBulkAll {H : Type} : List (DataW H) → Nat
  | [] => 0
  | d :: r => uptoBulk d + uptoBulkAll r
def uptoBulkEntries {H : Type} : List (Lit × DataW H) → Nat
  | [] => 0
  | x :: r => uptoBulkEntry x + uptoBulkEntries r
def uptoBulkEntry {H : Type} : Lit × DataW H → Nat
  | (.string bytes, d) => bytes.length + uptoBulk d + 1
  | (_, d) => uptoBulk d + 1
 end
def uptoSmall : (H : Type) → List (DataW H) → Bool := fun _ ds => decide (uptoBulkAll ds ≤ 1048576)
def OpenSpec.upto (s : _root_.Go.ChangeSpec) : _root_.Go.OpenSpec := { _root_.Go.OpenSpec.ofChange s with cond := some uptoSmall }

/-- 'quaysidelaw08.TapeKeeps', WHERE WHAT IT READS IS OF BULK AT MOST 1048576: true; the input reads as it did. -/
def tapeKeepsUptoRow : OpenClaim := { program := "ytdanpfiombbdoaa", sum := "1503afa9680aae33ddb00962b72295abb1060ab45019ff43369cee63cda64cd5", func := "quayside/quaysidelaw08.TapeKeeps", spec := "tapeKeeps", apart := false, narrowed := true }
def TapeKeepsUptoSaid : Prop := tapeKeepsUptoRow.holds Try.pinned (OpenSpec.upto tapeKeepsSpec)

/-- 'quaysidelaw08.TapeParts', WHERE WHAT IT READS IS OF BULK AT MOST 1048576: true; the input reads as it did. -/
def tapePartsUptoRow : OpenClaim := { program := "ytdanpfiombbdoaa", sum := "1503afa9680aae33ddb00962b72295abb1060ab45019ff43369cee63cda64cd5", func := "quayside/quaysidelaw08.TapeParts", spec := "tapeParts", apart := false, narrowed := true }
def TapePartsUptoSaid : Prop := tapePartsUptoRow.holds Try.pinned (OpenSpec.upto tapePartsSpec)

/-- 'quaysidelaw08.TapeStands', WHERE WHAT IT READS IS OF BULK AT MOST 1048576: true; the input reads as it did. -/
def tapeStandsUptoRow : OpenClaim := { program := "ytdanpfiombbdoaa", sum := "1503afa9680aae33ddb00962b72295abb1060ab45019ff43369cee63cda64cd5", func := "quayside/quaysidelaw08.TapeStands", spec := "tapeStands", apart := false, narrowed := true }
def TapeStandsUptoSaid : Prop := tapeStandsUptoRow.holds Try.pinned (OpenSpec.upto tapeStandsSpec)

/-- 'quaysidelaw08.TapeRoom', WHERE WHAT IT READS IS OF BULK AT MOST 1048576: true; the input reads as it did. -/
def tapeRoomUptoRow : OpenClaim := { program := "ytdanpfiombbdoaa", sum := "1503afa9680aae33ddb00962b72295abb1060ab45019ff43369cee63cda64cd5", func := "quayside/quaysidelaw08.TapeRoom", spec := "tapeRoom", apart := false, narrowed := true }
def TapeRoomUptoSaid : Prop := tapeRoomUptoRow.holds Try.pinned (OpenSpec.upto tapeRoomSpec)

/-- 'quaysidelaw08.TapePlays', WHERE WHAT IT READS IS OF BULK AT MOST 1048576: true; the input reads as it did. -/
def tapePlaysUptoRow : OpenClaim := { program := "ytdanpfiombbdoaa", sum := "1503afa9680aae33ddb00962b72295abb1060ab45019ff43369cee63cda64cd5", func := "quayside/quaysidelaw08.TapePlays", spec := "tapePlays", apart := false, narrowed := true }
def TapePlaysUptoSaid : Prop := tapePlaysUptoRow.holds Try.pinned (OpenSpec.upto tapePlaysSpec)

/-- 'quaysidelaw08.TapeLate', WHERE WHAT IT READS IS OF BULK AT MOST 1048576: true; the input reads as it did. -/
def tapeLateUptoRow : OpenClaim := { program := "ytdanpfiombbdoaa", sum := "1503afa9680aae33ddb00962b72295abb1060ab45019ff43369cee63cda64cd5", func := "quayside/quaysidelaw08.TapeLate", spec := "tapeLate", apart := false, narrowed := true }
def TapeLateUptoSaid : Prop := tapeLateUptoRow.holds Try.pinned (OpenSpec.upto tapeLateSpec)

/-- 'quaysidelaw08.TapeNil', WHERE WHAT IT READS IS OF BULK AT MOST 1048576: true; the input reads as it did. -/
def tapeNilUptoRow : OpenClaim := { program := "ytdanpfiombbdoaa", sum := "1503afa9680aae33ddb00962b72295abb1060ab45019ff43369cee63cda64cd5", func := "quayside/quaysidelaw08.TapeNil", spec := "tapeNil", apart := false, narrowed := true }
def TapeNilUptoSaid : Prop := tapeNilUptoRow.holds Try.pinned (OpenSpec.upto tapeNilSpec)

end Rows
end Go.Proofs.Ytdanpfiombbdoaa
