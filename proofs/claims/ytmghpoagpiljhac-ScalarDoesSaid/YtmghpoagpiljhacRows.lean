/-
  No cell of these rows narrows 'for every input' (looked for: loops, veiled, ifaces, maps, wideKeys, modest, calm, conditions, laid).
  DERIVED. THE GIVEN ROWS OF THIS SEAT. 4 by the template 'for every input the law returns true; each argument reads behind the call as it read before'; 0 by the template 'total and deterministic' (their statements: YtmghpoagpiljhacTotals.lean).
  GIVEN WITH THE SEED: the statements are not yours to turn. If you find one false, say at which input.
  Laid BY PROGRAM, IN A SANDBOX (cutbox-rows.mjs): the forced cells as the released guide's own fill.sh prints them over the translation af23de1c42fa67b4… (all of the seat's roots in one cut). By AI agents, Wed Nov 11 2026. No macro, syntax, notation, axiom, sorry.
-/
import Derived.Test.YtmghpoagpiljhacChecked
import GoSem.Claim
import GoSem.ClaimJoined
import GoSem.ClaimMapViews
import Derived.JoinedTies
import Derived.KernelRfl
namespace Go.Proofs.Ytmghpoagpiljhac
/- THE CELL 'sum', in the pinned program and in every row, IS THE sha256 OF THE DUMP (.gsa) THAT YtmghpoagpiljhacProg.lean LOADS. Nothing in Lean hashes anything: it is a label: what it is worth is what the hold of that sum in a sandbox is worth. -/
noncomputable def Try.pinned : Pinned := { name := "ytmghpoagpiljhac", sum := "af23de1c42fa67b4932a29c5e22e86dec0ed5602c6c0bcdab9983cbd0111bebc", checked := Try.checked }
namespace Rows
def none {H : Type} : Left H := { results := [], args := [] }

/-- 'tipstafflaw14.ScalarDoes': WHATEVER THE INPUT: true; the input reads as it did. -/
def scalarDoesSpec : ChangeSpec := { name := "scalarDoes", fn := fun _ => fun
  | [d1, d2, d3] => { results := [.lit (.bool true)], args := [d1, d2, d3] }
  | _ => none }
def scalarDoesRow : OpenClaim := { program := "ytmghpoagpiljhac", sum := "af23de1c42fa67b4932a29c5e22e86dec0ed5602c6c0bcdab9983cbd0111bebc", func := "tipstaff/tipstafflaw14.ScalarDoes", spec := "scalarDoes", inPlace := ["math/bits.Add64"], apart := false }
def ScalarDoesSaid : Prop := scalarDoesRow.holds Try.pinned (OpenSpec.ofChange scalarDoesSpec)

/-- ITS FALSE NEIGHBOUR: 'it returns false'. Refute it at one input. -/
def scalarDoesWrong : ChangeSpec := { name := "scalarDoes", fn := fun _ => fun
  | [d1, d2, d3] => { results := [.lit (.bool false)], args := [d1, d2, d3] }
  | _ => none }
def ScalarDoesWrongFalsely : Prop := scalarDoesRow.holds Try.pinned (OpenSpec.ofChange scalarDoesWrong)

/-- 'tipstafflaw14.ScalarConsts': WHATEVER THE INPUT: true; the input reads as it did. -/
def scalarConstsSpec : ChangeSpec := { name := "scalarConsts", fn := fun _ => fun
  | [d1, d2, d3] => { results := [.lit (.bool true)], args := [d1, d2, d3] }
  | _ => none }
def scalarConstsRow : OpenClaim := { program := "ytmghpoagpiljhac", sum := "af23de1c42fa67b4932a29c5e22e86dec0ed5602c6c0bcdab9983cbd0111bebc", func := "tipstaff/tipstafflaw14.ScalarConsts", spec := "scalarConsts", inPlace := ["math/bits.Add64"], apart := false }
def ScalarConstsSaid : Prop := scalarConstsRow.holds Try.pinned (OpenSpec.ofChange scalarConstsSpec)

/-- ITS FALSE NEIGHBOUR: 'it returns false'. Refute it at one input. -/
def scalarConstsWrong : ChangeSpec := { name := "scalarConsts", fn := fun _ => fun
  | [d1, d2, d3] => { results := [.lit (.bool false)], args := [d1, d2, d3] }
  | _ => none }
def ScalarConstsWrongFalsely : Prop := scalarConstsRow.holds Try.pinned (OpenSpec.ofChange scalarConstsWrong)

/-- 'tipstafflaw14.ScalarKnown': WHATEVER THE INPUT: true; the input reads as it did. -/
def scalarKnownSpec : ChangeSpec := { name := "scalarKnown", fn := fun _ => fun
  | [d1, d2, d3] => { results := [.lit (.bool true)], args := [d1, d2, d3] }
  | _ => none }
def scalarKnownRow : OpenClaim := { program := "ytmghpoagpiljhac", sum := "af23de1c42fa67b4932a29c5e22e86dec0ed5602c6c0bcdab9983cbd0111bebc", func := "tipstaff/tipstafflaw14.ScalarKnown", spec := "scalarKnown", inPlace := ["math/bits.Add64"], apart := false }
def ScalarKnownSaid : Prop := scalarKnownRow.holds Try.pinned (OpenSpec.ofChange scalarKnownSpec)

/-- ITS FALSE NEIGHBOUR: 'it returns false'. Refute it at one input. -/
def scalarKnownWrong : ChangeSpec := { name := "scalarKnown", fn := fun _ => fun
  | [d1, d2, d3] => { results := [.lit (.bool false)], args := [d1, d2, d3] }
  | _ => none }
def ScalarKnownWrongFalsely : Prop := scalarKnownRow.holds Try.pinned (OpenSpec.ofChange scalarKnownWrong)

/-- 'tipstafflaw14.ScalarRaw': WHATEVER THE INPUT: true; the input reads as it did. -/
def scalarRawSpec : ChangeSpec := { name := "scalarRaw", fn := fun _ => fun
  | [d1, d2, d3] => { results := [.lit (.bool true)], args := [d1, d2, d3] }
  | _ => none }
def scalarRawRow : OpenClaim := { program := "ytmghpoagpiljhac", sum := "af23de1c42fa67b4932a29c5e22e86dec0ed5602c6c0bcdab9983cbd0111bebc", func := "tipstaff/tipstafflaw14.ScalarRaw", spec := "scalarRaw", inPlace := ["math/bits.Add64"], apart := false }
def ScalarRawSaid : Prop := scalarRawRow.holds Try.pinned (OpenSpec.ofChange scalarRawSpec)

/-- ITS FALSE NEIGHBOUR: 'it returns false'. Refute it at one input. -/
def scalarRawWrong : ChangeSpec := { name := "scalarRaw", fn := fun _ => fun
  | [d1, d2, d3] => { results := [.lit (.bool false)], args := [d1, d2, d3] }
  | _ => none }
def ScalarRawWrongFalsely : Prop := scalarRawRow.holds Try.pinned (OpenSpec.ofChange scalarRawWrong)

/- THE SECOND FORM. 'bulk': how many values and letters a reading holds, each counted each time it is reached (what is shared counts as often as it is met; a slice's spare places count too). A statement '..UptoSaid' is the law's where the arguments, and the package variables that the reading takes, are together of bulk at most 1048576: NARROWER than '..Said'. Prove '..Said' where nothing that the law and all that it calls make is longer than what came in: it says more and counts as full. Else prove '..UptoSaid'. A law counts once. -/
mutual
def uptoBulk {H : Type} : DataW H → Nat
  | .lit (.string bytes) => bytes.length + 1
  | .lit _ => 1
  | .nil => 1
  | .ptr d => uptoBulk d + 1
  | .slice elems spare => uptoBulkAll elems + uptoBulkAll spare + 1
  | .agg parts => uptoBulkAll parts + 1
  | .iface _ d => uptoBulk d + 1
  | .map entries => uptoBulkEntries entries + 1
  | .held _ => 1
def uptoBulkAll {H : Type} : List (DataW H) → Nat
  | [] => 0
  | d :: r => uptoBulk d + uptoBulkAll r
def uptoBulkEntries {H : Type} : List (Lit × DataW H) → Nat
  | [] => 0
  | x :: r => uptoBulkEntry x + uptoBulkEntries r
def uptoBulkEntry {H : Type} : Lit × DataW H → Nat
  | (.string bytes, d) => bytes.length + uptoBulk d + 1
  | (_, d) => uptoBulk d + 1
 end
def uptoSmall : (H : Type) → List (DataW H) → Bool := fun _ ds => decide (uptoBulkAll ds ≤ 1048576)
def OpenSpec.upto (s : _root_.Go.ChangeSpec) : _root_.Go.OpenSpec := { _root_.Go.OpenSpec.ofChange s with cond := some uptoSmall }

/-- 'tipstafflaw14.ScalarDoes', WHERE WHAT IT READS IS OF BULK AT MOST 1048576: true; the input reads as it did. -/
def scalarDoesUptoRow : OpenClaim := { program := "ytmghpoagpiljhac", sum := "af23de1c42fa67b4932a29c5e22e86dec0ed5602c6c0bcdab9983cbd0111bebc", func := "tipstaff/tipstafflaw14.ScalarDoes", spec := "scalarDoes", inPlace := ["math/bits.Add64"], apart := false, narrowed := true }
def ScalarDoesUptoSaid : Prop := scalarDoesUptoRow.holds Try.pinned (OpenSpec.upto scalarDoesSpec)

/-- 'tipstafflaw14.ScalarConsts', WHERE WHAT IT READS IS OF BULK AT MOST 1048576: true; the input reads as it did. -/
def scalarConstsUptoRow : OpenClaim := { program := "ytmghpoagpiljhac", sum := "af23de1c42fa67b4932a29c5e22e86dec0ed5602c6c0bcdab9983cbd0111bebc", func := "tipstaff/tipstafflaw14.ScalarConsts", spec := "scalarConsts", inPlace := ["math/bits.Add64"], apart := false, narrowed := true }
def ScalarConstsUptoSaid : Prop := scalarConstsUptoRow.holds Try.pinned (OpenSpec.upto scalarConstsSpec)

/-- 'tipstafflaw14.ScalarKnown', WHERE WHAT IT READS IS OF BULK AT MOST 1048576: true; the input reads as it did. -/
def scalarKnownUptoRow : OpenClaim := { program := "ytmghpoagpiljhac", sum := "af23de1c42fa67b4932a29c5e22e86dec0ed5602c6c0bcdab9983cbd0111bebc", func := "tipstaff/tipstafflaw14.ScalarKnown", spec := "scalarKnown", inPlace := ["math/bits.Add64"], apart := false, narrowed := true }
def ScalarKnownUptoSaid : Prop := scalarKnownUptoRow.holds Try.pinned (OpenSpec.upto scalarKnownSpec)

/-- 'tipstafflaw14.ScalarRaw', WHERE WHAT IT READS IS OF BULK AT MOST 1048576: true; the input reads as it did. -/
def scalarRawUptoRow : OpenClaim := { program := "ytmghpoagpiljhac", sum := "af23de1c42fa67b4932a29c5e22e86dec0ed5602c6c0bcdab9983cbd0111bebc", func := "tipstaff/tipstafflaw14.ScalarRaw", spec := "scalarRaw", inPlace := ["math/bits.Add64"], apart := false, narrowed := true }
def ScalarRawUptoSaid : Prop := scalarRawUptoRow.holds Try.pinned (OpenSpec.upto scalarRawSpec)

end Rows
end Go.Proofs.Ytmghpoagpiljhac
