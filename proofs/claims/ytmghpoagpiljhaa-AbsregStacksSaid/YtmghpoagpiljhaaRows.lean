/-
  No cell of these rows narrows 'for every input' (looked for: loops, veiled, ifaces, maps, wideKeys, modest, calm, conditions, laid).
  DERIVED. THE GIVEN ROWS OF THIS SEAT. 10 by the template 'for every input the law returns true; each argument reads behind the call as it read before'; 0 by the template 'total and deterministic' (their statements: YtmghpoagpiljhaaTotals.lean).
  GIVEN WITH THE SEED: the statements are not yours to turn. If you find one false, say at which input.
  Laid BY PROGRAM, IN A SANDBOX (cutbox-rows.mjs): the forced cells as the released guide's own fill.sh prints them over the translation 1a17b68a2284c31c… (all of the seat's roots in one cut). By AI agents, Wed Nov 11 2026. No macro, syntax, notation, axiom, sorry.
-/
import Derived.Test.YtmghpoagpiljhaaChecked
import GoSem.Claim
import GoSem.ClaimJoined
import GoSem.ClaimMapViews
import Derived.JoinedTies
import Derived.KernelRfl
namespace Go.Proofs.Ytmghpoagpiljhaa
/- THE CELL 'sum', in the pinned program and in every row, IS THE sha256 OF THE DUMP (.gsa) THAT YtmghpoagpiljhaaProg.lean LOADS. Nothing in Lean hashes anything: it is a label: what it is worth is what the hold of that sum in a sandbox is worth. -/
noncomputable def Try.pinned : Pinned := { name := "ytmghpoagpiljhaa", sum := "1a17b68a2284c31c47270d526877fe9512e9cb4335db73ada25789b4a53d7b6f", checked := Try.checked }
namespace Rows
def none {H : Type} : Left H := { results := [], args := [] }

/-- 'tipstafflaw13.TnumShifts': WHATEVER THE INPUT: true; the input reads as it did. -/
def tnumShiftsSpec : ChangeSpec := { name := "tnumShifts", fn := fun _ => fun
  | [d1, d2, d3] => { results := [.lit (.bool true)], args := [d1, d2, d3] }
  | _ => none }
def tnumShiftsRow : OpenClaim := { program := "ytmghpoagpiljhaa", sum := "1a17b68a2284c31c47270d526877fe9512e9cb4335db73ada25789b4a53d7b6f", func := "tipstaff/tipstafflaw13.TnumShifts", spec := "tnumShifts", apart := false }
def TnumShiftsSaid : Prop := tnumShiftsRow.holds Try.pinned (OpenSpec.ofChange tnumShiftsSpec)

/-- ITS FALSE NEIGHBOUR: 'it returns false'. Refute it at one input. -/
def tnumShiftsWrong : ChangeSpec := { name := "tnumShifts", fn := fun _ => fun
  | [d1, d2, d3] => { results := [.lit (.bool false)], args := [d1, d2, d3] }
  | _ => none }
def TnumShiftsWrongFalsely : Prop := tnumShiftsRow.holds Try.pinned (OpenSpec.ofChange tnumShiftsWrong)

/-- 'tipstafflaw13.TnumMeets': WHATEVER THE INPUT: true; the input reads as it did. -/
def tnumMeetsSpec : ChangeSpec := { name := "tnumMeets", fn := fun _ => fun
  | [d1, d2, d3] => { results := [.lit (.bool true)], args := [d1, d2, d3] }
  | _ => none }
def tnumMeetsRow : OpenClaim := { program := "ytmghpoagpiljhaa", sum := "1a17b68a2284c31c47270d526877fe9512e9cb4335db73ada25789b4a53d7b6f", func := "tipstaff/tipstafflaw13.TnumMeets", spec := "tnumMeets", apart := false }
def TnumMeetsSaid : Prop := tnumMeetsRow.holds Try.pinned (OpenSpec.ofChange tnumMeetsSpec)

/-- ITS FALSE NEIGHBOUR: 'it returns false'. Refute it at one input. -/
def tnumMeetsWrong : ChangeSpec := { name := "tnumMeets", fn := fun _ => fun
  | [d1, d2, d3] => { results := [.lit (.bool false)], args := [d1, d2, d3] }
  | _ => none }
def TnumMeetsWrongFalsely : Prop := tnumMeetsRow.holds Try.pinned (OpenSpec.ofChange tnumMeetsWrong)

/-- 'tipstafflaw13.TnumMuls': WHATEVER THE INPUT: true; the input reads as it did. -/
def tnumMulsSpec : ChangeSpec := { name := "tnumMuls", fn := fun _ => fun
  | [d1, d2, d3] => { results := [.lit (.bool true)], args := [d1, d2, d3] }
  | _ => none }
def tnumMulsRow : OpenClaim := { program := "ytmghpoagpiljhaa", sum := "1a17b68a2284c31c47270d526877fe9512e9cb4335db73ada25789b4a53d7b6f", func := "tipstaff/tipstafflaw13.TnumMuls", spec := "tnumMuls", apart := false }
def TnumMulsSaid : Prop := tnumMulsRow.holds Try.pinned (OpenSpec.ofChange tnumMulsSpec)

/-- ITS FALSE NEIGHBOUR: 'it returns false'. Refute it at one input. -/
def tnumMulsWrong : ChangeSpec := { name := "tnumMuls", fn := fun _ => fun
  | [d1, d2, d3] => { results := [.lit (.bool false)], args := [d1, d2, d3] }
  | _ => none }
def TnumMulsWrongFalsely : Prop := tnumMulsRow.holds Try.pinned (OpenSpec.ofChange tnumMulsWrong)

/-- 'tipstafflaw13.TnumOrders': WHATEVER THE INPUT: true; the input reads as it did. -/
def tnumOrdersSpec : ChangeSpec := { name := "tnumOrders", fn := fun _ => fun
  | [d1, d2, d3] => { results := [.lit (.bool true)], args := [d1, d2, d3] }
  | _ => none }
def tnumOrdersRow : OpenClaim := { program := "ytmghpoagpiljhaa", sum := "1a17b68a2284c31c47270d526877fe9512e9cb4335db73ada25789b4a53d7b6f", func := "tipstaff/tipstafflaw13.TnumOrders", spec := "tnumOrders", apart := false }
def TnumOrdersSaid : Prop := tnumOrdersRow.holds Try.pinned (OpenSpec.ofChange tnumOrdersSpec)

/-- ITS FALSE NEIGHBOUR: 'it returns false'. Refute it at one input. -/
def tnumOrdersWrong : ChangeSpec := { name := "tnumOrders", fn := fun _ => fun
  | [d1, d2, d3] => { results := [.lit (.bool false)], args := [d1, d2, d3] }
  | _ => none }
def TnumOrdersWrongFalsely : Prop := tnumOrdersRow.holds Try.pinned (OpenSpec.ofChange tnumOrdersWrong)

/-- 'tipstafflaw13.TnumConsts': WHATEVER THE INPUT: true; the input reads as it did. -/
def tnumConstsSpec : ChangeSpec := { name := "tnumConsts", fn := fun _ => fun
  | [d1, d2] => { results := [.lit (.bool true)], args := [d1, d2] }
  | _ => none }
def tnumConstsRow : OpenClaim := { program := "ytmghpoagpiljhaa", sum := "1a17b68a2284c31c47270d526877fe9512e9cb4335db73ada25789b4a53d7b6f", func := "tipstaff/tipstafflaw13.TnumConsts", spec := "tnumConsts", apart := false }
def TnumConstsSaid : Prop := tnumConstsRow.holds Try.pinned (OpenSpec.ofChange tnumConstsSpec)

/-- ITS FALSE NEIGHBOUR: 'it returns false'. Refute it at one input. -/
def tnumConstsWrong : ChangeSpec := { name := "tnumConsts", fn := fun _ => fun
  | [d1, d2] => { results := [.lit (.bool false)], args := [d1, d2] }
  | _ => none }
def TnumConstsWrongFalsely : Prop := tnumConstsRow.holds Try.pinned (OpenSpec.ofChange tnumConstsWrong)

/-- 'tipstafflaw13.TnumSums': WHATEVER THE INPUT: true; the input reads as it did. -/
def tnumSumsSpec : ChangeSpec := { name := "tnumSums", fn := fun _ => fun
  | [d1, d2] => { results := [.lit (.bool true)], args := [d1, d2] }
  | _ => none }
def tnumSumsRow : OpenClaim := { program := "ytmghpoagpiljhaa", sum := "1a17b68a2284c31c47270d526877fe9512e9cb4335db73ada25789b4a53d7b6f", func := "tipstaff/tipstafflaw13.TnumSums", spec := "tnumSums", apart := false }
def TnumSumsSaid : Prop := tnumSumsRow.holds Try.pinned (OpenSpec.ofChange tnumSumsSpec)

/-- ITS FALSE NEIGHBOUR: 'it returns false'. Refute it at one input. -/
def tnumSumsWrong : ChangeSpec := { name := "tnumSums", fn := fun _ => fun
  | [d1, d2] => { results := [.lit (.bool false)], args := [d1, d2] }
  | _ => none }
def TnumSumsWrongFalsely : Prop := tnumSumsRow.holds Try.pinned (OpenSpec.ofChange tnumSumsWrong)

/-- 'tipstafflaw13.TnumHas': WHATEVER THE INPUT: true; the input reads as it did. -/
def tnumHasSpec : ChangeSpec := { name := "tnumHas", fn := fun _ => fun
  | [d1, d2, d3] => { results := [.lit (.bool true)], args := [d1, d2, d3] }
  | _ => none }
def tnumHasRow : OpenClaim := { program := "ytmghpoagpiljhaa", sum := "1a17b68a2284c31c47270d526877fe9512e9cb4335db73ada25789b4a53d7b6f", func := "tipstaff/tipstafflaw13.TnumHas", spec := "tnumHas", apart := false }
def TnumHasSaid : Prop := tnumHasRow.holds Try.pinned (OpenSpec.ofChange tnumHasSpec)

/-- ITS FALSE NEIGHBOUR: 'it returns false'. Refute it at one input. -/
def tnumHasWrong : ChangeSpec := { name := "tnumHas", fn := fun _ => fun
  | [d1, d2, d3] => { results := [.lit (.bool false)], args := [d1, d2, d3] }
  | _ => none }
def TnumHasWrongFalsely : Prop := tnumHasRow.holds Try.pinned (OpenSpec.ofChange tnumHasWrong)

/-- 'tipstafflaw13.TnumRight': WHATEVER THE INPUT: true; the input reads as it did. -/
def tnumRightSpec : ChangeSpec := { name := "tnumRight", fn := fun _ => fun
  | [d1, d2, d3] => { results := [.lit (.bool true)], args := [d1, d2, d3] }
  | _ => none }
def tnumRightRow : OpenClaim := { program := "ytmghpoagpiljhaa", sum := "1a17b68a2284c31c47270d526877fe9512e9cb4335db73ada25789b4a53d7b6f", func := "tipstaff/tipstafflaw13.TnumRight", spec := "tnumRight", apart := false }
def TnumRightSaid : Prop := tnumRightRow.holds Try.pinned (OpenSpec.ofChange tnumRightSpec)

/-- ITS FALSE NEIGHBOUR: 'it returns false'. Refute it at one input. -/
def tnumRightWrong : ChangeSpec := { name := "tnumRight", fn := fun _ => fun
  | [d1, d2, d3] => { results := [.lit (.bool false)], args := [d1, d2, d3] }
  | _ => none }
def TnumRightWrongFalsely : Prop := tnumRightRow.holds Try.pinned (OpenSpec.ofChange tnumRightWrong)

/-- 'tipstafflaw14.ScalarEvals': WHATEVER THE INPUT: true; the input reads as it did. -/
def scalarEvalsSpec : ChangeSpec := { name := "scalarEvals", fn := fun _ => fun
  | [d1, d2, d3] => { results := [.lit (.bool true)], args := [d1, d2, d3] }
  | _ => none }
def scalarEvalsRow : OpenClaim := { program := "ytmghpoagpiljhaa", sum := "1a17b68a2284c31c47270d526877fe9512e9cb4335db73ada25789b4a53d7b6f", func := "tipstaff/tipstafflaw14.ScalarEvals", spec := "scalarEvals", apart := false }
def ScalarEvalsSaid : Prop := scalarEvalsRow.holds Try.pinned (OpenSpec.ofChange scalarEvalsSpec)

/-- ITS FALSE NEIGHBOUR: 'it returns false'. Refute it at one input. -/
def scalarEvalsWrong : ChangeSpec := { name := "scalarEvals", fn := fun _ => fun
  | [d1, d2, d3] => { results := [.lit (.bool false)], args := [d1, d2, d3] }
  | _ => none }
def ScalarEvalsWrongFalsely : Prop := scalarEvalsRow.holds Try.pinned (OpenSpec.ofChange scalarEvalsWrong)

/-- 'tipstafflaw17.AbsregStacks': WHATEVER THE INPUT: true; the input reads as it did. -/
def absregStacksSpec : ChangeSpec := { name := "absregStacks", fn := fun _ => fun
  | [d] => { results := [.lit (.bool true)], args := [d] }
  | _ => none }
def absregStacksRow : OpenClaim := { program := "ytmghpoagpiljhaa", sum := "1a17b68a2284c31c47270d526877fe9512e9cb4335db73ada25789b4a53d7b6f", func := "tipstaff/tipstafflaw17.AbsregStacks", spec := "absregStacks", apart := false }
def AbsregStacksSaid : Prop := absregStacksRow.holds Try.pinned (OpenSpec.ofChange absregStacksSpec)

/-- ITS FALSE NEIGHBOUR: 'it returns false'. Refute it at one input. -/
def absregStacksWrong : ChangeSpec := { name := "absregStacks", fn := fun _ => fun
  | [d] => { results := [.lit (.bool false)], args := [d] }
  | _ => none }
def AbsregStacksWrongFalsely : Prop := absregStacksRow.holds Try.pinned (OpenSpec.ofChange absregStacksWrong)

/- THE SECOND FORM. 'bulk': how many values and letters a reading holds, each counted each time it is reached (what is shared counts as often as it is met; a slice's spare places count too). A statement '..UptoSaid' is the law's where the arguments, and the package variables that the reading takes, are together of bulk at most 1048576: NARROWER than '..Said'. Prove '..Said' where nothing that the law and all that it calls make is longer than what came in: it says more and counts as full. Else prove '..UptoSaid'. A law counts once. -/
mutual
def uptoBulk {H : Type} : DataW H → Nat
  | .lit (.string bytes) => bytes.length + 1
  | .lit _ => 1
  | .nil => 1
  | .ptr d => uptoBulk d + 1
  | .slice elems spare => uptoBulkAll elems + uptoBulkAll spare + 1
  | .agg parts => uptoBulkAll parts + 1
  | .iface _ d => uptoBulk d + 1
  | .map entries => uptoBulkEntries entries + 1
  | .held _ => 1
def uptoBulkAll {H : Type} : List (DataW H) → Nat
  | [] => 0
  | d :: r => uptoBulk d + uptoBulkAll r
def uptoBulkEntries {H : Type} : List (Lit × DataW H) → Nat
  | [] => 0
  | x :: r => uptoBulkEntry x + uptoBulkEntries r
def uptoBulkEntry {H : Type} : Lit × DataW H → Nat
  | (.string bytes, d) => bytes.length + uptoBulk d + 1
  | (_, d) => uptoBulk d + 1
 end
def uptoSmall : (H : Type) → List (DataW H) → Bool := fun _ ds => decide (uptoBulkAll ds ≤ 1048576)
def OpenSpec.upto (s : _root_.Go.ChangeSpec) : _root_.Go.OpenSpec := { _root_.Go.OpenSpec.ofChange s with cond := some uptoSmall }

/-- 'tipstafflaw13.TnumShifts', WHERE WHAT IT READS IS OF BULK AT MOST 1048576: true; the input reads as it did. -/
def tnumShiftsUptoRow : OpenClaim := { program := "ytmghpoagpiljhaa", sum := "1a17b68a2284c31c47270d526877fe9512e9cb4335db73ada25789b4a53d7b6f", func := "tipstaff/tipstafflaw13.TnumShifts", spec := "tnumShifts", apart := false, narrowed := true }
def TnumShiftsUptoSaid : Prop := tnumShiftsUptoRow.holds Try.pinned (OpenSpec.upto tnumShiftsSpec)

/-- 'tipstafflaw13.TnumMeets', WHERE WHAT IT READS IS OF BULK AT MOST 1048576: true; the input reads as it did. -/
def tnumMeetsUptoRow : OpenClaim := { program := "ytmghpoagpiljhaa", sum := "1a17b68a2284c31c47270d526877fe9512e9cb4335db73ada25789b4a53d7b6f", func := "tipstaff/tipstafflaw13.TnumMeets", spec := "tnumMeets", apart := false, narrowed := true }
def TnumMeetsUptoSaid : Prop := tnumMeetsUptoRow.holds Try.pinned (OpenSpec.upto tnumMeetsSpec)

/-- 'tipstafflaw13.TnumMuls', WHERE WHAT IT READS IS OF BULK AT MOST 1048576: true; the input reads as it did. -/
def tnumMulsUptoRow : OpenClaim := { program := "ytmghpoagpiljhaa", sum := "1a17b68a2284c31c47270d526877fe9512e9cb4335db73ada25789b4a53d7b6f", func := "tipstaff/tipstafflaw13.TnumMuls", spec := "tnumMuls", apart := false, narrowed := true }
def TnumMulsUptoSaid : Prop := tnumMulsUptoRow.holds Try.pinned (OpenSpec.upto tnumMulsSpec)

/-- 'tipstafflaw13.TnumOrders', WHERE WHAT IT READS IS OF BULK AT MOST 1048576: true; the input reads as it did. -/
def tnumOrdersUptoRow : OpenClaim := { program := "ytmghpoagpiljhaa", sum := "1a17b68a2284c31c47270d526877fe9512e9cb4335db73ada25789b4a53d7b6f", func := "tipstaff/tipstafflaw13.TnumOrders", spec := "tnumOrders", apart := false, narrowed := true }
def TnumOrdersUptoSaid : Prop := tnumOrdersUptoRow.holds Try.pinned (OpenSpec.upto tnumOrdersSpec)

/-- 'tipstafflaw13.TnumConsts', WHERE WHAT IT READS IS OF BULK AT MOST 1048576: true; the input reads as it did. -/
def tnumConstsUptoRow : OpenClaim := { program := "ytmghpoagpiljhaa", sum := "1a17b68a2284c31c47270d526877fe9512e9cb4335db73ada25789b4a53d7b6f", func := "tipstaff/tipstafflaw13.TnumConsts", spec := "tnumConsts", apart := false, narrowed := true }
def TnumConstsUptoSaid : Prop := tnumConstsUptoRow.holds Try.pinned (OpenSpec.upto tnumConstsSpec)

/-- 'tipstafflaw13.TnumSums', WHERE WHAT IT READS IS OF BULK AT MOST 1048576: true; the input reads as it did. -/
def tnumSumsUptoRow : OpenClaim := { program := "ytmghpoagpiljhaa", sum := "1a17b68a2284c31c47270d526877fe9512e9cb4335db73ada25789b4a53d7b6f", func := "tipstaff/tipstafflaw13.TnumSums", spec := "tnumSums", apart := false, narrowed := true }
def TnumSumsUptoSaid : Prop := tnumSumsUptoRow.holds Try.pinned (OpenSpec.upto tnumSumsSpec)

/-- 'tipstafflaw13.TnumHas', WHERE WHAT IT READS IS OF BULK AT MOST 1048576: true; the input reads as it did. -/
def tnumHasUptoRow : OpenClaim := { program := "ytmghpoagpiljhaa", sum := "1a17b68a2284c31c47270d526877fe9512e9cb4335db73ada25789b4a53d7b6f", func := "tipstaff/tipstafflaw13.TnumHas", spec := "tnumHas", apart := false, narrowed := true }
def TnumHasUptoSaid : Prop := tnumHasUptoRow.holds Try.pinned (OpenSpec.upto tnumHasSpec)

/-- 'tipstafflaw13.TnumRight', WHERE WHAT IT READS IS OF BULK AT MOST 1048576: true; the input reads as it did. -/
def tnumRightUptoRow : OpenClaim := { program := "ytmghpoagpiljhaa", sum := "1a17b68a2284c31c47270d526877fe9512e9cb4335db73ada25789b4a53d7b6f", func := "tipstaff/tipstafflaw13.TnumRight", spec := "tnumRight", apart := false, narrowed := true }
def TnumRightUptoSaid : Prop := tnumRightUptoRow.holds Try.pinned (OpenSpec.upto tnumRightSpec)

/-- 'tipstafflaw14.ScalarEvals', WHERE WHAT IT READS IS OF BULK AT MOST 1048576: true; the input reads as it did. -/
def scalarEvalsUptoRow : OpenClaim := { program := "ytmghpoagpiljhaa", sum := "1a17b68a2284c31c47270d526877fe9512e9cb4335db73ada25789b4a53d7b6f", func := "tipstaff/tipstafflaw14.ScalarEvals", spec := "scalarEvals", apart := false, narrowed := true }
def ScalarEvalsUptoSaid : Prop := scalarEvalsUptoRow.holds Try.pinned (OpenSpec.upto scalarEvalsSpec)

/-- 'tipstafflaw17.AbsregStacks', WHERE WHAT IT READS IS OF BULK AT MOST 1048576: true; the input reads as it did. -/
def absregStacksUptoRow : OpenClaim := { program := "ytmghpoagpiljhaa", sum := "1a17b68a2284c31c47270d526877fe9512e9cb4335db73ada25789b4a53d7b6f", func := "tipstaff/tipstafflaw17.AbsregStacks", spec := "absregStacks", apart := false, narrowed := true }
def AbsregStacksUptoSaid : Prop := absregStacksUptoRow.holds Try.pinned (OpenSpec.upto absregStacksSpec)

end Rows
end Go.Proofs.Ytmghpoagpiljhaa
