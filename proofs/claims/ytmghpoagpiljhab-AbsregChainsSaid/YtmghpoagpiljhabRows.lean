/-
  No cell of these rows narrows 'for every input' (looked for: loops, veiled, ifaces, maps, wideKeys, modest, calm, conditions, laid).
  DERIVED. THE GIVEN ROWS OF THIS SEAT. 12 by the template 'for every input the law returns true; each argument reads behind the call as it read before'; 0 by the template 'total and deterministic' (their statements: YtmghpoagpiljhabTotals.lean).
  GIVEN WITH THE SEED: the statements are not yours to turn. If you find one false, say at which input.
  Laid BY PROGRAM, IN A SANDBOX (cutbox-rows.mjs): the forced cells as the released guide's own fill.sh prints them over the translation 835c42deac8f10c8… (all of the seat's roots in one cut). By AI agents, Wed Nov 11 2026. No macro, syntax, notation, axiom, sorry.
-/
import Derived.Test.YtmghpoagpiljhabChecked
import GoSem.Claim
import GoSem.ClaimJoined
import GoSem.ClaimMapViews
import Derived.JoinedTies
import Derived.KernelRfl
namespace Go.Proofs.Ytmghpoagpiljhab
/- THE CELL 'sum', in the pinned program and in every row, IS THE sha256 OF THE DUMP (.gsa) THAT YtmghpoagpiljhabProg.lean LOADS. Nothing in Lean hashes anything: it is a label: what it is worth is what the hold of that sum in a sandbox is worth. -/
noncomputable def Try.pinned : Pinned := { name := "ytmghpoagpiljhab", sum := "835c42deac8f10c869e5ace1e1721f3775c3ec03e14956aff5ef2f1ac2bb1b8c", checked := Try.checked }
namespace Rows
def none {H : Type} : Left H := { results := [], args := [] }

/-- 'tipstafflaw17.AbsregWords': WHATEVER THE INPUT: true; the input reads as it did. -/
def absregWordsSpec : ChangeSpec := { name := "absregWords", fn := fun _ => fun
  | [d1, d2, d3] => { results := [.lit (.bool true)], args := [d1, d2, d3] }
  | _ => none }
def absregWordsRow : OpenClaim := { program := "ytmghpoagpiljhab", sum := "835c42deac8f10c869e5ace1e1721f3775c3ec03e14956aff5ef2f1ac2bb1b8c", func := "tipstaff/tipstafflaw17.AbsregWords", spec := "absregWords", apart := false }
def AbsregWordsSaid : Prop := absregWordsRow.holds Try.pinned (OpenSpec.ofChange absregWordsSpec)

/-- ITS FALSE NEIGHBOUR: 'it returns false'. Refute it at one input. -/
def absregWordsWrong : ChangeSpec := { name := "absregWords", fn := fun _ => fun
  | [d1, d2, d3] => { results := [.lit (.bool false)], args := [d1, d2, d3] }
  | _ => none }
def AbsregWordsWrongFalsely : Prop := absregWordsRow.holds Try.pinned (OpenSpec.ofChange absregWordsWrong)

/-- 'tipstafflaw17.AbsregReady': WHATEVER THE INPUT: true; the input reads as it did. -/
def absregReadySpec : ChangeSpec := { name := "absregReady", fn := fun _ => fun
  | [d1, d2, d3] => { results := [.lit (.bool true)], args := [d1, d2, d3] }
  | _ => none }
def absregReadyRow : OpenClaim := { program := "ytmghpoagpiljhab", sum := "835c42deac8f10c869e5ace1e1721f3775c3ec03e14956aff5ef2f1ac2bb1b8c", func := "tipstaff/tipstafflaw17.AbsregReady", spec := "absregReady", apart := false }
def AbsregReadySaid : Prop := absregReadyRow.holds Try.pinned (OpenSpec.ofChange absregReadySpec)

/-- ITS FALSE NEIGHBOUR: 'it returns false'. Refute it at one input. -/
def absregReadyWrong : ChangeSpec := { name := "absregReady", fn := fun _ => fun
  | [d1, d2, d3] => { results := [.lit (.bool false)], args := [d1, d2, d3] }
  | _ => none }
def AbsregReadyWrongFalsely : Prop := absregReadyRow.holds Try.pinned (OpenSpec.ofChange absregReadyWrong)

/-- 'tipstafflaw14.ScalarJoins': WHATEVER THE INPUT: true; the input reads as it did. -/
def scalarJoinsSpec : ChangeSpec := { name := "scalarJoins", fn := fun _ => fun
  | [d1, d2] => { results := [.lit (.bool true)], args := [d1, d2] }
  | _ => none }
def scalarJoinsRow : OpenClaim := { program := "ytmghpoagpiljhab", sum := "835c42deac8f10c869e5ace1e1721f3775c3ec03e14956aff5ef2f1ac2bb1b8c", func := "tipstaff/tipstafflaw14.ScalarJoins", spec := "scalarJoins", apart := false }
def ScalarJoinsSaid : Prop := scalarJoinsRow.holds Try.pinned (OpenSpec.ofChange scalarJoinsSpec)

/-- ITS FALSE NEIGHBOUR: 'it returns false'. Refute it at one input. -/
def scalarJoinsWrong : ChangeSpec := { name := "scalarJoins", fn := fun _ => fun
  | [d1, d2] => { results := [.lit (.bool false)], args := [d1, d2] }
  | _ => none }
def ScalarJoinsWrongFalsely : Prop := scalarJoinsRow.holds Try.pinned (OpenSpec.ofChange scalarJoinsWrong)

/-- 'tipstafflaw17.AbsregChains': WHATEVER THE INPUT: true; the input reads as it did. -/
def absregChainsSpec : ChangeSpec := { name := "absregChains", fn := fun _ => fun
  | [d1, d2] => { results := [.lit (.bool true)], args := [d1, d2] }
  | _ => none }
def absregChainsRow : OpenClaim := { program := "ytmghpoagpiljhab", sum := "835c42deac8f10c869e5ace1e1721f3775c3ec03e14956aff5ef2f1ac2bb1b8c", func := "tipstaff/tipstafflaw17.AbsregChains", spec := "absregChains", apart := false }
def AbsregChainsSaid : Prop := absregChainsRow.holds Try.pinned (OpenSpec.ofChange absregChainsSpec)

/-- ITS FALSE NEIGHBOUR: 'it returns false'. Refute it at one input. -/
def absregChainsWrong : ChangeSpec := { name := "absregChains", fn := fun _ => fun
  | [d1, d2] => { results := [.lit (.bool false)], args := [d1, d2] }
  | _ => none }
def AbsregChainsWrongFalsely : Prop := absregChainsRow.holds Try.pinned (OpenSpec.ofChange absregChainsWrong)

/-- 'tipstafflaw17.AbsregMaybes': WHATEVER THE INPUT: true; the input reads as it did. -/
def absregMaybesSpec : ChangeSpec := { name := "absregMaybes", fn := fun _ => fun
  | [d1, d2, d3] => { results := [.lit (.bool true)], args := [d1, d2, d3] }
  | _ => none }
def absregMaybesRow : OpenClaim := { program := "ytmghpoagpiljhab", sum := "835c42deac8f10c869e5ace1e1721f3775c3ec03e14956aff5ef2f1ac2bb1b8c", func := "tipstaff/tipstafflaw17.AbsregMaybes", spec := "absregMaybes", apart := false }
def AbsregMaybesSaid : Prop := absregMaybesRow.holds Try.pinned (OpenSpec.ofChange absregMaybesSpec)

/-- ITS FALSE NEIGHBOUR: 'it returns false'. Refute it at one input. -/
def absregMaybesWrong : ChangeSpec := { name := "absregMaybes", fn := fun _ => fun
  | [d1, d2, d3] => { results := [.lit (.bool false)], args := [d1, d2, d3] }
  | _ => none }
def AbsregMaybesWrongFalsely : Prop := absregMaybesRow.holds Try.pinned (OpenSpec.ofChange absregMaybesWrong)

/-- 'tipstafflaw15.BranchHolds': WHATEVER THE INPUT: true; the input reads as it did. -/
def branchHoldsSpec : ChangeSpec := { name := "branchHolds", fn := fun _ => fun
  | [d1, d2, d3] => { results := [.lit (.bool true)], args := [d1, d2, d3] }
  | _ => none }
def branchHoldsRow : OpenClaim := { program := "ytmghpoagpiljhab", sum := "835c42deac8f10c869e5ace1e1721f3775c3ec03e14956aff5ef2f1ac2bb1b8c", func := "tipstaff/tipstafflaw15.BranchHolds", spec := "branchHolds", unfollowed := true, recurses := true, apart := false }
def BranchHoldsSaid : Prop := branchHoldsRow.holds Try.pinned (OpenSpec.ofChange branchHoldsSpec)

/-- ITS FALSE NEIGHBOUR: 'it returns false'. Refute it at one input. -/
def branchHoldsWrong : ChangeSpec := { name := "branchHolds", fn := fun _ => fun
  | [d1, d2, d3] => { results := [.lit (.bool false)], args := [d1, d2, d3] }
  | _ => none }
def BranchHoldsWrongFalsely : Prop := branchHoldsRow.holds Try.pinned (OpenSpec.ofChange branchHoldsWrong)

/-- 'tipstafflaw15.BranchAlone': WHATEVER THE INPUT: true; the input reads as it did. -/
def branchAloneSpec : ChangeSpec := { name := "branchAlone", fn := fun _ => fun
  | [d1, d2, d3] => { results := [.lit (.bool true)], args := [d1, d2, d3] }
  | _ => none }
def branchAloneRow : OpenClaim := { program := "ytmghpoagpiljhab", sum := "835c42deac8f10c869e5ace1e1721f3775c3ec03e14956aff5ef2f1ac2bb1b8c", func := "tipstaff/tipstafflaw15.BranchAlone", spec := "branchAlone", unfollowed := true, recurses := true, apart := false }
def BranchAloneSaid : Prop := branchAloneRow.holds Try.pinned (OpenSpec.ofChange branchAloneSpec)

/-- ITS FALSE NEIGHBOUR: 'it returns false'. Refute it at one input. -/
def branchAloneWrong : ChangeSpec := { name := "branchAlone", fn := fun _ => fun
  | [d1, d2, d3] => { results := [.lit (.bool false)], args := [d1, d2, d3] }
  | _ => none }
def BranchAloneWrongFalsely : Prop := branchAloneRow.holds Try.pinned (OpenSpec.ofChange branchAloneWrong)

/-- 'tipstafflaw15.BranchOpposite': WHATEVER THE INPUT: true; the input reads as it did. -/
def branchOppositeSpec : ChangeSpec := { name := "branchOpposite", fn := fun _ => fun
  | [d1, d2] => { results := [.lit (.bool true)], args := [d1, d2] }
  | _ => none }
def branchOppositeRow : OpenClaim := { program := "ytmghpoagpiljhab", sum := "835c42deac8f10c869e5ace1e1721f3775c3ec03e14956aff5ef2f1ac2bb1b8c", func := "tipstaff/tipstafflaw15.BranchOpposite", spec := "branchOpposite", unfollowed := true, recurses := true, apart := false }
def BranchOppositeSaid : Prop := branchOppositeRow.holds Try.pinned (OpenSpec.ofChange branchOppositeSpec)

/-- ITS FALSE NEIGHBOUR: 'it returns false'. Refute it at one input. -/
def branchOppositeWrong : ChangeSpec := { name := "branchOpposite", fn := fun _ => fun
  | [d1, d2] => { results := [.lit (.bool false)], args := [d1, d2] }
  | _ => none }
def BranchOppositeWrongFalsely : Prop := branchOppositeRow.holds Try.pinned (OpenSpec.ofChange branchOppositeWrong)

/-- 'tipstafflaw15.BranchRaw': WHATEVER THE INPUT: true; the input reads as it did. -/
def branchRawSpec : ChangeSpec := { name := "branchRaw", fn := fun _ => fun
  | [d1, d2, d3] => { results := [.lit (.bool true)], args := [d1, d2, d3] }
  | _ => none }
def branchRawRow : OpenClaim := { program := "ytmghpoagpiljhab", sum := "835c42deac8f10c869e5ace1e1721f3775c3ec03e14956aff5ef2f1ac2bb1b8c", func := "tipstaff/tipstafflaw15.BranchRaw", spec := "branchRaw", unfollowed := true, recurses := true, apart := false }
def BranchRawSaid : Prop := branchRawRow.holds Try.pinned (OpenSpec.ofChange branchRawSpec)

/-- ITS FALSE NEIGHBOUR: 'it returns false'. Refute it at one input. -/
def branchRawWrong : ChangeSpec := { name := "branchRaw", fn := fun _ => fun
  | [d1, d2, d3] => { results := [.lit (.bool false)], args := [d1, d2, d3] }
  | _ => none }
def BranchRawWrongFalsely : Prop := branchRawRow.holds Try.pinned (OpenSpec.ofChange branchRawWrong)

/-- 'tipstafflaw15.BranchRefines': WHATEVER THE INPUT: true; the input reads as it did. -/
def branchRefinesSpec : ChangeSpec := { name := "branchRefines", fn := fun _ => fun
  | [d] => { results := [.lit (.bool true)], args := [d] }
  | _ => none }
def branchRefinesRow : OpenClaim := { program := "ytmghpoagpiljhab", sum := "835c42deac8f10c869e5ace1e1721f3775c3ec03e14956aff5ef2f1ac2bb1b8c", func := "tipstaff/tipstafflaw15.BranchRefines", spec := "branchRefines", unfollowed := true, recurses := true, apart := false }
def BranchRefinesSaid : Prop := branchRefinesRow.holds Try.pinned (OpenSpec.ofChange branchRefinesSpec)

/-- ITS FALSE NEIGHBOUR: 'it returns false'. Refute it at one input. -/
def branchRefinesWrong : ChangeSpec := { name := "branchRefines", fn := fun _ => fun
  | [d] => { results := [.lit (.bool false)], args := [d] }
  | _ => none }
def BranchRefinesWrongFalsely : Prop := branchRefinesRow.holds Try.pinned (OpenSpec.ofChange branchRefinesWrong)

/-- 'tipstafflaw15.BranchBytes': WHATEVER THE INPUT: true; the input reads as it did. -/
def branchBytesSpec : ChangeSpec := { name := "branchBytes", fn := fun _ => fun
  | [d1, d2, d3] => { results := [.lit (.bool true)], args := [d1, d2, d3] }
  | _ => none }
def branchBytesRow : OpenClaim := { program := "ytmghpoagpiljhab", sum := "835c42deac8f10c869e5ace1e1721f3775c3ec03e14956aff5ef2f1ac2bb1b8c", func := "tipstaff/tipstafflaw15.BranchBytes", spec := "branchBytes", unfollowed := true, recurses := true, apart := false }
def BranchBytesSaid : Prop := branchBytesRow.holds Try.pinned (OpenSpec.ofChange branchBytesSpec)

/-- ITS FALSE NEIGHBOUR: 'it returns false'. Refute it at one input. -/
def branchBytesWrong : ChangeSpec := { name := "branchBytes", fn := fun _ => fun
  | [d1, d2, d3] => { results := [.lit (.bool false)], args := [d1, d2, d3] }
  | _ => none }
def BranchBytesWrongFalsely : Prop := branchBytesRow.holds Try.pinned (OpenSpec.ofChange branchBytesWrong)

/-- 'tipstafflaw15.BranchBits': WHATEVER THE INPUT: true; the input reads as it did. -/
def branchBitsSpec : ChangeSpec := { name := "branchBits", fn := fun _ => fun
  | [d1, d2] => { results := [.lit (.bool true)], args := [d1, d2] }
  | _ => none }
def branchBitsRow : OpenClaim := { program := "ytmghpoagpiljhab", sum := "835c42deac8f10c869e5ace1e1721f3775c3ec03e14956aff5ef2f1ac2bb1b8c", func := "tipstaff/tipstafflaw15.BranchBits", spec := "branchBits", unfollowed := true, recurses := true, apart := false }
def BranchBitsSaid : Prop := branchBitsRow.holds Try.pinned (OpenSpec.ofChange branchBitsSpec)

/-- ITS FALSE NEIGHBOUR: 'it returns false'. Refute it at one input. -/
def branchBitsWrong : ChangeSpec := { name := "branchBits", fn := fun _ => fun
  | [d1, d2] => { results := [.lit (.bool false)], args := [d1, d2] }
  | _ => none }
def BranchBitsWrongFalsely : Prop := branchBitsRow.holds Try.pinned (OpenSpec.ofChange branchBitsWrong)

/- THE SECOND FORM. 'bulk': how many values and letters a reading holds, each counted each time it is reached (what is shared counts as often as it is met; a slice's spare places count too). A statement '..UptoSaid' is the law's where the arguments, and the package variables that the reading takes, are together of bulk at most 1048576: NARROWER than '..Said'. Prove '..Said' where nothing that the law and all that it calls make is longer than what came in: it says more and counts as full. Else prove '..UptoSaid'. A law counts once. -/
mutual
def uptoBulk {H : Type} : DataW H → Nat
  | .lit (.string bytes) => bytes.length + 1
  | .lit _ => 1
  | .nil => 1
  | .ptr d => uptoBulk d + 1
  | .slice elems spare => uptoBulkAll elems + uptoBulkAll spare + 1
  | .agg parts => uptoBulkAll parts + 1
  | .iface _ d => uptoBulk d + 1
  | .map entries => uptoBulkEntries entries + 1
  | .held _ => 1
def uptoBulkAll {H : Type} : List (DataW H) → Nat
  | [] => 0
  | d :: r => uptoBulk d + uptoBulkAll r
def uptoBulkEntries {H : Type} : List (Lit × DataW H) → Nat
  | [] => 0
  | x :: r => uptoBulkEntry x + uptoBulkEntries r
def uptoBulkEntry {H : Type} : Lit × DataW H → Nat
  | (.string bytes, d) => bytes.length + uptoBulk d + 1
  | (_, d) => uptoBulk d + 1
 end
def uptoSmall : (H : Type) → List (DataW H) → Bool := fun _ ds => decide (uptoBulkAll ds ≤ 1048576)
def OpenSpec.upto (s : _root_.Go.ChangeSpec) : _root_.Go.OpenSpec := { _root_.Go.OpenSpec.ofChange s with cond := some uptoSmall }

/-- 'tipstafflaw17.AbsregWords', WHERE WHAT IT READS IS OF BULK AT MOST 1048576: true; the input reads as it did. -/
def absregWordsUptoRow : OpenClaim := { program := "ytmghpoagpiljhab", sum := "835c42deac8f10c869e5ace1e1721f3775c3ec03e14956aff5ef2f1ac2bb1b8c", func := "tipstaff/tipstafflaw17.AbsregWords", spec := "absregWords", apart := false, narrowed := true }
def AbsregWordsUptoSaid : Prop := absregWordsUptoRow.holds Try.pinned (OpenSpec.upto absregWordsSpec)

/-- 'tipstafflaw17.AbsregReady', WHERE WHAT IT READS IS OF BULK AT MOST 1048576: true; the input reads as it did. -/
def absregReadyUptoRow : OpenClaim := { program := "ytmghpoagpiljhab", sum := "835c42deac8f10c869e5ace1e1721f3775c3ec03e14956aff5ef2f1ac2bb1b8c", func := "tipstaff/tipstafflaw17.AbsregReady", spec := "absregReady", apart := false, narrowed := true }
def AbsregReadyUptoSaid : Prop := absregReadyUptoRow.holds Try.pinned (OpenSpec.upto absregReadySpec)

/-- 'tipstafflaw14.ScalarJoins', WHERE WHAT IT READS IS OF BULK AT MOST 1048576: true; the input reads as it did. -/
def scalarJoinsUptoRow : OpenClaim := { program := "ytmghpoagpiljhab", sum := "835c42deac8f10c869e5ace1e1721f3775c3ec03e14956aff5ef2f1ac2bb1b8c", func := "tipstaff/tipstafflaw14.ScalarJoins", spec := "scalarJoins", apart := false, narrowed := true }
def ScalarJoinsUptoSaid : Prop := scalarJoinsUptoRow.holds Try.pinned (OpenSpec.upto scalarJoinsSpec)

/-- 'tipstafflaw17.AbsregChains', WHERE WHAT IT READS IS OF BULK AT MOST 1048576: true; the input reads as it did. -/
def absregChainsUptoRow : OpenClaim := { program := "ytmghpoagpiljhab", sum := "835c42deac8f10c869e5ace1e1721f3775c3ec03e14956aff5ef2f1ac2bb1b8c", func := "tipstaff/tipstafflaw17.AbsregChains", spec := "absregChains", apart := false, narrowed := true }
def AbsregChainsUptoSaid : Prop := absregChainsUptoRow.holds Try.pinned (OpenSpec.upto absregChainsSpec)

/-- 'tipstafflaw17.AbsregMaybes', WHERE WHAT IT READS IS OF BULK AT MOST 1048576: true; the input reads as it did. -/
def absregMaybesUptoRow : OpenClaim := { program := "ytmghpoagpiljhab", sum := "835c42deac8f10c869e5ace1e1721f3775c3ec03e14956aff5ef2f1ac2bb1b8c", func := "tipstaff/tipstafflaw17.AbsregMaybes", spec := "absregMaybes", apart := false, narrowed := true }
def AbsregMaybesUptoSaid : Prop := absregMaybesUptoRow.holds Try.pinned (OpenSpec.upto absregMaybesSpec)

/-- 'tipstafflaw15.BranchHolds', WHERE WHAT IT READS IS OF BULK AT MOST 1048576: true; the input reads as it did. -/
def branchHoldsUptoRow : OpenClaim := { program := "ytmghpoagpiljhab", sum := "835c42deac8f10c869e5ace1e1721f3775c3ec03e14956aff5ef2f1ac2bb1b8c", func := "tipstaff/tipstafflaw15.BranchHolds", spec := "branchHolds", unfollowed := true, recurses := true, apart := false, narrowed := true }
def BranchHoldsUptoSaid : Prop := branchHoldsUptoRow.holds Try.pinned (OpenSpec.upto branchHoldsSpec)

/-- 'tipstafflaw15.BranchAlone', WHERE WHAT IT READS IS OF BULK AT MOST 1048576: true; the input reads as it did. -/
def branchAloneUptoRow : OpenClaim := { program := "ytmghpoagpiljhab", sum := "835c42deac8f10c869e5ace1e1721f3775c3ec03e14956aff5ef2f1ac2bb1b8c", func := "tipstaff/tipstafflaw15.BranchAlone", spec := "branchAlone", unfollowed := true, recurses := true, apart := false, narrowed := true }
def BranchAloneUptoSaid : Prop := branchAloneUptoRow.holds Try.pinned (OpenSpec.upto branchAloneSpec)

/-- 'tipstafflaw15.BranchOpposite', WHERE WHAT IT READS IS OF BULK AT MOST 1048576: true; the input reads as it did. -/
def branchOppositeUptoRow : OpenClaim := { program := "ytmghpoagpiljhab", sum := "835c42deac8f10c869e5ace1e1721f3775c3ec03e14956aff5ef2f1ac2bb1b8c", func := "tipstaff/tipstafflaw15.BranchOpposite", spec := "branchOpposite", unfollowed := true, recurses := true, apart := false, narrowed := true }
def BranchOppositeUptoSaid : Prop := branchOppositeUptoRow.holds Try.pinned (OpenSpec.upto branchOppositeSpec)

/-- 'tipstafflaw15.BranchRaw', WHERE WHAT IT READS IS OF BULK AT MOST 1048576: true; the input reads as it did. -/
def branchRawUptoRow : OpenClaim := { program := "ytmghpoagpiljhab", sum := "835c42deac8f10c869e5ace1e1721f3775c3ec03e14956aff5ef2f1ac2bb1b8c", func := "tipstaff/tipstafflaw15.BranchRaw", spec := "branchRaw", unfollowed := true, recurses := true, apart := false, narrowed := true }
def BranchRawUptoSaid : Prop := branchRawUptoRow.holds Try.pinned (OpenSpec.upto branchRawSpec)

/-- 'tipstafflaw15.BranchRefines', WHERE WHAT IT READS IS OF BULK AT MOST 1048576: true; the input reads as it did. -/
def branchRefinesUptoRow : OpenClaim := { program := "ytmghpoagpiljhab", sum := "835c42deac8f10c869e5ace1e1721f3775c3ec03e14956aff5ef2f1ac2bb1b8c", func := "tipstaff/tipstafflaw15.BranchRefines", spec := "branchRefines", unfollowed := true, recurses := true, apart := false, narrowed := true }
def BranchRefinesUptoSaid : Prop := branchRefinesUptoRow.holds Try.pinned (OpenSpec.upto branchRefinesSpec)

/-- 'tipstafflaw15.BranchBytes', WHERE WHAT IT READS IS OF BULK AT MOST 1048576: true; the input reads as it did. -/
def branchBytesUptoRow : OpenClaim := { program := "ytmghpoagpiljhab", sum := "835c42deac8f10c869e5ace1e1721f3775c3ec03e14956aff5ef2f1ac2bb1b8c", func := "tipstaff/tipstafflaw15.BranchBytes", spec := "branchBytes", unfollowed := true, recurses := true, apart := false, narrowed := true }
def BranchBytesUptoSaid : Prop := branchBytesUptoRow.holds Try.pinned (OpenSpec.upto branchBytesSpec)

/-- 'tipstafflaw15.BranchBits', WHERE WHAT IT READS IS OF BULK AT MOST 1048576: true; the input reads as it did. -/
def branchBitsUptoRow : OpenClaim := { program := "ytmghpoagpiljhab", sum := "835c42deac8f10c869e5ace1e1721f3775c3ec03e14956aff5ef2f1ac2bb1b8c", func := "tipstaff/tipstafflaw15.BranchBits", spec := "branchBits", unfollowed := true, recurses := true, apart := false, narrowed := true }
def BranchBitsUptoSaid : Prop := branchBitsUptoRow.holds Try.pinned (OpenSpec.upto branchBitsSpec)

end Rows
end Go.Proofs.Ytmghpoagpiljhab
