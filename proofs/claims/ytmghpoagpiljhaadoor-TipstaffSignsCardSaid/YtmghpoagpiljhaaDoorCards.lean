/-
  DERIVED. GIVEN WITH THE SEED: THE CARDS: each row of YtmghpoagpiljhaaDoorRows.lean that lists a variable, with what it lists TIED to the program's text (the seventh form; the later family's looks); each row that meets fmt, with fmt's text TOLD by the authors' own Lean function (tested against real Go, not proved from fmt's source: count such statements apart). THE CARD IS WHAT COUNTS. Prove the row's statement (the work); the ties are given (YtmghpoagpiljhaaDoorTie.lean); close each card by the builder's one call (the guide's Derived/Test/ToyasCard.lean, 'card_holds'). Laid BY PROGRAM, IN A SANDBOX (cutbox-door.mjs). By AI agents, Wed Nov 11 2026. No macro, syntax, notation, axiom, sorry.
-/
import Derived.Test.YtmghpoagpiljhaaDoorRows
import GoSem.ClaimSeven
namespace Go.Proofs.YtmghpoagpiljhaaDoor
namespace Rows

/-- THE TIED CARD OF 'tipstafftop.TipstaffSigns'. -/
def tipstaffSignsCard : Claim7 := { stood := { row := tipstaffSignsRow, standIns := [], harness := (true, "2e55d95db510d784a4b8fa54a620be12d35a78ef21ba5e2f585863b291c7b355"), looks := false }, kinds := [], alts := [], laidByText := true, laidKinds := [.data, .data], laidTests := true, laidLooks := .later }
def TipstaffSignsCardSaid : Prop := Claim7.holds Tryd.pinned (.plain (OpenSpec.ofChange tipstaffSignsSpec)) tipstaffSignsCard

/-- THE TIED CARD OF 'tipstafftop.TipstaffNumbers'. -/
def tipstaffNumbersCard : Claim7 := { stood := { row := tipstaffNumbersRow, standIns := [], harness := (true, "2e55d95db510d784a4b8fa54a620be12d35a78ef21ba5e2f585863b291c7b355"), looks := false }, kinds := [], alts := [], laidByText := true, laidKinds := [.data, .data], laidTests := true, laidLooks := .later }
def TipstaffNumbersCardSaid : Prop := Claim7.holds Tryd.pinned (.plain (OpenSpec.ofChange tipstaffNumbersSpec)) tipstaffNumbersCard

/-- THE SECOND FORM's CARD OF 'tipstafftop.TipstaffSigns'. -/
def tipstaffSignsUptoCard : Claim7 := { stood := { row := tipstaffSignsUptoRow, standIns := [], harness := (true, "2e55d95db510d784a4b8fa54a620be12d35a78ef21ba5e2f585863b291c7b355"), looks := false }, kinds := [], alts := [], laidByText := true, laidKinds := [.data, .data], laidTests := true, laidLooks := .later }
def TipstaffSignsUptoCardSaid : Prop := Claim7.holds Tryd.pinned (.plain (OpenSpec.upto tipstaffSignsSpec)) tipstaffSignsUptoCard

/-- THE SECOND FORM's CARD OF 'tipstafftop.TipstaffNumbers'. -/
def tipstaffNumbersUptoCard : Claim7 := { stood := { row := tipstaffNumbersUptoRow, standIns := [], harness := (true, "2e55d95db510d784a4b8fa54a620be12d35a78ef21ba5e2f585863b291c7b355"), looks := false }, kinds := [], alts := [], laidByText := true, laidKinds := [.data, .data], laidTests := true, laidLooks := .later }
def TipstaffNumbersUptoCardSaid : Prop := Claim7.holds Tryd.pinned (.plain (OpenSpec.upto tipstaffNumbersSpec)) tipstaffNumbersUptoCard
end Rows
end Go.Proofs.YtmghpoagpiljhaaDoor
