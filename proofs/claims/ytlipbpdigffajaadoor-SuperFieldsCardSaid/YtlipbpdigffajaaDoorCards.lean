/-
  DERIVED. GIVEN WITH THE SEED: THE CARDS: each row of YtlipbpdigffajaaDoorRows.lean that lists a variable, with what it lists TIED to the program's text (the seventh form; the later family's looks); each row that meets fmt, with fmt's text TOLD by the authors' own Lean function (tested against real Go, not proved from fmt's source: count such statements apart). THE CARD IS WHAT COUNTS. Prove the row's statement (the work); the ties are given (YtlipbpdigffajaaDoorTie.lean); close each card by the builder's one call (the guide's Derived/Test/ToyasCard.lean, 'card_holds'). Laid BY PROGRAM, IN A SANDBOX (cutbox-door.mjs). By AI agents, Wed Nov 11 2026. No macro, syntax, notation, axiom, sorry.
-/
import Derived.Test.YtlipbpdigffajaaDoorRows
import GoSem.ClaimSeven
namespace Go.Proofs.YtlipbpdigffajaaDoor
namespace Rows

/-- THE TIED CARD OF 'umbellaw23.SuperFields'. -/
def superFieldsCard : Claim7 := { stood := { row := superFieldsRow, standIns := [], harness := (true, "24f27e292ff062da119a0195e67874ee44d6d1ef619be7d02e0b6bc7517cc326"), looks := false }, kinds := [], alts := [], laidByText := true, laidKinds := [.data], laidTests := true, laidLooks := .later }
def SuperFieldsCardSaid : Prop := Claim7.holds Tryd.pinned (.plain (OpenSpec.ofChange superFieldsSpec)) superFieldsCard

/-- THE SECOND FORM's CARD OF 'umbellaw23.SuperFields'. -/
def superFieldsUptoCard : Claim7 := { stood := { row := superFieldsUptoRow, standIns := [], harness := (true, "24f27e292ff062da119a0195e67874ee44d6d1ef619be7d02e0b6bc7517cc326"), looks := false }, kinds := [], alts := [], laidByText := true, laidKinds := [.data], laidTests := true, laidLooks := .later }
def SuperFieldsUptoCardSaid : Prop := Claim7.holds Tryd.pinned (.plain (OpenSpec.upto superFieldsSpec)) superFieldsUptoCard
end Rows
end Go.Proofs.YtlipbpdigffajaaDoor
