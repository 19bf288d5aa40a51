/-
  DERIVED. GIVEN WITH THE SEED: THE CARDS: each row of YtpffaenjphnfiaaDoorRows.lean that lists a variable, with what it lists TIED to the program's text (the seventh form; the later family's looks); each row that meets fmt, with fmt's text TOLD by the authors' own Lean function (tested against real Go, not proved from fmt's source: count such statements apart). THE CARD IS WHAT COUNTS. Prove the row's statement (the work); the ties are given (YtpffaenjphnfiaaDoorTie.lean); close each card by the builder's one call (the guide's Derived/Test/ToyasCard.lean, 'card_holds'). Laid BY PROGRAM, IN A SANDBOX (cutbox-door.mjs). By AI agents, Wed Nov 11 2026. No macro, syntax, notation, axiom, sorry.
-/
import Derived.Test.YtpffaenjphnfiaaDoorRows
import GoSem.ClaimSeven
namespace Go.Proofs.YtpffaenjphnfiaaDoor
namespace Rows

/-- THE TIED CARD OF 'clevislaw09.NoteOnce'. -/
def noteOnceCard : Claim7 := { stood := { row := noteOnceRow, standIns := [], harness := (true, "2259f8e6af4b90cb8cd9c91b5fbdf0d719c5f5133959b2cf905fa21f5b5082f6"), looks := false }, kinds := [], alts := [], laidByText := true, laidKinds := [.listed, .data], laidTests := true, laidLooks := .later }
def NoteOnceCardSaid : Prop := Claim7.holds Tryd.pinned (.plain (OpenSpec.ofChange noteOnceSpec)) noteOnceCard

/-- THE SECOND FORM's CARD OF 'clevislaw09.NoteOnce'. -/
def noteOnceUptoCard : Claim7 := { stood := { row := noteOnceUptoRow, standIns := [], harness := (true, "2259f8e6af4b90cb8cd9c91b5fbdf0d719c5f5133959b2cf905fa21f5b5082f6"), looks := false }, kinds := [], alts := [], laidByText := true, laidKinds := [.listed, .data], laidTests := true, laidLooks := .later }
def NoteOnceUptoCardSaid : Prop := Claim7.holds Tryd.pinned (.plain (OpenSpec.upto noteOnceSpec)) noteOnceUptoCard
end Rows
end Go.Proofs.YtpffaenjphnfiaaDoor
