/-
  DERIVED. GIVEN WITH THE SEED: THE CARDS: each row of YtmaielpfeajelaaDoorRows.lean that lists a variable, with what it lists TIED to the program's text (the seventh form; the later family's looks); each row that meets fmt, with fmt's text TOLD by the authors' own Lean function (tested against real Go, not proved from fmt's source: count such statements apart). THE CARD IS WHAT COUNTS. Prove the row's statement (the work); the ties are given (YtmaielpfeajelaaDoorTie.lean); close each card by the builder's one call (the guide's Derived/Test/ToyasCard.lean, 'card_holds'). Laid BY PROGRAM, IN A SANDBOX (cutbox-door.mjs). By AI agents, Wed Nov 11 2026. No macro, syntax, notation, axiom, sorry.
-/
import Derived.Test.YtmaielpfeajelaaDoorRows
import GoSem.ClaimSeven
namespace Go.Proofs.YtmaielpfeajelaaDoor
namespace Rows

/-- THE TIED CARD OF 'annonalaw16.ViewPlays'. -/
def viewPlaysCard : Claim7 := { stood := { row := viewPlaysRow, standIns := [], harness := (true, "ff1d2411ddfe2e18dd7abda937e054285a9c3687895662e446604fff775f318e"), looks := false }, kinds := [], alts := [], laidByText := true, laidKinds := [.data], laidTests := true, laidLooks := .later }
def ViewPlaysCardSaid : Prop := Claim7.holds Tryd.pinned (.plain (OpenSpec.ofChange viewPlaysSpec)) viewPlaysCard

/-- THE TIED CARD OF 'annonalaw16.ViewSilent'. -/
def viewSilentCard : Claim7 := { stood := { row := viewSilentRow, standIns := [], harness := (true, "ff1d2411ddfe2e18dd7abda937e054285a9c3687895662e446604fff775f318e"), looks := false }, kinds := [], alts := [], laidByText := true, laidKinds := [.data], laidTests := true, laidLooks := .later }
def ViewSilentCardSaid : Prop := Claim7.holds Tryd.pinned (.plain (OpenSpec.ofChange viewSilentSpec)) viewSilentCard

/-- THE TIED CARD OF 'annonalaw02.RingTells'. -/
def ringTellsCard : Claim7 := { stood := { row := ringTellsRow, standIns := [], harness := (true, "ff1d2411ddfe2e18dd7abda937e054285a9c3687895662e446604fff775f318e"), looks := false }, kinds := [], alts := [], laidByText := true, laidKinds := [.data], laidTests := true, laidLooks := .later }
def RingTellsCardSaid : Prop := Claim7.holds Tryd.pinned (.plain (OpenSpec.ofChange ringTellsSpec)) ringTellsCard

/-- THE TIED CARD OF 'annonalaw02.RingNth'. -/
def ringNthCard : Claim7 := { stood := { row := ringNthRow, standIns := [], harness := (true, "ff1d2411ddfe2e18dd7abda937e054285a9c3687895662e446604fff775f318e"), looks := false }, kinds := [], alts := [], laidByText := true, laidKinds := [.data], laidTests := true, laidLooks := .later }
def RingNthCardSaid : Prop := Claim7.holds Tryd.pinned (.plain (OpenSpec.ofChange ringNthSpec)) ringNthCard

/-- THE TIED CARD OF 'annonalaw02.RingMeet'. -/
def ringMeetCard : Claim7 := { stood := { row := ringMeetRow, standIns := [], harness := (true, "ff1d2411ddfe2e18dd7abda937e054285a9c3687895662e446604fff775f318e"), looks := false }, kinds := [], alts := [], laidByText := true, laidKinds := [.data], laidTests := true, laidLooks := .later }
def RingMeetCardSaid : Prop := Claim7.holds Tryd.pinned (.plain (OpenSpec.ofChange ringMeetSpec)) ringMeetCard

/-- THE TIED CARD OF 'annonalaw02.RingRound'. -/
def ringRoundCard : Claim7 := { stood := { row := ringRoundRow, standIns := [], harness := (true, "ff1d2411ddfe2e18dd7abda937e054285a9c3687895662e446604fff775f318e"), looks := false }, kinds := [], alts := [], laidByText := true, laidKinds := [.data], laidTests := true, laidLooks := .later }
def RingRoundCardSaid : Prop := Claim7.holds Tryd.pinned (.plain (OpenSpec.ofChange ringRoundSpec)) ringRoundCard

/-- THE SECOND FORM's CARD OF 'annonalaw16.ViewPlays'. -/
def viewPlaysUptoCard : Claim7 := { stood := { row := viewPlaysUptoRow, standIns := [], harness := (true, "ff1d2411ddfe2e18dd7abda937e054285a9c3687895662e446604fff775f318e"), looks := false }, kinds := [], alts := [], laidByText := true, laidKinds := [.data], laidTests := true, laidLooks := .later }
def ViewPlaysUptoCardSaid : Prop := Claim7.holds Tryd.pinned (.plain (OpenSpec.upto viewPlaysSpec)) viewPlaysUptoCard

/-- THE SECOND FORM's CARD OF 'annonalaw16.ViewSilent'. -/
def viewSilentUptoCard : Claim7 := { stood := { row := viewSilentUptoRow, standIns := [], harness := (true, "ff1d2411ddfe2e18dd7abda937e054285a9c3687895662e446604fff775f318e"), looks := false }, kinds := [], alts := [], laidByText := true, laidKinds := [.data], laidTests := true, laidLooks := .later }
def ViewSilentUptoCardSaid : Prop := Claim7.holds Tryd.pinned (.plain (OpenSpec.upto viewSilentSpec)) viewSilentUptoCard

/-- THE SECOND FORM's CARD OF 'annonalaw02.RingTells'. -/
def ringTellsUptoCard : Claim7 := { stood := { row := ringTellsUptoRow, standIns := [], harness := (true, "ff1d2411ddfe2e18dd7abda937e054285a9c3687895662e446604fff775f318e"), looks := false }, kinds := [], alts := [], laidByText := true, laidKinds := [.data], laidTests := true, laidLooks := .later }
def RingTellsUptoCardSaid : Prop := Claim7.holds Tryd.pinned (.plain (OpenSpec.upto ringTellsSpec)) ringTellsUptoCard

/-- THE SECOND FORM's CARD OF 'annonalaw02.RingNth'. -/
def ringNthUptoCard : Claim7 := { stood := { row := ringNthUptoRow, standIns := [], harness := (true, "ff1d2411ddfe2e18dd7abda937e054285a9c3687895662e446604fff775f318e"), looks := false }, kinds := [], alts := [], laidByText := true, laidKinds := [.data], laidTests := true, laidLooks := .later }
def RingNthUptoCardSaid : Prop := Claim7.holds Tryd.pinned (.plain (OpenSpec.upto ringNthSpec)) ringNthUptoCard

/-- THE SECOND FORM's CARD OF 'annonalaw02.RingMeet'. -/
def ringMeetUptoCard : Claim7 := { stood := { row := ringMeetUptoRow, standIns := [], harness := (true, "ff1d2411ddfe2e18dd7abda937e054285a9c3687895662e446604fff775f318e"), looks := false }, kinds := [], alts := [], laidByText := true, laidKinds := [.data], laidTests := true, laidLooks := .later }
def RingMeetUptoCardSaid : Prop := Claim7.holds Tryd.pinned (.plain (OpenSpec.upto ringMeetSpec)) ringMeetUptoCard

/-- THE SECOND FORM's CARD OF 'annonalaw02.RingRound'. -/
def ringRoundUptoCard : Claim7 := { stood := { row := ringRoundUptoRow, standIns := [], harness := (true, "ff1d2411ddfe2e18dd7abda937e054285a9c3687895662e446604fff775f318e"), looks := false }, kinds := [], alts := [], laidByText := true, laidKinds := [.data], laidTests := true, laidLooks := .later }
def RingRoundUptoCardSaid : Prop := Claim7.holds Tryd.pinned (.plain (OpenSpec.upto ringRoundSpec)) ringRoundUptoCard
end Rows
end Go.Proofs.YtmaielpfeajelaaDoor
