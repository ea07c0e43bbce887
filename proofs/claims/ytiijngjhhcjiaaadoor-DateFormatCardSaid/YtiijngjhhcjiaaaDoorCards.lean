/-
  DERIVED. GIVEN WITH THE SEED: THE CARDS: each row of YtiijngjhhcjiaaaDoorRows.lean that lists a variable, with what it lists TIED to the program's text (the seventh form; the later family's looks); each row that meets fmt, with fmt's text TOLD by the authors' own Lean function (tested against real Go, not proved from fmt's source: count such statements apart). THE CARD IS WHAT COUNTS. Prove the row's statement (the work); the ties are given (YtiijngjhhcjiaaaDoorTie.lean); close each card by the builder's one call (the guide's Derived/Test/ToyasCard.lean, 'card_holds'). Laid BY PROGRAM, IN A SANDBOX (cutbox-door.mjs). By AI agents, Wed Nov 11 2026. No macro, syntax, notation, axiom, sorry.
-/
import Derived.Test.YtiijngjhhcjiaaaDoorRows
import GoSem.ClaimSeven
namespace Go.Proofs.YtiijngjhhcjiaaaDoor
namespace Rows

/-- THE TIED CARD OF 'bulletinlaw04.DateCivil'. -/
def dateCivilCard : Claim7 := { stood := { row := dateCivilRow, standIns := [], harness := (true, "3aaee2d5db847df06f5e46f65e2d337d944d1102621d74fe953ac8f893ef1482"), looks := false }, kinds := [], alts := [], laidByText := true, laidKinds := [.data, .data, .data, .data, .pinned, .pinned], laidTests := true, laidLooks := .later }
def DateCivilCardSaid : Prop := Claim7.holds Tryd.pinned (.plain (OpenSpec.ofChange dateCivilSpec)) dateCivilCard

/-- THE TIED CARD OF 'bulletinlaw04.DateFromCivil'. -/
def dateFromCivilCard : Claim7 := { stood := { row := dateFromCivilRow, standIns := [], harness := (true, "3aaee2d5db847df06f5e46f65e2d337d944d1102621d74fe953ac8f893ef1482"), looks := false }, kinds := [], alts := [], laidByText := true, laidKinds := [.data, .data, .data, .data, .pinned, .pinned], laidTests := true, laidLooks := .later }
def DateFromCivilCardSaid : Prop := Claim7.holds Tryd.pinned (.plain (OpenSpec.ofChange dateFromCivilSpec)) dateFromCivilCard

/-- THE TIED CARD OF 'bulletinlaw04.DateFormat'. -/
def dateFormatCard : Claim7 := { stood := { row := dateFormatRow, standIns := [], harness := (true, "3aaee2d5db847df06f5e46f65e2d337d944d1102621d74fe953ac8f893ef1482"), looks := false }, kinds := [], alts := [], laidByText := true, laidKinds := [.data, .data, .data, .data, .pinned, .pinned], laidTests := true, laidLooks := .later }
def DateFormatCardSaid : Prop := Claim7.holds Tryd.pinned (.plain (OpenSpec.ofChange dateFormatSpec)) dateFormatCard

/-- THE TIED CARD OF 'bulletinlaw04.DateOrder'. -/
def dateOrderCard : Claim7 := { stood := { row := dateOrderRow, standIns := [], harness := (true, "3aaee2d5db847df06f5e46f65e2d337d944d1102621d74fe953ac8f893ef1482"), looks := false }, kinds := [], alts := [], laidByText := true, laidKinds := [.data, .data, .data, .data, .pinned, .pinned], laidTests := true, laidLooks := .later }
def DateOrderCardSaid : Prop := Claim7.holds Tryd.pinned (.plain (OpenSpec.ofChange dateOrderSpec)) dateOrderCard

/-- THE TIED CARD OF 'bulletinlaw04.DateRoundTrip'. -/
def dateRoundTripCard : Claim7 := { stood := { row := dateRoundTripRow, standIns := [], harness := (true, "3aaee2d5db847df06f5e46f65e2d337d944d1102621d74fe953ac8f893ef1482"), looks := false }, kinds := [], alts := [], laidByText := true, laidKinds := [.data, .data, .data, .data, .pinned, .pinned], laidTests := true, laidLooks := .later }
def DateRoundTripCardSaid : Prop := Claim7.holds Tryd.pinned (.plain (OpenSpec.ofChange dateRoundTripSpec)) dateRoundTripCard

/-- THE TIED CARD OF 'bulletinlaw04.DateCanonical'. -/
def dateCanonicalCard : Claim7 := { stood := { row := dateCanonicalRow, standIns := [], harness := (true, "3aaee2d5db847df06f5e46f65e2d337d944d1102621d74fe953ac8f893ef1482"), looks := false }, kinds := [], alts := [], laidByText := true, laidKinds := [.data, .data, .data, .data, .pinned, .pinned], laidTests := true, laidLooks := .later }
def DateCanonicalCardSaid : Prop := Claim7.holds Tryd.pinned (.plain (OpenSpec.ofChange dateCanonicalSpec)) dateCanonicalCard

/-- THE TIED CARD OF 'bulletinlaw04.DateDays'. -/
def dateDaysCard : Claim7 := { stood := { row := dateDaysRow, standIns := [], harness := (true, "3aaee2d5db847df06f5e46f65e2d337d944d1102621d74fe953ac8f893ef1482"), looks := false }, kinds := [], alts := [], laidByText := true, laidKinds := [.data, .data, .data, .data, .pinned, .pinned], laidTests := true, laidLooks := .later }
def DateDaysCardSaid : Prop := Claim7.holds Tryd.pinned (.plain (OpenSpec.ofChange dateDaysSpec)) dateDaysCard

/-- THE SECOND FORM's CARD OF 'bulletinlaw04.DateCivil'. -/
def dateCivilUptoCard : Claim7 := { stood := { row := dateCivilUptoRow, standIns := [], harness := (true, "3aaee2d5db847df06f5e46f65e2d337d944d1102621d74fe953ac8f893ef1482"), looks := false }, kinds := [], alts := [], laidByText := true, laidKinds := [.data, .data, .data, .data, .pinned, .pinned], laidTests := true, laidLooks := .later }
def DateCivilUptoCardSaid : Prop := Claim7.holds Tryd.pinned (.plain (OpenSpec.upto dateCivilSpec)) dateCivilUptoCard

/-- THE SECOND FORM's CARD OF 'bulletinlaw04.DateFromCivil'. -/
def dateFromCivilUptoCard : Claim7 := { stood := { row := dateFromCivilUptoRow, standIns := [], harness := (true, "3aaee2d5db847df06f5e46f65e2d337d944d1102621d74fe953ac8f893ef1482"), looks := false }, kinds := [], alts := [], laidByText := true, laidKinds := [.data, .data, .data, .data, .pinned, .pinned], laidTests := true, laidLooks := .later }
def DateFromCivilUptoCardSaid : Prop := Claim7.holds Tryd.pinned (.plain (OpenSpec.upto dateFromCivilSpec)) dateFromCivilUptoCard

/-- THE SECOND FORM's CARD OF 'bulletinlaw04.DateFormat'. -/
def dateFormatUptoCard : Claim7 := { stood := { row := dateFormatUptoRow, standIns := [], harness := (true, "3aaee2d5db847df06f5e46f65e2d337d944d1102621d74fe953ac8f893ef1482"), looks := false }, kinds := [], alts := [], laidByText := true, laidKinds := [.data, .data, .data, .data, .pinned, .pinned], laidTests := true, laidLooks := .later }
def DateFormatUptoCardSaid : Prop := Claim7.holds Tryd.pinned (.plain (OpenSpec.upto dateFormatSpec)) dateFormatUptoCard

/-- THE SECOND FORM's CARD OF 'bulletinlaw04.DateOrder'. -/
def dateOrderUptoCard : Claim7 := { stood := { row := dateOrderUptoRow, standIns := [], harness := (true, "3aaee2d5db847df06f5e46f65e2d337d944d1102621d74fe953ac8f893ef1482"), looks := false }, kinds := [], alts := [], laidByText := true, laidKinds := [.data, .data, .data, .data, .pinned, .pinned], laidTests := true, laidLooks := .later }
def DateOrderUptoCardSaid : Prop := Claim7.holds Tryd.pinned (.plain (OpenSpec.upto dateOrderSpec)) dateOrderUptoCard

/-- THE SECOND FORM's CARD OF 'bulletinlaw04.DateRoundTrip'. -/
def dateRoundTripUptoCard : Claim7 := { stood := { row := dateRoundTripUptoRow, standIns := [], harness := (true, "3aaee2d5db847df06f5e46f65e2d337d944d1102621d74fe953ac8f893ef1482"), looks := false }, kinds := [], alts := [], laidByText := true, laidKinds := [.data, .data, .data, .data, .pinned, .pinned], laidTests := true, laidLooks := .later }
def DateRoundTripUptoCardSaid : Prop := Claim7.holds Tryd.pinned (.plain (OpenSpec.upto dateRoundTripSpec)) dateRoundTripUptoCard

/-- THE SECOND FORM's CARD OF 'bulletinlaw04.DateCanonical'. -/
def dateCanonicalUptoCard : Claim7 := { stood := { row := dateCanonicalUptoRow, standIns := [], harness := (true, "3aaee2d5db847df06f5e46f65e2d337d944d1102621d74fe953ac8f893ef1482"), looks := false }, kinds := [], alts := [], laidByText := true, laidKinds := [.data, .data, .data, .data, .pinned, .pinned], laidTests := true, laidLooks := .later }
def DateCanonicalUptoCardSaid : Prop := Claim7.holds Tryd.pinned (.plain (OpenSpec.upto dateCanonicalSpec)) dateCanonicalUptoCard

/-- THE SECOND FORM's CARD OF 'bulletinlaw04.DateDays'. -/
def dateDaysUptoCard : Claim7 := { stood := { row := dateDaysUptoRow, standIns := [], harness := (true, "3aaee2d5db847df06f5e46f65e2d337d944d1102621d74fe953ac8f893ef1482"), looks := false }, kinds := [], alts := [], laidByText := true, laidKinds := [.data, .data, .data, .data, .pinned, .pinned], laidTests := true, laidLooks := .later }
def DateDaysUptoCardSaid : Prop := Claim7.holds Tryd.pinned (.plain (OpenSpec.upto dateDaysSpec)) dateDaysUptoCard
end Rows
end Go.Proofs.YtiijngjhhcjiaaaDoor
