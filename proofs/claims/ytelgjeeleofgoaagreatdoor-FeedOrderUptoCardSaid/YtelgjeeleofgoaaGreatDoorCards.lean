/-
  DERIVED. GIVEN WITH THE SEED: THE CARDS: each row of YtelgjeeleofgoaaGreatDoorRows.lean that lists a variable, with what it lists TIED to the program's text (the seventh form; the later family's looks); each row that meets fmt, with fmt's text TOLD by the authors' own Lean function (tested against real Go, not proved from fmt's source: count such statements apart). THE CARD IS WHAT COUNTS. Prove the row's statement (the work); the ties are given (YtelgjeeleofgoaaGreatDoorTie.lean); close each card by the builder's one call (the guide's Derived/Test/ToyasCard.lean, 'card_holds'). Laid BY PROGRAM, IN A SANDBOX (cutbox-door.mjs). By AI agents, Wed Nov 11 2026. No macro, syntax, notation, axiom, sorry.
-/
import Derived.Test.YtelgjeeleofgoaaGreatDoorRows
import GoSem.ClaimSeven
namespace Go.Proofs.YtelgjeeleofgoaaGreatDoor
namespace Rows

/-- THE TIED CARD OF 'decorumlaw08.FeedResets'. -/
def feedResetsCard : Claim7 := { stood := { row := feedResetsRow, standIns := [], harness := (true, "89648c9959156c9186b04f1c3a5b5c5eb5563f19727f82ae6597547c4b79c0bc"), looks := true }, kinds := [], alts := [], laidByText := true, laidKinds := [.data, .data, .data, .data, .sentinel, .sentinel, .listed, .data, .pinned], laidTests := true, laidLooks := .later }
def FeedResetsCardSaid : Prop := Claim7.holds Tryz.pinned (.plain (OpenSpec.ofChange feedResetsSpec)) feedResetsCard

/-- THE TIED CARD OF 'decorumlaw08.FeedWhole'. -/
def feedWholeCard : Claim7 := { stood := { row := feedWholeRow, standIns := [], harness := (true, "89648c9959156c9186b04f1c3a5b5c5eb5563f19727f82ae6597547c4b79c0bc"), looks := true }, kinds := [], alts := [], laidByText := true, laidKinds := [.data, .data, .data, .data, .sentinel, .sentinel, .listed, .data, .pinned], laidTests := true, laidLooks := .later }
def FeedWholeCardSaid : Prop := Claim7.holds Tryz.pinned (.plain (OpenSpec.ofChange feedWholeSpec)) feedWholeCard

/-- THE TIED CARD OF 'decorumlaw08.FeedLater'. -/
def feedLaterCard : Claim7 := { stood := { row := feedLaterRow, standIns := [], harness := (true, "89648c9959156c9186b04f1c3a5b5c5eb5563f19727f82ae6597547c4b79c0bc"), looks := true }, kinds := [], alts := [], laidByText := true, laidKinds := [.data, .data, .data, .data, .sentinel, .sentinel, .listed, .data, .pinned], laidTests := true, laidLooks := .later }
def FeedLaterCardSaid : Prop := Claim7.holds Tryz.pinned (.plain (OpenSpec.ofChange feedLaterSpec)) feedLaterCard

/-- THE TIED CARD OF 'decorumlaw08.FeedOrder'. -/
def feedOrderCard : Claim7 := { stood := { row := feedOrderRow, standIns := [], harness := (true, "89648c9959156c9186b04f1c3a5b5c5eb5563f19727f82ae6597547c4b79c0bc"), looks := true }, kinds := [], alts := [], laidByText := true, laidKinds := [.data, .data, .data, .data, .sentinel, .sentinel, .listed, .data, .pinned], laidTests := true, laidLooks := .later }
def FeedOrderCardSaid : Prop := Claim7.holds Tryz.pinned (.plain (OpenSpec.ofChange feedOrderSpec)) feedOrderCard

/-- THE TIED CARD OF 'decorumlaw08.FeedMost'. -/
def feedMostCard : Claim7 := { stood := { row := feedMostRow, standIns := [], harness := (true, "89648c9959156c9186b04f1c3a5b5c5eb5563f19727f82ae6597547c4b79c0bc"), looks := true }, kinds := [], alts := [], laidByText := true, laidKinds := [.data, .data, .data, .data, .sentinel, .sentinel, .listed, .data, .pinned], laidTests := true, laidLooks := .later }
def FeedMostCardSaid : Prop := Claim7.holds Tryz.pinned (.plain (OpenSpec.ofChange feedMostSpec)) feedMostCard

/-- THE SECOND FORM's CARD OF 'decorumlaw08.FeedResets'. -/
def feedResetsUptoCard : Claim7 := { stood := { row := feedResetsUptoRow, standIns := [], harness := (true, "89648c9959156c9186b04f1c3a5b5c5eb5563f19727f82ae6597547c4b79c0bc"), looks := true }, kinds := [], alts := [], laidByText := true, laidKinds := [.data, .data, .data, .data, .sentinel, .sentinel, .listed, .data, .pinned], laidTests := true, laidLooks := .later }
def FeedResetsUptoCardSaid : Prop := Claim7.holds Tryz.pinned (.plain (OpenSpec.upto feedResetsSpec)) feedResetsUptoCard

/-- THE SECOND FORM's CARD OF 'decorumlaw08.FeedWhole'. -/
def feedWholeUptoCard : Claim7 := { stood := { row := feedWholeUptoRow, standIns := [], harness := (true, "89648c9959156c9186b04f1c3a5b5c5eb5563f19727f82ae6597547c4b79c0bc"), looks := true }, kinds := [], alts := [], laidByText := true, laidKinds := [.data, .data, .data, .data, .sentinel, .sentinel, .listed, .data, .pinned], laidTests := true, laidLooks := .later }
def FeedWholeUptoCardSaid : Prop := Claim7.holds Tryz.pinned (.plain (OpenSpec.upto feedWholeSpec)) feedWholeUptoCard

/-- THE SECOND FORM's CARD OF 'decorumlaw08.FeedLater'. -/
def feedLaterUptoCard : Claim7 := { stood := { row := feedLaterUptoRow, standIns := [], harness := (true, "89648c9959156c9186b04f1c3a5b5c5eb5563f19727f82ae6597547c4b79c0bc"), looks := true }, kinds := [], alts := [], laidByText := true, laidKinds := [.data, .data, .data, .data, .sentinel, .sentinel, .listed, .data, .pinned], laidTests := true, laidLooks := .later }
def FeedLaterUptoCardSaid : Prop := Claim7.holds Tryz.pinned (.plain (OpenSpec.upto feedLaterSpec)) feedLaterUptoCard

/-- THE SECOND FORM's CARD OF 'decorumlaw08.FeedOrder'. -/
def feedOrderUptoCard : Claim7 := { stood := { row := feedOrderUptoRow, standIns := [], harness := (true, "89648c9959156c9186b04f1c3a5b5c5eb5563f19727f82ae6597547c4b79c0bc"), looks := true }, kinds := [], alts := [], laidByText := true, laidKinds := [.data, .data, .data, .data, .sentinel, .sentinel, .listed, .data, .pinned], laidTests := true, laidLooks := .later }
def FeedOrderUptoCardSaid : Prop := Claim7.holds Tryz.pinned (.plain (OpenSpec.upto feedOrderSpec)) feedOrderUptoCard

/-- THE SECOND FORM's CARD OF 'decorumlaw08.FeedMost'. -/
def feedMostUptoCard : Claim7 := { stood := { row := feedMostUptoRow, standIns := [], harness := (true, "89648c9959156c9186b04f1c3a5b5c5eb5563f19727f82ae6597547c4b79c0bc"), looks := true }, kinds := [], alts := [], laidByText := true, laidKinds := [.data, .data, .data, .data, .sentinel, .sentinel, .listed, .data, .pinned], laidTests := true, laidLooks := .later }
def FeedMostUptoCardSaid : Prop := Claim7.holds Tryz.pinned (.plain (OpenSpec.upto feedMostSpec)) feedMostUptoCard
end Rows
end Go.Proofs.YtelgjeeleofgoaaGreatDoor
