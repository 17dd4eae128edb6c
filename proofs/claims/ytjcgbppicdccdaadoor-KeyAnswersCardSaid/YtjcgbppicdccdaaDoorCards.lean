/-
  DERIVED. GIVEN WITH THE SEED: THE CARDS: each row of YtjcgbppicdccdaaDoorRows.lean that lists a variable, with what it lists TIED to the program's text (the seventh form; the later family's looks); each row that meets fmt, with fmt's text TOLD by the authors' own Lean function (tested against real Go, not proved from fmt's source: count such statements apart). THE CARD IS WHAT COUNTS. Prove the row's statement (the work); the ties are given (YtjcgbppicdccdaaDoorTie.lean); close each card by the builder's one call (the guide's Derived/Test/ToyasCard.lean, 'card_holds'). Laid BY PROGRAM, IN A SANDBOX (cutbox-door.mjs). By AI agents, Wed Nov 11 2026. No macro, syntax, notation, axiom, sorry.
-/
import Derived.Test.YtjcgbppicdccdaaDoorRows
import GoSem.ClaimSeven
namespace Go.Proofs.YtjcgbppicdccdaaDoor
namespace Rows

/-- THE TIED CARD OF 'interlocklaw05.KeyOrder'. -/
def keyOrderCard : Claim7 := { stood := { row := keyOrderRow, standIns := [], harness := (true, "cbbabbad3cb58deffff72c5b262d2b0c3383ca61268bd026aab25356bf6f9848"), looks := false }, kinds := [], alts := [], laidByText := true, laidKinds := [.data, .pinned], laidTests := true, laidLooks := .later }
def KeyOrderCardSaid : Prop := Claim7.holds Tryd.pinned (.plain (OpenSpec.ofChange keyOrderSpec)) keyOrderCard

/-- THE TIED CARD OF 'interlocklaw05.KeyNext'. -/
def keyNextCard : Claim7 := { stood := { row := keyNextRow, standIns := [], harness := (true, "cbbabbad3cb58deffff72c5b262d2b0c3383ca61268bd026aab25356bf6f9848"), looks := false }, kinds := [], alts := [], laidByText := true, laidKinds := [.data, .pinned], laidTests := true, laidLooks := .later }
def KeyNextCardSaid : Prop := Claim7.holds Tryd.pinned (.plain (OpenSpec.ofChange keyNextSpec)) keyNextCard

/-- THE TIED CARD OF 'interlocklaw05.KeyJoins'. -/
def keyJoinsCard : Claim7 := { stood := { row := keyJoinsRow, standIns := [], harness := (true, "cbbabbad3cb58deffff72c5b262d2b0c3383ca61268bd026aab25356bf6f9848"), looks := false }, kinds := [], alts := [], laidByText := true, laidKinds := [.data, .pinned], laidTests := true, laidLooks := .later }
def KeyJoinsCardSaid : Prop := Claim7.holds Tryd.pinned (.plain (OpenSpec.ofChange keyJoinsSpec)) keyJoinsCard

/-- THE TIED CARD OF 'interlocklaw05.KeyBack'. -/
def keyBackCard : Claim7 := { stood := { row := keyBackRow, standIns := [], harness := (true, "cbbabbad3cb58deffff72c5b262d2b0c3383ca61268bd026aab25356bf6f9848"), looks := false }, kinds := [], alts := [], laidByText := true, laidKinds := [.data, .pinned], laidTests := true, laidLooks := .later }
def KeyBackCardSaid : Prop := Claim7.holds Tryd.pinned (.plain (OpenSpec.ofChange keyBackSpec)) keyBackCard

/-- THE TIED CARD OF 'interlocklaw05.KeyOne'. -/
def keyOneCard : Claim7 := { stood := { row := keyOneRow, standIns := [], harness := (true, "cbbabbad3cb58deffff72c5b262d2b0c3383ca61268bd026aab25356bf6f9848"), looks := false }, kinds := [], alts := [], laidByText := true, laidKinds := [.data, .pinned], laidTests := true, laidLooks := .later }
def KeyOneCardSaid : Prop := Claim7.holds Tryd.pinned (.plain (OpenSpec.ofChange keyOneSpec)) keyOneCard

/-- THE TIED CARD OF 'interlocklaw05.KeyAnswers'. -/
def keyAnswersCard : Claim7 := { stood := { row := keyAnswersRow, standIns := [], harness := (true, "cbbabbad3cb58deffff72c5b262d2b0c3383ca61268bd026aab25356bf6f9848"), looks := false }, kinds := [], alts := [], laidByText := true, laidKinds := [.data, .pinned], laidTests := true, laidLooks := .later }
def KeyAnswersCardSaid : Prop := Claim7.holds Tryd.pinned (.plain (OpenSpec.ofChange keyAnswersSpec)) keyAnswersCard

/-- THE SECOND FORM's CARD OF 'interlocklaw05.KeyOrder'. -/
def keyOrderUptoCard : Claim7 := { stood := { row := keyOrderUptoRow, standIns := [], harness := (true, "cbbabbad3cb58deffff72c5b262d2b0c3383ca61268bd026aab25356bf6f9848"), looks := false }, kinds := [], alts := [], laidByText := true, laidKinds := [.data, .pinned], laidTests := true, laidLooks := .later }
def KeyOrderUptoCardSaid : Prop := Claim7.holds Tryd.pinned (.plain (OpenSpec.upto keyOrderSpec)) keyOrderUptoCard

/-- THE SECOND FORM's CARD OF 'interlocklaw05.KeyNext'. -/
def keyNextUptoCard : Claim7 := { stood := { row := keyNextUptoRow, standIns := [], harness := (true, "cbbabbad3cb58deffff72c5b262d2b0c3383ca61268bd026aab25356bf6f9848"), looks := false }, kinds := [], alts := [], laidByText := true, laidKinds := [.data, .pinned], laidTests := true, laidLooks := .later }
def KeyNextUptoCardSaid : Prop := Claim7.holds Tryd.pinned (.plain (OpenSpec.upto keyNextSpec)) keyNextUptoCard

/-- THE SECOND FORM's CARD OF 'interlocklaw05.KeyJoins'. -/
def keyJoinsUptoCard : Claim7 := { stood := { row := keyJoinsUptoRow, standIns := [], harness := (true, "cbbabbad3cb58deffff72c5b262d2b0c3383ca61268bd026aab25356bf6f9848"), looks := false }, kinds := [], alts := [], laidByText := true, laidKinds := [.data, .pinned], laidTests := true, laidLooks := .later }
def KeyJoinsUptoCardSaid : Prop := Claim7.holds Tryd.pinned (.plain (OpenSpec.upto keyJoinsSpec)) keyJoinsUptoCard

/-- THE SECOND FORM's CARD OF 'interlocklaw05.KeyBack'. -/
def keyBackUptoCard : Claim7 := { stood := { row := keyBackUptoRow, standIns := [], harness := (true, "cbbabbad3cb58deffff72c5b262d2b0c3383ca61268bd026aab25356bf6f9848"), looks := false }, kinds := [], alts := [], laidByText := true, laidKinds := [.data, .pinned], laidTests := true, laidLooks := .later }
def KeyBackUptoCardSaid : Prop := Claim7.holds Tryd.pinned (.plain (OpenSpec.upto keyBackSpec)) keyBackUptoCard

/-- THE SECOND FORM's CARD OF 'interlocklaw05.KeyOne'. -/
def keyOneUptoCard : Claim7 := { stood := { row := keyOneUptoRow, standIns := [], harness := (true, "cbbabbad3cb58deffff72c5b262d2b0c3383ca61268bd026aab25356bf6f9848"), looks := false }, kinds := [], alts := [], laidByText := true, laidKinds := [.data, .pinned], laidTests := true, laidLooks := .later }
def KeyOneUptoCardSaid : Prop := Claim7.holds Tryd.pinned (.plain (OpenSpec.upto keyOneSpec)) keyOneUptoCard

/-- THE SECOND FORM's CARD OF 'interlocklaw05.KeyAnswers'. -/
def keyAnswersUptoCard : Claim7 := { stood := { row := keyAnswersUptoRow, standIns := [], harness := (true, "cbbabbad3cb58deffff72c5b262d2b0c3383ca61268bd026aab25356bf6f9848"), looks := false }, kinds := [], alts := [], laidByText := true, laidKinds := [.data, .pinned], laidTests := true, laidLooks := .later }
def KeyAnswersUptoCardSaid : Prop := Claim7.holds Tryd.pinned (.plain (OpenSpec.upto keyAnswersSpec)) keyAnswersUptoCard
end Rows
end Go.Proofs.YtjcgbppicdccdaaDoor
