/-
  DERIVED. GIVEN WITH THE SEED: THE CARDS: each row of YtpnjgjddabeapaaGreatDoorRows.lean that lists a variable, with what it lists TIED to the program's text (the seventh form; the later family's looks); each row that meets fmt, with fmt's text TOLD by the authors' own Lean function (tested against real Go, not proved from fmt's source: count such statements apart). THE CARD IS WHAT COUNTS. Prove the row's statement (the work); the ties are given (YtpnjgjddabeapaaGreatDoorTie.lean); close each card by the builder's one call (the guide's Derived/Test/ToyasCard.lean, 'card_holds'). Laid BY PROGRAM, IN A SANDBOX (cutbox-door.mjs). By AI agents, Wed Nov 11 2026. No macro, syntax, notation, axiom, sorry.
-/
import Derived.Test.YtpnjgjddabeapaaGreatDoorRows
import GoSem.ClaimSeven
namespace Go.Proofs.YtpnjgjddabeapaaGreatDoor
namespace Rows

/-- THE TIED CARD OF 'baizelaw30.ChainNonces'. -/
def chainNoncesCard : Claim7 := { stood := { row := chainNoncesRow, standIns := [], harness := (true, "064b44b53d8c593ea29345406651a420e187c6d89aada77855f19aae52e574b0"), looks := true }, kinds := [], alts := [], laidByText := true, laidKinds := [.data, .data, .data], laidTests := true, laidLooks := .later }
def ChainNoncesCardSaid : Prop := Claim7.holds Tryz.pinned (.plain (OpenSpec.ofChange chainNoncesSpec)) chainNoncesCard

/-- THE TIED CARD OF 'baizelaw30.ChainMoney'. -/
def chainMoneyCard : Claim7 := { stood := { row := chainMoneyRow, standIns := [], harness := (true, "064b44b53d8c593ea29345406651a420e187c6d89aada77855f19aae52e574b0"), looks := true }, kinds := [], alts := [], laidByText := true, laidKinds := [.data, .data, .data], laidTests := true, laidLooks := .later }
def ChainMoneyCardSaid : Prop := Claim7.holds Tryz.pinned (.plain (OpenSpec.ofChange chainMoneySpec)) chainMoneyCard

/-- THE TIED CARD OF 'baizelaw30.ChainFinal'. -/
def chainFinalCard : Claim7 := { stood := { row := chainFinalRow, standIns := [], harness := (true, "064b44b53d8c593ea29345406651a420e187c6d89aada77855f19aae52e574b0"), looks := true }, kinds := [], alts := [], laidByText := true, laidKinds := [.data, .data, .data], laidTests := true, laidLooks := .later }
def ChainFinalCardSaid : Prop := Claim7.holds Tryz.pinned (.plain (OpenSpec.ofChange chainFinalSpec)) chainFinalCard

/-- THE TIED CARD OF 'baizelaw30.ChainAgain'. -/
def chainAgainCard : Claim7 := { stood := { row := chainAgainRow, standIns := [], harness := (true, "064b44b53d8c593ea29345406651a420e187c6d89aada77855f19aae52e574b0"), looks := true }, kinds := [], alts := [], laidByText := true, laidKinds := [.data, .data, .data], laidTests := true, laidLooks := .later }
def ChainAgainCardSaid : Prop := Claim7.holds Tryz.pinned (.plain (OpenSpec.ofChange chainAgainSpec)) chainAgainCard

/-- THE TIED CARD OF 'baizelaw30.ChainLine'. -/
def chainLineCard : Claim7 := { stood := { row := chainLineRow, standIns := [], harness := (true, "064b44b53d8c593ea29345406651a420e187c6d89aada77855f19aae52e574b0"), looks := true }, kinds := [], alts := [], laidByText := true, laidKinds := [.data, .data, .data], laidTests := true, laidLooks := .later }
def ChainLineCardSaid : Prop := Claim7.holds Tryz.pinned (.plain (OpenSpec.ofChange chainLineSpec)) chainLineCard

/-- THE TIED CARD OF 'baizelaw30.ChainNone'. -/
def chainNoneCard : Claim7 := { stood := { row := chainNoneRow, standIns := [], harness := (true, "064b44b53d8c593ea29345406651a420e187c6d89aada77855f19aae52e574b0"), looks := true }, kinds := [], alts := [], laidByText := true, laidKinds := [.data, .data, .data], laidTests := true, laidLooks := .later }
def ChainNoneCardSaid : Prop := Claim7.holds Tryz.pinned (.plain (OpenSpec.ofChange chainNoneSpec)) chainNoneCard

/-- THE TIED CARD OF 'baizelaw30.ChainPlays'. -/
def chainPlaysCard : Claim7 := { stood := { row := chainPlaysRow, standIns := [], harness := (true, "064b44b53d8c593ea29345406651a420e187c6d89aada77855f19aae52e574b0"), looks := true }, kinds := [], alts := [], laidByText := true, laidKinds := [.data, .data, .data], laidTests := true, laidLooks := .later }
def ChainPlaysCardSaid : Prop := Claim7.holds Tryz.pinned (.plain (OpenSpec.ofChange chainPlaysSpec)) chainPlaysCard

/-- THE SECOND FORM's CARD OF 'baizelaw30.ChainNonces'. -/
def chainNoncesUptoCard : Claim7 := { stood := { row := chainNoncesUptoRow, standIns := [], harness := (true, "064b44b53d8c593ea29345406651a420e187c6d89aada77855f19aae52e574b0"), looks := true }, kinds := [], alts := [], laidByText := true, laidKinds := [.data, .data, .data], laidTests := true, laidLooks := .later }
def ChainNoncesUptoCardSaid : Prop := Claim7.holds Tryz.pinned (.plain (OpenSpec.upto chainNoncesSpec)) chainNoncesUptoCard

/-- THE SECOND FORM's CARD OF 'baizelaw30.ChainMoney'. -/
def chainMoneyUptoCard : Claim7 := { stood := { row := chainMoneyUptoRow, standIns := [], harness := (true, "064b44b53d8c593ea29345406651a420e187c6d89aada77855f19aae52e574b0"), looks := true }, kinds := [], alts := [], laidByText := true, laidKinds := [.data, .data, .data], laidTests := true, laidLooks := .later }
def ChainMoneyUptoCardSaid : Prop := Claim7.holds Tryz.pinned (.plain (OpenSpec.upto chainMoneySpec)) chainMoneyUptoCard

/-- THE SECOND FORM's CARD OF 'baizelaw30.ChainFinal'. -/
def chainFinalUptoCard : Claim7 := { stood := { row := chainFinalUptoRow, standIns := [], harness := (true, "064b44b53d8c593ea29345406651a420e187c6d89aada77855f19aae52e574b0"), looks := true }, kinds := [], alts := [], laidByText := true, laidKinds := [.data, .data, .data], laidTests := true, laidLooks := .later }
def ChainFinalUptoCardSaid : Prop := Claim7.holds Tryz.pinned (.plain (OpenSpec.upto chainFinalSpec)) chainFinalUptoCard

/-- THE SECOND FORM's CARD OF 'baizelaw30.ChainAgain'. -/
def chainAgainUptoCard : Claim7 := { stood := { row := chainAgainUptoRow, standIns := [], harness := (true, "064b44b53d8c593ea29345406651a420e187c6d89aada77855f19aae52e574b0"), looks := true }, kinds := [], alts := [], laidByText := true, laidKinds := [.data, .data, .data], laidTests := true, laidLooks := .later }
def ChainAgainUptoCardSaid : Prop := Claim7.holds Tryz.pinned (.plain (OpenSpec.upto chainAgainSpec)) chainAgainUptoCard

/-- THE SECOND FORM's CARD OF 'baizelaw30.ChainLine'. -/
def chainLineUptoCard : Claim7 := { stood := { row := chainLineUptoRow, standIns := [], harness := (true, "064b44b53d8c593ea29345406651a420e187c6d89aada77855f19aae52e574b0"), looks := true }, kinds := [], alts := [], laidByText := true, laidKinds := [.data, .data, .data], laidTests := true, laidLooks := .later }
def ChainLineUptoCardSaid : Prop := Claim7.holds Tryz.pinned (.plain (OpenSpec.upto chainLineSpec)) chainLineUptoCard

/-- THE SECOND FORM's CARD OF 'baizelaw30.ChainNone'. -/
def chainNoneUptoCard : Claim7 := { stood := { row := chainNoneUptoRow, standIns := [], harness := (true, "064b44b53d8c593ea29345406651a420e187c6d89aada77855f19aae52e574b0"), looks := true }, kinds := [], alts := [], laidByText := true, laidKinds := [.data, .data, .data], laidTests := true, laidLooks := .later }
def ChainNoneUptoCardSaid : Prop := Claim7.holds Tryz.pinned (.plain (OpenSpec.upto chainNoneSpec)) chainNoneUptoCard

/-- THE SECOND FORM's CARD OF 'baizelaw30.ChainPlays'. -/
def chainPlaysUptoCard : Claim7 := { stood := { row := chainPlaysUptoRow, standIns := [], harness := (true, "064b44b53d8c593ea29345406651a420e187c6d89aada77855f19aae52e574b0"), looks := true }, kinds := [], alts := [], laidByText := true, laidKinds := [.data, .data, .data], laidTests := true, laidLooks := .later }
def ChainPlaysUptoCardSaid : Prop := Claim7.holds Tryz.pinned (.plain (OpenSpec.upto chainPlaysSpec)) chainPlaysUptoCard
end Rows
end Go.Proofs.YtpnjgjddabeapaaGreatDoor
